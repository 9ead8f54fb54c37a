/- ModuleSame: its walk. -/
import Derived.Test.YtdhfinpmcikimaaDoorMi
namespace Go.Proofs.YtdhfinpmcikimaaDoor.K
open Go.RowKit
set_option linter.unusedVariables false
set_option linter.unusedSimpArgs false
set_option maxHeartbeats 16000000 in
set_option maxRecDepth 20000 in
theorem msame_walk {h : Nat} (a b qty other minus : Int) (w : World) (hk : Kn h w) (ha : 0 ≤ a ∧ a < 65536) (hb : 0 ≤ b ∧ b < 65536) (hq : 0 ≤ qty ∧ qty < 65536) (ho : 0 ≤ other ∧ other < 65536) :
    Calls Tryd.prog 5 #[.int .u16 a, .int .u16 b, .int .u16 qty, .int .u16 other, .int .i64 minus] w fun e w' => e = .returned (.bool true) ∧ Below w.heap.size w w' := by
  have HK := Lib.hid hk
  have HA := Lib.hid ha
  have HB := Lib.hid hb
  have HQ := Lib.hid hq
  have HO := Lib.hid ho
  obtain ⟨mm, _, hmm⟩ := and_mask minus 65535 (by decide)
  obtain ⟨km, hkm⟩ : ∃ km, km = mm % 11 := ⟨_, rfl⟩
  have hk10 : km ≤ 10 := by omega
  have hkr : (mm : Int).tmod 11 = (km : Int) := by rw [hkm, Int.tmod_eq_emod_of_nonneg (by omega)]; omega
  have hmm' : bits .and .i64 minus 65535 = (mm : Int) := hmm
  have HT1 : Hid (tellsL ⟨1, 0, 0, 3, []⟩ ⟨false, false, 0, 0, 0⟩ 0 0 (bytesM 1 a qty) = ⟨[], ⟨1, 0, 1, 3, []⟩, ⟨true, false, a, qty, qty⟩, 1, 0⟩) := Lib.hid (by
    have := tells_cmd (tl := 0) (nx := 0) (ack := 0) (d := ⟨false, false, 0, 0, 0⟩) (.inl rfl) HA.out HQ.out
    rw [show doesS (⟨false, false, 0, 0, 0⟩ : Dp) false 1 a qty = ⟨true, false, a, qty, qty⟩ by simp [doesS, sameD]] at this
    exact this)
  clear hk ha hb hq ho hkm hmm
  go_enter Tryd.func5, Tryd.ntmps5
  go_wp2_with fail
  refine Calls.mono (shown11_walk HK.out) ?_
  rintro e w1 ⟨rfl, FS⟩
  have HK1 := Lib.hid (HK.out.fr0 FS.out)
  go_wp2_with fail
  refine Calls.mono (OpenedC w1) ?_
  rintro e w2 ⟨l, m, s, A2, c2, rfl, HL2, HF2⟩
  have l2 := HL2.out.blk.cell 0
  go_wp2_with fail
  refine Calls.mono (CmdBytesC (k := 1) (t := a) (q := qty) _ ⟨by decide, by decide⟩ HA.out HQ.out) ?_
  rintro e w3 ⟨BA, bc, rfl, HM, F⟩
  have HL3 := Lib.hid (HL2.out.fr0 F.out)
  have HF3 := Lib.hid (HF2.out.trans F.out (fun _ _ h => h))
  have l3 := HL3.out.blk.cell 0
  have qT := TellsE (n := 5) (bc := bc) (bytesM_len _ _ _) HL3.out (by simp) HM.out.2.1 (by decide) (bytesM_in ⟨by decide, by decide⟩ HA.out HQ.out) (fun ad e => ⟨made_ne HM.out HL3.out.mo.sb.blk (by decide) ad e, made_ne HM.out HL3.out.blk (by decide) ad e⟩) (.inl rfl) (.inl rfl) HT1.out
  clear HL2 HF2 l2  HM F
  go_wp2_with fail
  refine Calls.mono qT ?_
  clear qT
  rintro e w4 ⟨rfl, A4, c4, HL4, F⟩
  have HF4 := Lib.hid (HL3.out.out0 (Nat.le_refl _) HF3.out F.out)
  have l4 := HL4.out.blk.cell 0
  clear HL3 HF3 l3  F
  have hkm0 : (0 : Int) ≤ (km : Int) := by omega
  go_wp2_with fail
  go_loopw [13, 14] (fun nv iv wr => ∃ (i : Nat) (A' : Option Addr) (c' : Nat) (bt' : BS), nv = .int .i64 (1 + 10 * i) ∧ iv = .int .i64 i ∧ i ≤ km ∧ LiB w1.heap.size l m s A' c' ⟨1, 0, 1, 3, []⟩ ⟨true, false, a, max (qty - i) 0, qty⟩ bt' 1 0 wr ∧ AllUp bt' ∧ Fr0 w1 wr) (fun _ iv _ => km - (intOf iv).toNat)
  case atStart => exact ⟨0, A4, c4, z4, rfl, rfl, by omega, by have := HQ.out; rw [show max (qty - ((0 : Nat) : Int)) 0 = qty by omega]; exact HL4.out, z4_up, HF4.out⟩
  case round =>
    clear HL4 HF4 l4
    obtain ⟨i, A', c', bt', rfl, rfl, hik, hl, hup, hf⟩ := hrel
    have HL := Lib.hid hl
    have HF := Lib.hid hf
    have HUP := Lib.hid hup
    have l0 := hl.blk.cell 0
    clear hl hf hup
    by_cases hlt : i < km
    · have qP := PressC (h := h) (b := 2) (now := 1 + 10 * (i : Int)) HL.out ⟨HA.out, by have := HQ.out; constructor <;> simp only <;> omega, HQ.out⟩ (HK1.out.fr0 HF.out) (by simp) HUP.out (by decide) ⟨by omega, by omega⟩
      have hst : stepP ((⟨true, false, a, max (qty - i) 0, qty⟩ : Dp), (⟨1, 0, 1, 3, []⟩ : Sl)) ((2 : Nat) : Int) = (⟨true, false, a, max (qty - ((i + 1 : Nat) : Int)) 0, qty⟩, ⟨1, 0, 1, 3, []⟩) := by
        have h1 : stepP ((⟨true, false, a, max (qty - i) 0, qty⟩ : Dp), (⟨1, 0, 1, 3, []⟩ : Sl)) ((2 : Nat) : Int) = (⟨true, false, a, max (max (qty - i) 0) 1 - 1, qty⟩, ⟨1, 0, 1, 3, []⟩) := rfl
        rw [h1, show max (max (qty - (i : Int)) 0) 1 - 1 = max (qty - ((i + 1 : Nat) : Int)) 0 by omega]
      rw [hst] at qP
      clear hst
      go_wp2_with fail
      refine Calls.mono qP ?_
      clear qP
      rintro e w7 ⟨rfl, A7, c7, bt7, HL7, HU7, F7⟩
      have HF7 := Lib.hid (HL.out.out0 (Nat.le_refl _) HF.out (frms F7.out))
      clear HL HF HUP l0 F7
      go_wp2
      go_roundw
      case rel => exact ⟨i + 1, A7, c7, bt7, by go_num, by go_num, by omega, HL7.out, HU7.out, HF7.out⟩
      case measure => simp [intOf]; omega
    · obtain rfl : i = km := by omega
      obtain ⟨qm, hqm⟩ : ∃ qm, max (qty - (i : Int)) 0 = qm := ⟨_, rfl⟩
      have hq0 : 0 ≤ qm ∧ qm < 65536 := by have := HQ.out; omega
      have HQM := Lib.hid hq0
      have HQE := Lib.hid hqm
      rw [hqm] at HL
      clear hqm hq0
      generalize wr = w5 at *
      have HL5 := HL
      have HF5 := HF
      have l5 := l0
      clear HL HF l0
      have qS := MShowC HL5.out.mo
      go_wp2_with fail
      refine Calls.mono qS ?_
      clear qS
      rintro e w6 ⟨rfl, F⟩
      have FD : Fr0 w5 (w6.alloc (.cells (dpv ⟨true, false, a, qm, qty⟩) 44)) := F.out.alloc _
      have HL7 := Lib.hid (HL5.out.fr0 FD)
      have HF7 := Lib.hid (HF5.out.trans FD (fun _ _ h => h))
      have l7 := HL7.out.blk.cell 0
      have HBW7 := Lib.hid (Blk.new w6 44 (dpv ⟨true, false, a, qm, qty⟩))
      clear HL5 HF5 l5  F FD
      go_wp2_with fail
      generalize w6.alloc (.cells (dpv ⟨true, false, a, qm, qty⟩) 44) = w7 at *
      generalize w6.heap.size = gW at *
      have HT2 : Hid (tellsL ⟨1, 0, 1, 3, []⟩ ⟨true, false, a, qm, qty⟩ 1 0 (bytesM 1 a other) = ⟨[], ⟨1, 0, 0, 3, []⟩, ⟨true, false, a, qm, qty⟩, 0, 0⟩) := Lib.hid (by
        have := tells_cmd (tl := 0) (nx := 1) (ack := 0) (d := ⟨true, false, a, qm, qty⟩) (.inl rfl) HA.out HO.out
        rw [show doesS (⟨true, false, a, qm, qty⟩ : Dp) false 1 a other = ⟨true, false, a, qm, qty⟩ by simp [doesS, sameD]] at this
        exact this)
      go_wp2_with fail
      refine Calls.mono (CmdBytesC (k := 1) (t := a) (q := other) _ ⟨by decide, by decide⟩ HA.out HO.out) ?_
      rintro e w8 ⟨BA, bc, rfl, HM, F⟩
      have HL8 := Lib.hid (HL7.out.fr0 F.out)
      have HF8 := Lib.hid (HF7.out.trans F.out (fun _ _ h => h))
      have HBW8 := Lib.hid (HBW7.out.fr F.out (fun h => h))
      have l8 := HL8.out.blk.cell 0
      have qT := TellsE (n := 5) (bc := bc) (bytesM_len _ _ _) HL8.out (by simp) HM.out.2.1 (by decide) (bytesM_in ⟨by decide, by decide⟩ HA.out HO.out) (fun ad e => ⟨made_ne HM.out HL8.out.mo.sb.blk (by decide) ad e, made_ne HM.out HL8.out.blk (by decide) ad e⟩) (.inr rfl) (.inl rfl) HT2.out
      clear HL7 HF7 l7 HBW7 HM F
      go_wp2_with fail
      refine Calls.mono qT ?_
      clear qT
      rintro e w9 ⟨rfl, A9, c9, HL9, F⟩
      have HF9 := Lib.hid (HL8.out.out0 (Nat.le_refl _) HF8.out F.out)
      have HBW9 := Lib.hid (HL8.out.keep HBW8.out (by decide) (by decide) (by decide) F.out)
      have l9 := HL9.out.blk.cell 0
      clear HL8 HF8 l8 HBW8 F
      have qS := MShowC HL9.out.mo
      go_wp2_with fail
      refine Calls.mono qS ?_
      clear qS
      rintro e w10 ⟨rfl, F⟩
      have FD : Fr0 w9 (w10.alloc (.cells (dpv ⟨true, false, a, qm, qty⟩) 44)) := F.out.alloc _
      have HL11 := Lib.hid (HL9.out.fr0 FD)
      have HF11 := Lib.hid (HF9.out.trans FD (fun _ _ h => h))
      have HBW11 := Lib.hid (HBW9.out.fr FD (fun h => h))
      have l11 := HL11.out.blk.cell 0
      have HBO11 := Lib.hid (Blk.new w10 44 (dpv ⟨true, false, a, qm, qty⟩))
      clear HL9 HF9 l9 HBW9 F FD
      go_upto_region 15 with (fail)
      generalize w10.alloc (.cells (dpv ⟨true, false, a, qm, qty⟩) 44) = w11 at *
      generalize w10.heap.size = gO at *
      have xW0 := HBW11.out.cell 0
      have xW1 := HBW11.out.cell 1
      have xW2 := HBW11.out.cell 2
      have xW3 := HBW11.out.cell 3
      have xW4 := HBW11.out.cell 4
      have xO0 := HBO11.out.cell 0
      have xO1 := HBO11.out.cell 1
      have xO2 := HBO11.out.cell 2
      have xO3 := HBO11.out.cell 3
      have xO4 := HBO11.out.cell 4
      have hnq := neqD ⟨true, false, a, qm, qty⟩ w11
      simp only at hnq
      have hw1 : IntKind.i64.wrap (qty - (i : Int)) = qty - (i : Int) := by have := HQ.out; rw [IntKind.wrap_i64]; omega
      have hw2 : IntKind.i64.wrap qm = qm := by have := HQM.out; rw [IntKind.wrap_i64]; omega
      have hw3 : IntKind.i64.wrap qty = qty := by have := HQ.out; rw [IntKind.wrap_i64]; omega
      have hmx : (qm != max (qty - (i : Int)) 0) = false := by rw [HQE.out]; simp
      by_cases hab : a = b
      · have HT3 : Hid (tellsL ⟨1, 0, 0, 3, []⟩ ⟨true, false, a, qm, qty⟩ 0 0 (bytesM 2 b 0) = ⟨[], ⟨1, 0, 1, 3, []⟩, ⟨false, false, 0, 0, 0⟩, 1, 0⟩) := Lib.hid (by
          have := tells_cmd (tl := 0) (nx := 0) (ack := 0) (q := 0) (d := ⟨true, false, a, qm, qty⟩) (.inr rfl) HB.out ⟨by decide, by decide⟩
          rw [show doesS (⟨true, false, a, qm, qty⟩ : Dp) false 2 b 0 = ⟨false, false, 0, 0, 0⟩ by simp [doesS, sameD, hab]] at this
          exact this)
        have bab : (a == b) = true := by simp [hab]
        clear hab
        go_wp2_with fail
        refine Calls.mono (CmdBytesC (k := 2) (t := b) (q := 0) _ ⟨by decide, by decide⟩ HB.out ⟨by decide, by decide⟩) ?_
        rintro e w12 ⟨BA, bc, rfl, HM, F⟩
        have HL12 := Lib.hid (HL11.out.fr0 F.out)
        have HF12 := Lib.hid (HF11.out.trans F.out (fun _ _ h => h))
        have HBW12 := Lib.hid (HBW11.out.fr F.out (fun h => h))
        have HBO12 := Lib.hid (HBO11.out.fr F.out (fun h => h))
        have l12 := HL12.out.blk.cell 0
        have qT := TellsE (n := 5) (bc := bc) (bytesM_len _ _ _) HL12.out (by simp) HM.out.2.1 (by decide) (bytesM_in ⟨by decide, by decide⟩ HB.out ⟨by decide, by decide⟩) (fun ad e => ⟨made_ne HM.out HL12.out.mo.sb.blk (by decide) ad e, made_ne HM.out HL12.out.blk (by decide) ad e⟩) (.inl rfl) (.inl rfl) HT3.out
        clear HL11 HF11 l11 HBW11 HBO11 HM F
        go_wp2_with fail
        refine Calls.mono qT ?_
        clear qT
        rintro e w13 ⟨rfl, A13, c13, HL13, F⟩
        have HF13 := Lib.hid (HL12.out.out0 (Nat.le_refl _) HF12.out F.out)
        have HBW13 := Lib.hid (HL12.out.keep HBW12.out (by decide) (by decide) (by decide) F.out)
        have HBO13 := Lib.hid (HL12.out.keep HBO12.out (by decide) (by decide) (by decide) F.out)
        have l13 := HL13.out.blk.cell 0
        clear HL12 HF12 l12 HBW12 HBO12 F
        have qS := MShowC HL13.out.mo
        go_wp2_with fail
        refine Calls.mono qS ?_
        clear qS
        rintro e w14 ⟨rfl, F⟩
        have HL14 := Lib.hid (HL13.out.fr0 F.out)
        have HF14 := Lib.hid (HF13.out.trans F.out (fun _ _ h => h))
        have HBW14 := Lib.hid (HBW13.out.fr F.out (fun h => h))
        have HBO14 := Lib.hid (HBO13.out.fr F.out (fun h => h))
        have l14 := HL14.out.blk.cell 0
        clear HL13 HF13 l13 HBW13 HBO13 F
        have heq := eqlD ⟨false, false, 0, 0, 0⟩ w14
        simp only at heq
        go_wp2
        go_ret
        exact ⟨rfl, ((FS.out.trans HF14.out (fun _ _ h => h))).below0⟩
      · have HT3 : Hid (tellsL ⟨1, 0, 0, 3, []⟩ ⟨true, false, a, qm, qty⟩ 0 0 (bytesM 2 b 0) = ⟨[], ⟨1, 0, 1, 3, []⟩, ⟨true, false, a, qm, qty⟩, 1, 0⟩) := Lib.hid (by
          have := tells_cmd (tl := 0) (nx := 0) (ack := 0) (q := 0) (d := ⟨true, false, a, qm, qty⟩) (.inr rfl) HB.out ⟨by decide, by decide⟩
          rw [show doesS (⟨true, false, a, qm, qty⟩ : Dp) false 2 b 0 = ⟨true, false, a, qm, qty⟩ by simp [doesS, sameD, hab]] at this
          exact this)
        have HT4 : Hid (tellsL ⟨1, 0, 1, 3, []⟩ ⟨true, false, a, qm, qty⟩ 1 0 (bytesM 1 b other) = ⟨[], ⟨1, 0, 0, 3, []⟩, ⟨true, false, b, other, other⟩, 0, 0⟩) := Lib.hid (by
          have := tells_cmd (tl := 0) (nx := 1) (ack := 0) (d := ⟨true, false, a, qm, qty⟩) (.inl rfl) HB.out HO.out
          rw [show doesS (⟨true, false, a, qm, qty⟩ : Dp) false 1 b other = ⟨true, false, b, other, other⟩ by simp [doesS, sameD, hab]] at this
          exact this)
        have bab : (a == b) = false := by simp [hab]
        clear hab
        go_wp2_with fail
        refine Calls.mono (CmdBytesC (k := 2) (t := b) (q := 0) _ ⟨by decide, by decide⟩ HB.out ⟨by decide, by decide⟩) ?_
        rintro e w12 ⟨BA, bc, rfl, HM, F⟩
        have HL12 := Lib.hid (HL11.out.fr0 F.out)
        have HF12 := Lib.hid (HF11.out.trans F.out (fun _ _ h => h))
        have HBW12 := Lib.hid (HBW11.out.fr F.out (fun h => h))
        have HBO12 := Lib.hid (HBO11.out.fr F.out (fun h => h))
        have l12 := HL12.out.blk.cell 0
        have qT := TellsE (n := 5) (bc := bc) (bytesM_len _ _ _) HL12.out (by simp) HM.out.2.1 (by decide) (bytesM_in ⟨by decide, by decide⟩ HB.out ⟨by decide, by decide⟩) (fun ad e => ⟨made_ne HM.out HL12.out.mo.sb.blk (by decide) ad e, made_ne HM.out HL12.out.blk (by decide) ad e⟩) (.inl rfl) (.inl rfl) HT3.out
        clear HL11 HF11 l11 HBW11 HBO11 HM F
        go_wp2_with fail
        refine Calls.mono qT ?_
        clear qT
        rintro e w13 ⟨rfl, A13, c13, HL13, F⟩
        have HF13 := Lib.hid (HL12.out.out0 (Nat.le_refl _) HF12.out F.out)
        have HBW13 := Lib.hid (HL12.out.keep HBW12.out (by decide) (by decide) (by decide) F.out)
        have HBO13 := Lib.hid (HL12.out.keep HBO12.out (by decide) (by decide) (by decide) F.out)
        have l13 := HL13.out.blk.cell 0
        clear HL12 HF12 l12 HBW12 HBO12 F
        have qS := MShowC HL13.out.mo
        go_wp2_with fail
        refine Calls.mono qS ?_
        clear qS
        rintro e w14 ⟨rfl, F⟩
        have FD : Fr0 w13 (w14.alloc (.cells (dpv ⟨true, false, a, qm, qty⟩) 44)) := F.out.alloc _
        have HL15 := Lib.hid (HL13.out.fr0 FD)
        have HF15 := Lib.hid (HF13.out.trans FD (fun _ _ h => h))
        have HBW15 := Lib.hid (HBW13.out.fr FD (fun h => h))
        have HBO15 := Lib.hid (HBO13.out.fr FD (fun h => h))
        have l15 := HL15.out.blk.cell 0
        have HBT15 := Lib.hid (Blk.new w14 44 (dpv ⟨true, false, a, qm, qty⟩))
        clear HL13 HF13 l13 HBW13 HBO13 F FD
        go_wp2_with fail
        generalize w14.alloc (.cells (dpv ⟨true, false, a, qm, qty⟩) 44) = w15 at *
        generalize w14.heap.size = gT at *
        go_wp2_with fail
        refine Calls.mono (CmdBytesC (k := 1) (t := b) (q := other) _ ⟨by decide, by decide⟩ HB.out HO.out) ?_
        rintro e w16 ⟨BA, bc, rfl, HM, F⟩
        have HL16 := Lib.hid (HL15.out.fr0 F.out)
        have HF16 := Lib.hid (HF15.out.trans F.out (fun _ _ h => h))
        have HBW16 := Lib.hid (HBW15.out.fr F.out (fun h => h))
        have HBO16 := Lib.hid (HBO15.out.fr F.out (fun h => h))
        have HBT16 := Lib.hid (HBT15.out.fr F.out (fun h => h))
        have l16 := HL16.out.blk.cell 0
        have qT := TellsE (n := 5) (bc := bc) (bytesM_len _ _ _) HL16.out (by simp) HM.out.2.1 (by decide) (bytesM_in ⟨by decide, by decide⟩ HB.out HO.out) (fun ad e => ⟨made_ne HM.out HL16.out.mo.sb.blk (by decide) ad e, made_ne HM.out HL16.out.blk (by decide) ad e⟩) (.inr rfl) (.inl rfl) HT4.out
        clear HL15 HF15 l15 HBW15 HBO15 HBT15 HM F
        go_wp2_with fail
        refine Calls.mono qT ?_
        clear qT
        rintro e w17 ⟨rfl, A17, c17, HL17, F⟩
        have HF17 := Lib.hid (HL16.out.out0 (Nat.le_refl _) HF16.out F.out)
        have HBW17 := Lib.hid (HL16.out.keep HBW16.out (by decide) (by decide) (by decide) F.out)
        have HBO17 := Lib.hid (HL16.out.keep HBO16.out (by decide) (by decide) (by decide) F.out)
        have HBT17 := Lib.hid (HL16.out.keep HBT16.out (by decide) (by decide) (by decide) F.out)
        have l17 := HL17.out.blk.cell 0
        clear HL16 HF16 l16 HBW16 HBO16 HBT16 F
        clear xW0 xW1 xW2 xW3 xW4 xO0 xO1 xO2 xO3 xO4
        have xW0 := HBW17.out.cell 0
        have xW1 := HBW17.out.cell 1
        have xW2 := HBW17.out.cell 2
        have xW3 := HBW17.out.cell 3
        have xW4 := HBW17.out.cell 4
        have xT0 := HBT17.out.cell 0
        have xT1 := HBT17.out.cell 1
        have xT2 := HBT17.out.cell 2
        have xT3 := HBT17.out.cell 3
        have xT4 := HBT17.out.cell 4
        have heq := eqlD ⟨true, false, a, qm, qty⟩ w17
        simp only at heq
        have qS := MShowC HL17.out.mo
        go_wp2_with fail
        refine Calls.mono qS ?_
        clear qS
        rintro e w18 ⟨rfl, F⟩
        have HL18 := Lib.hid (HL17.out.fr0 F.out)
        have HF18 := Lib.hid (HF17.out.trans F.out (fun _ _ h => h))
        have HBW18 := Lib.hid (HBW17.out.fr F.out (fun h => h))
        have HBO18 := Lib.hid (HBO17.out.fr F.out (fun h => h))
        have HBT18 := Lib.hid (HBT17.out.fr F.out (fun h => h))
        have l18 := HL18.out.blk.cell 0
        clear HL17 HF17 l17 HBW17 HBO17 HBT17 F
        have heq2 := eqlD ⟨true, false, b, other, other⟩ w18
        simp only at heq2
        go_wp2
        go_ret
        exact ⟨rfl, ((FS.out.trans HF18.out (fun _ _ h => h))).below0⟩
theorem msame_row {W : World} (hk : ∃ h, Kn h W) (a b qty other minus : Int) (ha : 0 ≤ a ∧ a < 65536) (hb : 0 ≤ b ∧ b < 65536) (hq : 0 ≤ qty ∧ qty < 65536) (ho : 0 ≤ other ∧ other < 65536) :
    Calls Tryd.prog 5 #[.int .u16 a, .int .u16 b, .int .u16 qty, .int .u16 other, .int .i64 minus] W fun e w' => e = .returned (.bool true) ∧ Below W.heap.size W w' := by
  obtain ⟨h, hk⟩ := hk
  exact msame_walk a b qty other minus W hk ha hb hq ho
end Go.Proofs.YtdhfinpmcikimaaDoor.K
