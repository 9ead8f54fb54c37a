/- ModuleReset: its walk. -/
import Derived.Test.YtdhfinpmcikimaaDoorMk
import Derived.Test.YtdhfinpmcikimaaDoorMDark11
import Derived.Deep.CutBlock
import Derived.Deep.DeepCutAuto
namespace Go.Proofs.YtdhfinpmcikimaaDoor.K
open Go.RowKit
set_option linter.unusedVariables false
set_option linter.unusedSimpArgs false
set_option maxHeartbeats 16000000 in
set_option maxRecDepth 20000 in
theorem mreset_walk {h : Nat} (A : Option Addr) (c : Nat) (ls : List Int) (token qty : Int) (w : World) (hk : Kn h w) (hr : RowOf c8 1 w w.heap.size A ls) (ht : 0 ≤ token ∧ token < 65536) (hq : 0 ≤ qty ∧ qty < 65536) :
    Calls Tryd.prog 7 #[.slice A ls.length c, .int .u16 token, .int .u16 qty] w fun e w' => e = .returned (.bool true) ∧ Below w.heap.size w w' := by
  have HK := Lib.hid hk
  have HR := Lib.hid hr
  have HT := Lib.hid ht
  have HQ := Lib.hid hq
  have HT1 : Hid (tellsL ⟨1, 0, 0, 3, []⟩ ⟨false, false, 0, 0, 0⟩ 0 0 (bytesM 1 token qty) = ⟨[], ⟨1, 0, 1, 3, []⟩, ⟨true, false, token, qty, qty⟩, 1, 0⟩) := Lib.hid (by
    have := tells_cmd (tl := 0) (nx := 0) (ack := 0) (d := ⟨false, false, 0, 0, 0⟩) (.inl rfl) HT.out HQ.out
    rw [show doesS (⟨false, false, 0, 0, 0⟩ : Dp) false 1 token qty = ⟨true, false, token, qty, qty⟩ by simp [doesS, sameD]] at this
    exact this)
  clear hk hr ht hq
  go_enter Tryd.func7, Tryd.ntmps7
  go_wp2_with fail
  refine Calls.mono (shown11_walk HK.out) ?_
  rintro e w1 ⟨rfl, FS⟩
  have HK1 := Lib.hid (HK.out.fr0 FS.out)
  go_wp2_with fail
  refine Calls.mono (OpenedC w1) ?_
  rintro e w2 ⟨l, m, s, A2, c2, rfl, HL2, HF2⟩
  have l2 := HL2.out.blk.cell 0
  have FL : Fr0 w2 (w2.alloc (.cells #[.int .u8 1, .int .u8 (token / 256 % 256), .int .u8 (token % 256), .int .u8 (qty / 256 % 256), .int .u8 (qty % 256)] 5)) := (Fr.refl (fun _ => False) w2).alloc _
  have HL3 := Lib.hid (HL2.out.fr0 FL)
  have HF3 := Lib.hid (HF2.out.trans FL (fun _ _ h => h))
  have l3 := HL3.out.blk.cell 0
  have HBL3 := Lib.hid (Blk.new w2 5 #[.int .u8 1, .int .u8 (token / 256 % 256), .int .u8 (token % 256), .int .u8 (qty / 256 % 256), .int .u8 (qty % 256)])
  clear HL2 HF2 l2 FL
  go_wp2_with fail
  generalize w2.alloc (.cells #[.int .u8 1, .int .u8 (token / 256 % 256), .int .u8 (token % 256), .int .u8 (qty / 256 % 256), .int .u8 (qty % 256)] 5) = w3 at *
  generalize w2.heap.size = gL at *
  have hlr : RowOf c8 1 w3 w3.heap.size (some ⟨gL, 0, none⟩) (bytesM 1 token qty) := by rw [bytesM_lit]; exact row_blk (l := [1, token / 256 % 256, token % 256, qty / 256 % 256, qty % 256]) (by exact HBL3.out) HBL3.out.lt
  have qT := TellsE (n := 5) (bc := 5) (bytesM_len _ _ _) HL3.out (by simp) hlr (by decide) (bytesM_in ⟨by decide, by decide⟩ HT.out HQ.out) (fun ad e => by obtain rfl := Option.some.inj e; exact ⟨Blk.ne_ HBL3.out HL3.out.mo.sb.blk (by decide), Blk.ne_ HBL3.out HL3.out.blk (by decide)⟩) (.inl rfl) (.inl rfl) HT1.out
  clear hlr
  go_wp2_with fail
  refine Calls.mono qT ?_
  clear qT
  rintro e w4 ⟨rfl, A4, c4, HL4, F⟩
  have HF4 := Lib.hid (HL3.out.out0 (Nat.le_refl _) HF3.out F.out)
  have HBL4 := Lib.hid (HL3.out.keep HBL3.out (by decide) (by decide) (by decide) F.out)
  have l4 := HL4.out.blk.cell 0
  clear HL3 HF3 l3 HBL3 F
  go_upto_block 0 with (fail)
  go_cut [10, 11] (fun s10 _ wx => ∃ (A' : Option Addr) (c' : Nat) (bt' : BS) (d : Dp) (sl : Sl),  LiB w1.heap.size l m s A' c' sl d bt' 1 0 wx ∧ (DpOk d ∧ sl.pend.length ≤ 1000) ∧ AllUp bt' ∧ Blk wx gL 5 #[.int .u8 1, .int .u8 (token / 256 % 256), .int .u8 (token % 256), .int .u8 (qty / 256 % 256), .int .u8 (qty % 256)] ∧ Fr0 w1 wx)
  case first =>
    go_wp2_with fail
    go_loopw [10, 11] (fun nv iv wr => ∃ (i : Nat) (A' : Option Addr) (c' : Nat) (bt' : BS) (d : Dp) (sl : Sl), nv = .int .i64 (1 + 10 * i) ∧ iv = .int .i64 i ∧ i ≤ ls.length ∧ i ≤ 10 ∧ LiB w1.heap.size l m s A' c' sl d bt' 1 0 wr ∧ (DpOk d ∧ sl.pend.length ≤ 1000) ∧ AllUp bt' ∧ Blk wr gL 5 #[.int .u8 1, .int .u8 (token / 256 % 256), .int .u8 (token % 256), .int .u8 (qty / 256 % 256), .int .u8 (qty % 256)] ∧ Fr0 w1 wr) (fun _ iv _ => 10 - (intOf iv).toNat)
    case atStart => exact ⟨0, A4, c4, z4, _, _, rfl, rfl, by omega, by omega, HL4.out, ⟨⟨HT.out, HQ.out, HQ.out⟩, by simp⟩, z4_up, HBL4.out, HF4.out⟩
    case round =>
      clear HL4 HF4 l4 HBL4
      obtain ⟨i, A', c', bt', d, sl, rfl, rfl, hil, hi10, hl, hd, hup, hb, hf⟩ := hrel
      have HL := Lib.hid hl
      have HF := Lib.hid hf
      have HUP := Lib.hid hup
      have HB := Lib.hid hb
      have HD := Lib.hid hd
      clear hl hf hup hb hd
      by_cases hgo : i < ls.length ∧ i < 10
      · obtain ⟨hlt, h10⟩ := hgo
        obtain ⟨ad, rfl, _, hc⟩ := (RowOf.now HR.out ((FS.out.trans HF.out (fun _ _ h => h)).below0)).num hlt
        generalize ls.getD i 0 = x at *
        obtain ⟨b, hb4, hbe⟩ := and3 x
        have hw8 : IntKind.i64.wrap (b : Int) = b := by rw [IntKind.wrap_i64]; omega
        have qP := PressC (h := h) (b := b) (now := 1 + 10 * (i : Int)) HL.out HD.out.1 (HK1.out.fr0 HF.out) HD.out.2 HUP.out hb4 ⟨by omega, by omega⟩
        go_wp2_with fail
        refine Calls.mono qP ?_
        clear qP
        rintro e w7 ⟨rfl, A7, c7, bt7, HL7, HU7, F7⟩
        have HF7 := Lib.hid (HL.out.out0 (Nat.le_refl _) HF.out (frms F7.out))
        have HB7 := Lib.hid (HL.out.keep HB.out (by decide) (by decide) (by decide) (frms F7.out))
        have HD7 := Lib.hid (stepP_ok (p := (d, sl)) (b := (b : Int)) HD.out)
        generalize stepP (d, sl) (b : Int) = p7 at *
        clear HL HF HUP HB HD F7
        go_wp2
        go_roundw
        case rel => exact ⟨i + 1, A7, c7, bt7, p7.1, p7.2, by go_num, by go_num, by omega, by omega, HL7.out, HD7.out, HU7.out, HB7.out, HF7.out⟩
        case measure => simp [intOf]; omega
      · have hgb : (decide ((i : Int) < (ls.length : Int)) && decide ((i : Int) < 10)) = false := by
          simp only [Bool.and_eq_false_iff, decide_eq_false_iff_not]; omega
        by_cases hlt : i < ls.length
        · obtain rfl : i = 10 := by omega
          go_wp2
          go_meet
          exact ⟨A', c', bt', d, sl, HL.out, HD.out, HUP.out, HB.out, HF.out⟩
        · obtain rfl : i = ls.length := by omega
          go_wp2
          go_meet
          exact ⟨A', c', bt', d, sl, HL.out, HD.out, HUP.out, HB.out, HF.out⟩
  case rest =>
    obtain ⟨A', c', bt', d, sl, hl, hd, hup, hb, hf⟩ := hcut
    clear HL4 HF4 l4 HBL4
    generalize wc = w20 at *
    have HL20 := Lib.hid hl
    have HF20 := Lib.hid hf
    have HBL20 := Lib.hid hb
    have l20 := hl.blk.cell 0
    clear hl hf hup hb hd
    have qR := MResetC HL20.out.mo
    go_wp2_with fail
    refine Calls.mono qR ?_
    clear qR
    rintro e w21 ⟨s', rfl, HM21, F⟩
    have hlm : l ≠ m := Blk.ne_ HL20.out.blk HL20.out.mo.blk (by decide)
    have HL21 : Hid (LiB w1.heap.size l m s' none 0 ⟨0, 0, 0, 3, []⟩ ⟨false, false, 0, 0, 0⟩ z4 1 0 w21) := Lib.hid ⟨HL20.out.blk.fr F.out hlm, HM21.out, HL20.out.low⟩
    have hmlow := HL20.out.mo.low
    have HF21 := Lib.hid (HF20.out.trans F.out (fun j hj e => by omega))
    have HBL21 := Lib.hid (HBL20.out.fr F.out (Blk.ne_ HBL20.out HL20.out.mo.blk (by decide)))
    have l21 := HL21.out.blk.cell 0
    clear HL20 HF20 HBL20 l20 HM21 F hlm hmlow
    have qS := MShowC HL21.out.mo
    go_wp2_with fail
    refine Calls.mono qS ?_
    clear qS
    rintro e w22 ⟨rfl, F⟩
    have FD : Fr0 w21 (w22.alloc (.cells (dpv ⟨false, false, 0, 0, 0⟩) 44)) := F.out.alloc _
    have HLOD : Hid (w1.heap.size ≤ w22.heap.size) := Lib.hid (HF21.out.trans F.out (fun _ _ h => h)).size
    have HL23 := Lib.hid (HL21.out.fr0 FD)
    have HF23 := Lib.hid (HF21.out.trans FD (fun _ _ h => h))
    have HBL23 := Lib.hid (HBL21.out.fr FD (fun h => h))
    have l23 := HL23.out.blk.cell 0
    have HBD23 := Lib.hid (Blk.new w22 44 (dpv ⟨false, false, 0, 0, 0⟩))
    clear HL21 HF21 l21 HBL21 F FD
    go_upto_region 14 with (fail)
    generalize w22.alloc (.cells (dpv ⟨false, false, 0, 0, 0⟩) 44) = w23 at *
    generalize w22.heap.size = gD at *
    have xD0 := HBD23.out.cell 0
    have xD1 := HBD23.out.cell 1
    have xD2 := HBD23.out.cell 2
    have xD3 := HBD23.out.cell 3
    have xD4 := HBD23.out.cell 4
    have qT := MTakeC (f := ⟨3, 3, 1, 0, 0, []⟩) (FA := none) (fc := 0) HL23.out.mo (by simp) (rowE_none w23) (by simp) (fun x hx => by cases hx) (fun ad e => by cases e)
    go_wp2_with fail
    refine Calls.mono qT ?_
    clear qT
    rintro e w24 ⟨an, cm, ok, sl', AA, ac, A24, c24, hTK, rfl, HA, HM, F⟩
    rw [(show takeS ⟨0, 0, 0, 3, []⟩ ⟨3, 3, 1, 0, 0, []⟩ = (⟨3, 5, 0, 0, 0, []⟩, [], true, ⟨0, 0, 0, 3, []⟩) from rfl)] at hTK
    simp only [Prod.mk.injEq] at hTK
    obtain ⟨rfl, rfl, rfl, rfl⟩ := hTK
    rw [mtakeD_nil] at HM
    have HLm := Lib.hid (HL23.out.mod F.out HM.out)
    have HFm := Lib.hid (HL23.out.out0 (Nat.le_refl _) HF23.out (frms F.out))
    have HBLm := Lib.hid (HL23.out.keep HBL23.out (by decide) (by decide) (by decide) (frms F.out))
    have HBDm := Lib.hid (HL23.out.keep HBD23.out (by decide) (by decide) (by decide) (frms F.out))
    have FD : Fr0 w24 (w24.alloc (.cells (fmv ⟨3, 5, 0, 0, 0, []⟩ AA ac) 54)) := (Fr.refl (fun _ => False) w24).alloc _
    have HL25 := Lib.hid (HLm.out.fr0 FD)
    have HF25 := Lib.hid (HFm.out.trans FD (fun _ _ h => h))
    have HBL25 := Lib.hid (HBLm.out.fr FD (fun h => h))
    have HBD25 := Lib.hid (HBDm.out.fr FD (fun h => h))
    have hbA := Blk.new w24 54 (fmv ⟨3, 5, 0, 0, 0, []⟩ AA ac)
    have b2 := hbA.cell 2
    have b5 := hbA.cell 5
    have l25 := HL25.out.blk.cell 0
    clear HL23 HF23 l23 HBL23 HBD23 HM HA F HLm HFm FD hbA HBLm HBDm xD0 xD1 xD2 xD3 xD4
    have a2 := b2
    have a5 := b5
    clear b2 b5
    go_upto_region 17 with (fail)
    generalize w24.alloc (.cells (fmv ⟨3, 5, 0, 0, 0, []⟩ AA ac) 54) = w25 at *
    generalize w24.heap.size = g24 at *
    have qT := MTakeC (f := ⟨3, 1, 1, 0, 0, []⟩) (FA := none) (fc := 0) HL25.out.mo (by simp) (rowE_none w25) (by simp) (fun x hx => by cases hx) (fun ad e => by cases e)
    go_wp2_with fail
    refine Calls.mono qT ?_
    clear qT
    rintro e w26 ⟨an, cm, ok, sl', AA, ac, A26, c26, hTK, rfl, HA, HM, F⟩
    rw [open_take] at hTK
    simp only [Prod.mk.injEq] at hTK
    obtain ⟨rfl, rfl, rfl, rfl⟩ := hTK
    rw [mtakeD_nil] at HM
    have HLm := Lib.hid (HL25.out.mod F.out HM.out)
    have HFm := Lib.hid (HL25.out.out0 (Nat.le_refl _) HF25.out (frms F.out))
    have HBLm := Lib.hid (HL25.out.keep HBL25.out (by decide) (by decide) (by decide) (frms F.out))
    have HBDm := Lib.hid (HL25.out.keep HBD25.out (by decide) (by decide) (by decide) (frms F.out))
    have FD : Fr0 w26 (w26.alloc (.cells (fmv ⟨3, 4, 1, 0, 0, []⟩ AA ac) 54)) := (Fr.refl (fun _ => False) w26).alloc _
    have HL27 := Lib.hid (HLm.out.fr0 FD)
    have HF27 := Lib.hid (HFm.out.trans FD (fun _ _ h => h))
    have HBL27 := Lib.hid (HBLm.out.fr FD (fun h => h))
    have HBD27 := Lib.hid (HBDm.out.fr FD (fun h => h))
    have hbA := Blk.new w26 54 (fmv ⟨3, 4, 1, 0, 0, []⟩ AA ac)
    have b2 := hbA.cell 2
    have b5 := hbA.cell 5
    have l27 := HL27.out.blk.cell 0
    clear HL25 HF25 l25 HBL25 HBD25 HM HA F HLm HFm FD hbA HBLm HBDm a2 a5
    have a2 := b2
    have a5 := b5
    clear b2 b5
    go_upto_region 20 with (fail)
    generalize w26.alloc (.cells (fmv ⟨3, 4, 1, 0, 0, []⟩ AA ac) 54) = w27 at *
    generalize w26.heap.size = g26 at *
    have lc1 := HL27.out.blk.cell 1
    have lc2 := HL27.out.blk.cell 2
    have lf1 := HL27.out.blk.frozen 1
    have lf2 := HL27.out.blk.frozen 2
    have hF : Fr (fun j => j = l) w27 ((w27.setCell ⟨l, 1, none⟩ (.int .u8 0)).setCell ⟨l, 2, none⟩ (.int .u8 0)) := ((Fr.refl (fun j => j = l) w27).setCell (p := ⟨l, 1, none⟩) (fun _ => rfl) _).setCell (p := ⟨l, 2, none⟩) (fun _ => rfl) _
    have hlb : Blk ((w27.setCell ⟨l, 1, none⟩ (.int .u8 0)).setCell ⟨l, 2, none⟩ (.int .u8 0)) l 47 #[.pointer (some ⟨m, 0, none⟩), .int .u8 0, .int .u8 0] := by simpa using (HL27.out.blk.set_ 1 (.int .u8 0)).set_ 2 (.int .u8 0)
    have hlm : l ≠ m := Blk.ne_ HL27.out.blk HL27.out.mo.blk (by decide)
    have hls : l ≠ s' := Blk.ne_ HL27.out.blk HL27.out.mo.sb.blk (by decide)
    have hmo := HL27.out.mo.beside hF (fun e => hlm e.symm) (fun e => hls e.symm) (fun j e e' => own_blk_ne HL27.out.mo.sb.made.1 HL27.out.blk (by decide) (e' ▸ e))
    have HL28 : Hid (LiB w1.heap.size l m s' _ _ ⟨1, 0, 0, 3, []⟩ ⟨false, false, 0, 0, 0⟩ z4 0 0 ((w27.setCell ⟨l, 1, none⟩ (.int .u8 0)).setCell ⟨l, 2, none⟩ (.int .u8 0))) := Lib.hid ⟨hlb, hmo, HL27.out.low⟩
    have hlow := HL27.out.low
    have HF28 := Lib.hid (HF27.out.trans hF (fun j hj e => by omega))
    have HBL28 := Lib.hid (HBL27.out.fr hF (Blk.ne_ HBL27.out HL27.out.blk (by decide)))
    have HBD28 := Lib.hid (HBD27.out.fr hF (Blk.ne_ HBD27.out HL27.out.blk (by decide)))
    have l28 := HL28.out.blk.cell 0
    clear HL27 HF27 l27 HBL27 HBD27 hF hlb hlm hls hmo hlow a2 a5
    go_wp2_with fail
    generalize ((w27.setCell ⟨l, 1, none⟩ (.int .u8 0)).setCell ⟨l, 2, none⟩ (.int .u8 0)) = w28 at *
    clear lc1 lc2 lf1 lf2
    have hlr : RowOf c8 1 w28 w28.heap.size (some ⟨gL, 0, none⟩) (bytesM 1 token qty) := by rw [bytesM_lit]; exact row_blk (l := [1, token / 256 % 256, token % 256, qty / 256 % 256, qty % 256]) (by exact HBL28.out) HBL28.out.lt
    have qT := TellsE (n := 5) (bc := 5) (bytesM_len _ _ _) HL28.out (by simp) hlr (by decide) (bytesM_in ⟨by decide, by decide⟩ HT.out HQ.out) (fun ad e => by obtain rfl := Option.some.inj e; exact ⟨Blk.ne_ HBL28.out HL28.out.mo.sb.blk (by decide), Blk.ne_ HBL28.out HL28.out.blk (by decide)⟩) (.inl rfl) (.inl rfl) HT1.out
    clear hlr
    go_wp2_with fail
    refine Calls.mono qT ?_
    clear qT
    rintro e w29 ⟨rfl, A29, c29, HL29, F⟩
    have HF29 := Lib.hid (HL28.out.out0 (Nat.le_refl _) HF28.out F.out)
    have HBL29 := Lib.hid (HL28.out.keep HBL28.out (by decide) (by decide) (by decide) F.out)
    have HBD29 := Lib.hid (HL28.out.keep HBD28.out (by decide) (by decide) (by decide) F.out)
    have l29 := HL29.out.blk.cell 0
    clear HL28 HF28 l28 HBL28 HBD28 F
    simp only [strE_nil]
    have qS := MShowC HL29.out.mo
    go_wp2_with fail
    refine Calls.mono qS ?_
    clear qS
    rintro e w30 ⟨rfl, F⟩
    have HL30 := Lib.hid (HL29.out.fr0 F.out)
    have HF30 := Lib.hid (HF29.out.trans F.out (fun _ _ h => h))
    have HBL30 := Lib.hid (HBL29.out.fr F.out (fun h => h))
    have HBD30 := Lib.hid (HBD29.out.fr F.out (fun h => h))
    have l30 := HL30.out.blk.cell 0
    clear HL29 HF29 l29 HBL29 HBD29 F
    have hDC : Blk w30 gD 44 #[.bool false, .bool false, .int .u16 0, .int .u16 0, .int .u16 0] := HBD30.out
    have hT : w30.there gD 0 5 := fun j hj => ⟨by rw [Nat.zero_add, hDC.cell j]; simpa using hj, by rw [Nat.zero_add]; exact hDC.frozen j⟩
    have HTH := Lib.hid hT
    have hsz : (Tryd.prog.info? 44).map (·.size) = some (5 : Nat) := by kernel_rfl
    have hB := putAll_blk gD 44 [.bool true, .bool false, .int .u16 token, .int .u16 qty, .int .u16 qty] 0 w30 _ hDC rfl
    have hF := putAll_fr gD w30 [.bool true, .bool false, .int .u16 token, .int .u16 qty, .int .u16 qty] 0 w30 (Fr.refl _ _)
    rw [← setCells_put] at hB hF
    have HFN := Lib.hid (hF.mono (S' := fun j => j = gD) (fun _ _ e => e))
    have HBN : Hid (Blk (w30.setCells gD 0 [.bool true, .bool false, .int .u16 token, .int .u16 qty, .int .u16 qty]) gD 44 #[.bool true, .bool false, .int .u16 token, .int .u16 qty, .int .u16 qty]) := Lib.hid hB
    have hone : (#[.bool true, .bool false, .int .u16 token, .int .u16 qty, .int .u16 qty] : Array Value).all (·.oneCell') = true := by simp [Value.oneCell']
    clear hDC hT hB hF
    dsimp only [dpv]
    iterate 1 (go_step)
    refine Go.wpList_store_mid (by rfl) 44 (.tmp 12) (.tmp 130) (by rfl) gD 0 #[.bool true, .bool false, .int .u16 token, .int .u16 qty, .int .u16 qty] (by rfl) (by rfl) HTH.out hsz hone ?_
    have hFN := HF30.out.trans HFN.out (fun j hj e => by have := HLOD.out; omega)
    generalize w30.setCells gD 0 _ = wz at *
    have y0 := HBN.out.cell 0
    have y1 := HBN.out.cell 1
    have y2 := HBN.out.cell 2
    have y3 := HBN.out.cell 3
    have y4 := HBN.out.cell 4
    have HFZ := Lib.hid (FS.out.trans hFN (fun _ _ h => h)).below0
    clear hFN HFN HTH hone hsz
    go_wp2
    go_ret
    exact ⟨rfl, HFZ.out⟩
theorem mreset_row {W : World} (hk : ∃ h, Kn h W) (A : Option Addr) (c : Nat) (ls : List Int) (token qty : Int) (hr : RowOf c8 1 W W.heap.size A ls) (ht : 0 ≤ token ∧ token < 65536) (hq : 0 ≤ qty ∧ qty < 65536) :
    Calls Tryd.prog 7 #[.slice A ls.length c, .int .u16 token, .int .u16 qty] W fun e w' => e = .returned (.bool true) ∧ Below W.heap.size W w' := by
  obtain ⟨h, hk⟩ := hk
  exact mreset_walk A c ls token qty W hk hr ht hq
end Go.Proofs.YtdhfinpmcikimaaDoor.K
