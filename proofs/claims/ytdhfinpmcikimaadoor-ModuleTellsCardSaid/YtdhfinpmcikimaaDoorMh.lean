/- Module's laws: shown. -/
import Derived.Test.YtdhfinpmcikimaaDoorMg
import Derived.Lib.ConvBytes
namespace Go.Proofs.YtdhfinpmcikimaaDoor.K
open Go.RowKit
set_option linter.unusedVariables false
set_option linter.unusedSimpArgs false
theorem made_ne {B : Nat} {A : Option Addr} {c : Nat} {l : List Int} {w : World} {s : Nat} {t : TypeId} {cs : Array Value} (h : Made B A c l w) (hb : Blk w s t cs) (ht : 5 ≠ t) : ∀ ad, A = some ad → ad.block ≠ s := by
  intro ad e hs
  subst e
  have hne := own_blk_ne h.1 hb ht
  rcases h.1.2 with ⟨e, _⟩ | ⟨g, cap, cur, e, _⟩
  · injection e with e
    cases e
  · injection e with e1
    injection e1 with e1
    subst e1
    exact hne (by simp [Value.ownBlock]; exact hs)
theorem str_bytes (w : World) (l : List Int) (hb : InB l) : ∃ cp w', (convert 9 26 (.string (strOfNums l))).run Tryd.prog w = .ok (.slice (some ⟨w.heap.size, 0, none⟩) l.length cp) w' ∧ RowOf c8 1 w' w'.heap.size (some ⟨w.heap.size, 0, none⟩) l ∧ Fr0 w w' := by
  have hrun := Lib.run_convert_string_bytes (P := Tryd.prog) w 9 26 5 (strOfNums l) Tryd.underlying9 Tryd.underlying26 Tryd.underlying5
  rw [str_size] at hrun
  refine ⟨_, _, hrun, fun i x hx => ⟨_, rfl, by rw [Lib.bytesWorld_size]; simp, fun j u hu => ?_⟩, ⟨rfl, rfl, rfl, by rw [Lib.bytesWorld_size]; omega, fun j hj _ => Lib.bytesWorld_at_old w 5 (strOfNums l) j hj⟩⟩
  have hi := (List.getElem?_eq_some_iff.1 hx).1
  have hx2 := hb x (List.mem_of_getElem? hx)
  obtain rfl : j = 0 := by
    have := (List.getElem?_eq_some_iff.1 hu).1
    simp at this
    exact this
  obtain rfl := Option.some.inj hu
  have hc := Lib.bytesWorld_cell w 5 (strOfNums l) i (by rw [str_size]; exact hi)
  rw [show (⟨w.heap.size, 0, none⟩ : Addr).add (i * 1 + 0) = ⟨w.heap.size, i, none⟩ by rw [Nat.mul_one, Nat.add_zero, add_plain, Nat.zero_add], hc]
  have : ((strOfNums l).data.toList.getD i 0).toNat = x.toNat := by
    rw [strOfNums_data, List.getD_eq_getElem?_getD, List.getElem?_map, hx]
    simp
    omega
  rw [this, Int.toNat_of_nonneg hx2.1]
theorem TellsE {B l m s n : Nat} {A BA : Option Addr} {c bc : Nat} {sl : Sl} {d : Dp} {bt : BS} {seq ack : Int} {b : List Int} {w : World} (hn : b.length = n) (hl : LiB B l m s A c sl d bt seq ack w) (hp : sl.pend.length ≤ 1000) (hr : RowOf c8 1 w w.heap.size BA b) (hbl : n ≤ 1000) (hib : InB b) (hne : ∀ ad, BA = some ad → ad.block ≠ s ∧ ad.block ≠ l) (hsq : seq = 0 ∨ seq = 1) (hak : ack = 0 ∨ ack = 1) {T : Tl} (hT : tellsL sl d seq ack b = T) :
    Calls Tryd.prog 17 #[.pointer (some ⟨l, 0, none⟩), .slice BA n bc] w fun e w' => e = .returned (.string (strOfNums T.out)) ∧ ∃ A' c', Hid (LiB B l m s A' c' T.sl T.d bt T.seq T.ack w') ∧ Hid (Fr (fun j => j = m ∨ j = s ∨ j = l) w w') := by
  subst hn hT
  exact TellsC hl hp hr hbl hib hne hsq hak
/-- Behind a call that turned the line alone. -/
theorem LiB.out0 {B l m s : Nat} {A : Option Addr} {c : Nat} {sl : Sl} {d : Dp} {bt : BS} {seq ack : Int} {w0 w w' : World} (hl : LiB B l m s A c sl d bt seq ack w) (hB : w0.heap.size ≤ B) (h : Fr0 w0 w) (k : Fr (fun j => j = m ∨ j = s ∨ j = l) w w') : Fr0 w0 w' := by
  have h1 := hl.low
  have h2 := hl.mo.low
  have h3 := hl.mo.sb.low
  exact h.trans k (fun j hj e => by omega)
theorem LiB.keep {B l m s g : Nat} {A : Option Addr} {c : Nat} {sl : Sl} {d : Dp} {bt : BS} {seq ack : Int} {w w' : World} {t : TypeId} {cs : Array Value} (hl : LiB B l m s A c sl d bt seq ack w) (hb : Blk w g t cs) (h1 : t ≠ 86) (h2 : t ≠ 121) (h3 : t ≠ 47) (k : Fr (fun j => j = m ∨ j = s ∨ j = l) w w') : Blk w' g t cs :=
  hb.fr k (fun e => by
    rcases e with e | e | e
    · exact Blk.ne_ hb hl.mo.blk h1 e
    · exact Blk.ne_ hb hl.mo.sb.blk h2 e
    · exact Blk.ne_ hb hl.blk h3 e)
theorem frms {m s l : Nat} {w w' : World} (k : Fr (fun j => j = m ∨ j = s) w w') : Fr (fun j => j = m ∨ j = s ∨ j = l) w w' := k.mono (fun _ _ e => e.imp id .inl)
theorem bytesM_in {k t q : Int} (hk : 0 ≤ k ∧ k < 256) (ht : 0 ≤ t ∧ t < 65536) (hq : 0 ≤ q ∧ q < 65536) : InB (bytesM k t q) := by
  unfold bytesM
  intro x hx
  rw [List.mem_append, List.mem_append] at hx
  rcases hx with (hx | hx) | hx
  · exact be_inB k 1 x hx
  · exact be_inB t 2 x hx
  · exact be_inB q 2 x hx
theorem z4_up : AllUp z4 := fun _ => rfl
theorem show1 : tellsL ⟨1, 0, 0, 3, []⟩ ⟨false, false, 0, 0, 0⟩ 0 0 (bytesM 1 7 3) = ⟨[], ⟨1, 0, 1, 3, []⟩, ⟨true, false, 7, 3, 3⟩, 1, 0⟩ := by rfl
theorem show2 : stepP (⟨true, false, 7, 3, 3⟩, ⟨1, 0, 1, 3, []⟩) ((2 : Nat) : Int) = (⟨true, false, 7, 2, 3⟩, ⟨1, 0, 1, 3, []⟩) := by rfl
theorem show3 : stepP (⟨true, false, 7, 2, 3⟩, ⟨1, 0, 1, 3, []⟩) ((0 : Nat) : Int) = (⟨true, true, 7, 2, 3⟩, ⟨1, 0, 1, 3, [1, 0, 7, 0, 2]⟩) := by rfl
theorem show4 : tellsL ⟨1, 0, 1, 3, [1, 0, 7, 0, 2]⟩ ⟨true, true, 7, 2, 3⟩ 1 0 [] = ⟨[1, 0, 7, 0, 2], ⟨1, 0, 1, 3, [1, 0, 7, 0, 2]⟩, ⟨true, true, 7, 2, 3⟩, 1, 1⟩ := by rfl
theorem inb5 : InB [1, 0, 7, 0, 2] := by
  intro x hx
  simp only [List.mem_cons, List.not_mem_nil, or_false] at hx
  omega
theorem show5 : parseM [1, 0, 7, 0, 2] = (1, 7, 2, 0) := by rfl
theorem show6 : tellsL ⟨1, 0, 1, 3, [1, 0, 7, 0, 2]⟩ ⟨true, true, 7, 2, 3⟩ 1 1 (bytesM 2 7 0) = ⟨[], ⟨1, 1, 0, 3, []⟩, ⟨false, false, 0, 0, 0⟩, 0, 1⟩ := by rfl
set_option maxHeartbeats 4000000 in
set_option maxRecDepth 20000 in
theorem shown11_walk {h : Nat} {w : World} (hk : Kn h w) : Calls Tryd.prog 9 #[] w fun e w' => e = .returned (.bool true) ∧ Hid (Fr0 w w') := by
  have HK := Lib.hid hk
  clear hk
  go_enter Tryd.func9, Tryd.ntmps9
  go_wp2_with fail
  refine Calls.mono (OpenedC w) ?_
  rintro e w1 ⟨l, m, s, A1, c1, rfl, HL1, F1⟩
  go_wp2_with fail
  refine Calls.mono (CmdBytesC (k := 1) (t := 7) (q := 3) w1 (by decide) (by decide) (by decide)) ?_
  rintro e w2 ⟨BA, bc, rfl, HM2, F2⟩
  have HL2 := Lib.hid (HL1.out.fr0 F2.out)
  have HF2 := Lib.hid (F1.out.trans F2.out (fun _ _ h => h))
  have qT := TellsE (n := 5) (bc := bc) (bytesM_len 1 7 3) HL2.out (by simp) HM2.out.2.1 (by decide) (bytesM_in (by decide) (by decide) (by decide)) (fun ad e => ⟨made_ne HM2.out HL2.out.mo.sb.blk (by decide) ad e, made_ne HM2.out HL2.out.blk (by decide) ad e⟩) (.inl rfl) (.inl rfl) show1
  clear HL1 F1 F2 HM2
  go_wp2_with fail
  refine Calls.mono qT ?_
  clear qT
  rintro e w3 ⟨rfl, A3, c3, HL3, F3⟩
  simp only [strE_nil]
  have HF3 := Lib.hid (HL2.out.out0 (Nat.le_refl _) HF2.out F3.out)
  have l3 := HL3.out.blk.cell 0
  have qS := MShowC HL3.out.mo
  clear HL2 HF2 F3
  go_wp2_with fail
  refine Calls.mono qS ?_
  clear qS
  rintro e w4 ⟨rfl, F4⟩
  have FD : Fr0 w3 (w4.alloc (.cells (dpv ⟨true, false, 7, 3, 3⟩) 44)) := F4.out.alloc _
  have HL5 := Lib.hid (HL3.out.fr0 FD)
  have HF5 := Lib.hid (HF3.out.trans FD (fun _ _ h => h))
  have HD5 := Lib.hid (Blk.new w4 44 (dpv ⟨true, false, 7, 3, 3⟩))
  clear HL3 HF3 FD F4 l3
  have qP := PressC (h := h) (b := 2) (now := 10) HL5.out ⟨by decide, by decide, by decide⟩ (HK.out.fr0 HF5.out) (by simp) z4_up (by decide) (by decide)
  rw [show2] at qP
  go_wp2_with fail
  generalize w4.alloc (.cells (dpv ⟨true, false, 7, 3, 3⟩) 44) = w5 at *
  generalize w4.heap.size = g4 at *
  refine Calls.mono qP ?_
  clear qP
  rintro e w6 ⟨rfl, A6, c6, bt6, HL6, HU6, F6⟩
  have HF6 := Lib.hid (HL5.out.out0 (Nat.le_refl _) HF5.out (frms F6.out))
  have HD6 := Lib.hid (HL5.out.keep HD5.out (by decide) (by decide) (by decide) (frms F6.out))
  have qP := PressC (h := h) (b := 0) (now := 20) HL6.out ⟨by decide, by decide, by decide⟩ (HK.out.fr0 HF6.out) (by simp) HU6.out (by decide) (by decide)
  rw [show3] at qP
  clear HL5 HF5 HD5 F6 HU6
  go_wp2_with fail
  refine Calls.mono qP ?_
  clear qP
  rintro e w7 ⟨rfl, A7, c7, bt7, HL7, HU7, F7⟩
  have HF7 := Lib.hid (HL6.out.out0 (Nat.le_refl _) HF6.out (frms F7.out))
  have HD7 := Lib.hid (HL6.out.keep HD6.out (by decide) (by decide) (by decide) (frms F7.out))
  have qT := TellsE (n := 0) (BA := none) (bc := 0) (b := []) rfl HL7.out (by simp) (rowE_none _) (by decide) (fun x hx => by cases hx) (fun ad e => by cases e) (.inr rfl) (.inl rfl) show4
  clear HL6 HF6 HD6 F7 HU7
  go_wp2_with fail
  refine Calls.mono qT ?_
  clear qT
  rintro e w8 ⟨rfl, A8, c8x, HL8, F8⟩
  have HF8 := Lib.hid (HL7.out.out0 (Nat.le_refl _) HF7.out F8.out)
  have HD8 := Lib.hid (HL7.out.keep HD7.out (by decide) (by decide) (by decide) F8.out)
  obtain ⟨cp, w9, hcv, hrow9, hf9⟩ := str_bytes w8 [1, 0, 7, 0, 2] inb5
  have hcv' : (convert 9 26 (.string (strOfNums [1, 0, 7, 0, 2]))).run Tryd.prog w8 = .ok (.slice (some ⟨w8.heap.size, 0, none⟩) 5 cp) w9 := hcv
  have HL9 := Lib.hid (HL8.out.fr0 hf9)
  have HF9 := Lib.hid (HF8.out.trans hf9 (fun _ _ h => h))
  have HD9 := Lib.hid (HD8.out.fr hf9 (fun h => h))
  have qV := ParseEvC (c := cp) hrow9 inb5 (by decide)
  rw [show5] at qV
  clear HL7 HF7 HD7 F8 HL8 HF8 HD8 hcv hrow9 hf9
  go_wp2_with fail
  refine Calls.mono qV ?_
  clear qV
  rintro e w10 ⟨rfl, F10⟩
  have FE : Fr0 w9 (w10.alloc (.cells #[.int .u8 1, .int .u16 7, .int .u16 2] 25)) := F10.out.alloc _
  have HL11 := Lib.hid (HL9.out.fr0 FE)
  have HF11 := Lib.hid (HF9.out.trans FE (fun _ _ h => h))
  have HD11 := Lib.hid (HD9.out.fr FE (fun h => h))
  have HE11 := Lib.hid (Blk.new w10 25 #[.int .u8 1, .int .u16 7, .int .u16 2])
  have l11 := HL11.out.blk.cell 0
  have qS := MShowC HL11.out.mo
  clear HL9 HF9 HD9 FE F10 hcv'
  go_wp2_with fail
  generalize w10.alloc (.cells #[.int .u8 1, .int .u16 7, .int .u16 2] 25) = w11 at *
  generalize w10.heap.size = g10 at *
  refine Calls.mono qS ?_
  clear qS
  rintro e w12 ⟨rfl, F12⟩
  have FX : Fr0 w11 (w12.alloc (.cells (dpv ⟨true, true, 7, 2, 3⟩) 44)) := F12.out.alloc _
  have HL13 := Lib.hid (HL11.out.fr0 FX)
  have HF13 := Lib.hid (HF11.out.trans FX (fun _ _ h => h))
  have HD13 := Lib.hid (HD11.out.fr FX (fun h => h))
  have HE13 := Lib.hid (HE11.out.fr FX (fun h => h))
  have HX13 := Lib.hid (Blk.new w12 44 (dpv ⟨true, true, 7, 2, 3⟩))
  clear HL11 HF11 HD11 HE11 FX F12 l11
  go_wp2_with fail
  generalize w12.alloc (.cells (dpv ⟨true, true, 7, 2, 3⟩) 44) = w13 at *
  generalize w12.heap.size = g12 at *
  refine Calls.mono (CmdBytesC (k := 2) (t := 7) (q := 0) w13 (by decide) (by decide) (by decide)) ?_
  rintro e w14 ⟨BA, bc, rfl, HM14, F14⟩
  have HL14 := Lib.hid (HL13.out.fr0 F14.out)
  have HF14 := Lib.hid (HF13.out.trans F14.out (fun _ _ h => h))
  have HD14 := Lib.hid (HD13.out.fr F14.out (fun h => h))
  have HE14 := Lib.hid (HE13.out.fr F14.out (fun h => h))
  have HX14 := Lib.hid (HX13.out.fr F14.out (fun h => h))
  have qT := TellsE (n := 5) (bc := bc) (bytesM_len 2 7 0) HL14.out (by simp) HM14.out.2.1 (by decide) (bytesM_in (by decide) (by decide) (by decide)) (fun ad e => ⟨made_ne HM14.out HL14.out.mo.sb.blk (by decide) ad e, made_ne HM14.out HL14.out.blk (by decide) ad e⟩) (.inr rfl) (.inr rfl) show6
  clear HL13 HF13 HD13 HE13 HX13 F14 HM14
  go_wp2_with fail
  refine Calls.mono qT ?_
  clear qT
  rintro e w15 ⟨rfl, A15, c15, HL15, F15⟩
  have HF15 := Lib.hid (HL14.out.out0 (Nat.le_refl _) HF14.out F15.out)
  have hd := HL14.out.keep HD14.out (by decide) (by decide) (by decide) F15.out
  have he := HL14.out.keep HE14.out (by decide) (by decide) (by decide) F15.out
  have hx := HL14.out.keep HX14.out (by decide) (by decide) (by decide) F15.out
  have d0 := hd.cell 0
  have d1 := hd.cell 1
  have d2 := hd.cell 2
  have d3 := hd.cell 3
  have e0 := he.cell 0
  have e1 := he.cell 1
  have e2 := he.cell 2
  have x1 := hx.cell 1
  have l15 := HL15.out.blk.cell 0
  have qS := MShowC HL15.out.mo
  clear HL14 HF14 HD14 HE14 HX14 F15 hd he hx
  go_wp2_with fail
  refine Calls.mono qS ?_
  clear qS
  rintro e w16 ⟨rfl, F16⟩
  have hfd : (Instr.field 44 (.agg #[.bool false, .bool false, .int .u16 0, .int .u16 0, .int .u16 0]) 0).run Tryd.prog w16 = .ok (.bool false) w16 := by kernel_rfl
  dsimp only [dpv]
  go_wp2
  go_ret
  exact ⟨rfl, Lib.hid (HF15.out.trans F16.out (fun _ _ h => h))⟩
end Go.Proofs.YtdhfinpmcikimaaDoor.K
