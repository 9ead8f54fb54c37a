/- Orders: Close, Cancel. -/
import Derived.Test.YtigknfkkegccgaaDoorOB9
namespace Go.Proofs.YtigknfkkegccgaaDoor.K
open Go.RowKit
set_option linter.unusedVariables false
set_option linter.unusedSimpArgs false
attribute [local go_sem ↓] Go.wp_at_zero Go.wp_at_succ
set_option maxHeartbeats 1000000 in
set_option maxRecDepth 10000 in
theorem CloseNo {B b g : Nat} {v : Value} {os : List So} {ids : List Int} {id : Int} {w : World} (h : Bk B b g v os ids w) (hl : os.length ≤ 1000) (hi : idxO id os = none) :
    Calls Tryd.prog 22 #[.pointer (some ⟨b, 0, none⟩), .int .u32 id] w fun e w' => e = .returned (.int .i64 6) ∧ Hid (Below w.heap.size w w') := by
  have HC := Lib.hid (placeC (id := id) h hl)
  rw [show idxI id os = -1 by unfold idxI; rw [hi]] at HC
  clear h
  go_enter Tryd.func22, Tryd.ntmps22
  go_wp2_with fail
  refine Calls.mono HC.out ?_
  rintro e w1 ⟨rfl, F1⟩
  go_wp2
  go_ret
  exact ⟨rfl, F1⟩
set_option maxHeartbeats 2000000 in
set_option maxRecDepth 10000 in
theorem CloseC {B b g k : Nat} {v : Value} {os : List So} {ids : List Int} {id : Int} {w : World} (h : Bk B b g v os ids w) (hl : os.length ≤ 1000) (hi : idxO id os = some k) :
    Calls Tryd.prog 22 #[.pointer (some ⟨b, 0, none⟩), .int .u32 id] w fun e w' => e = .returned (.int .i64 0) ∧ ∃ v', v'.ownBlock = v.ownBlock ∧ Hid (Bk B b g v' (os.eraseIdx k) ids w') ∧ Hid (Fr (fun j => j = b ∨ v.ownBlock = some j) w w') := by
  obtain ⟨hk, _⟩ := idxO_some hi
  obtain ⟨m, hm⟩ : ∃ m, os.length = m + 1 := ⟨os.length - 1, by omega⟩
  have HC := Lib.hid (placeC (id := id) h hl)
  have hix : idxI id os = (k : Int) := by unfold idxI; rw [hi]
  rw [hix] at HC
  have HBK := Lib.hid h
  clear h hi hix
  go_enter Tryd.func22, Tryd.ntmps22
  go_wp2_with fail
  refine Calls.mono HC.out ?_
  rintro e w1 ⟨rfl, F1⟩
  have hb1 := HBK.out.fr (Fr.of_below F1.out) (fun _ _ _ h => h)
  have hrow := hb1.row
  rw [hm] at hrow
  obtain ⟨q, c, hv, hq, hqs⟩ := hrow.form (by omega)
  rw [hv] at hrow
  have c0 := hb1.blk.cell 0
  rw [hv] at c0
  have HD := Lib.hid (DeleteC (k := k) hm (by omega) (by omega) hrow)
  have hqb : q ≠ b := fun e => own_blk_ne hb1.row hb1.blk (by decide) (by rw [hv, e]; rfl)
  have HB1 := Lib.hid hb1
  have HR1 := Lib.hid hrow
  have HV := Lib.hid hv
  have HQB := Lib.hid hqb
  clear hb1 hrow hv HBK hqb
  go_wp2_with fail
  refine Calls.mono HD.out ?_
  rintro e w2 ⟨rfl, HO, HF⟩
  have hb2 := HB1.out.blk.fr HF.out (fun e => HQB.out e.symm)
  have d0 := hb2.cell 0
  have f0 := hb2.frozen 0
  have HB2 := Lib.hid hb2
  clear hb2
  go_wp2
  go_ret
  have hF : Fr (fun j => j = b) w2 (w2.setCell ⟨b, 0, none⟩ (.slice (some ⟨q, 0, none⟩) m c)) := (Fr.refl (fun j => j = b) w2).setCell (p := ⟨b, 0, none⟩) (fun _ => rfl) _
  have hml : ∀ o ∈ os, MadeL B o.A o.c o.ls (w2.setCell ⟨b, 0, none⟩ (.slice (some ⟨q, 0, none⟩) m c)) := fun o ho => by
    have h0 := HB1.out.each o ho
    have h1 := h0.fr HF.out (fun j e e' => own_ne h0.1 HB1.out.row (by decide) j e (by rw [HV.out, e']; rfl))
    exact h1.fr hF (fun j e e' => own_blk_ne h1.1 HB2.out (by decide) (e' ▸ e))
  have hev : v.ownBlock = some q := by rw [HV.out]; rfl
  refine ⟨rfl, .slice (some ⟨q, 0, none⟩) m c, by rw [hev]; rfl, Lib.hid ⟨by simpa using HB2.out.set_ 0 (.slice (some ⟨q, 0, none⟩) m c), ?_, fun o ho => hml o (List.mem_of_mem_eraseIdx ho), ?_, HB1.out.low⟩, Lib.hid ?_⟩
  · rw [List.length_eraseIdx, if_pos hk, hm]
    exact own_fr HO.out hF (fun j e e' => HQB.out (by have : q = j := by simpa [Value.ownBlock] using e
                                                      omega))
  · exact (HB1.out.ever.fr HF.out (fun e => ever_own_ne HB1.out.ever HB1.out.row (by rw [hev, e]))).fr hF HB1.out.low.2.2
  · refine (((Fr.of_below F1.out).mono (fun _ _ h => h.elim)).trans HF.out (fun j _ e => .inr (by rw [hev, e]))).trans hF (fun j _ e => .inl e)
set_option maxHeartbeats 1000000 in
set_option maxRecDepth 10000 in
/-- Cancel does what Close does. -/
theorem CancelE {p : Value} {id : Int} {w : World} {n : Int} {R : World → Prop} (h : Calls Tryd.prog 22 #[p, .int .u32 id] w fun e w' => e = .returned (.int .i64 n) ∧ R w') :
    Calls Tryd.prog 23 #[p, .int .u32 id] w fun e w' => e = .returned (.int .i64 n) ∧ R w' := by
  have HC := Lib.hid h
  clear h
  go_enter Tryd.func23, Tryd.ntmps23
  go_wp2_with fail
  refine Calls.mono HC.out ?_
  rintro e w1 ⟨rfl, F1⟩
  have HF := Lib.hid F1
  clear F1
  go_wp2
  go_ret
  exact ⟨rfl, HF.out⟩
end Go.Proofs.YtigknfkkegccgaaDoor.K
