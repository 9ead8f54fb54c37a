/- Orders: a clone of lines; own; NewBook. -/
import Derived.Test.YtigknfkkegccgaaDoorO4
import Derived.Test.YtigknfkkegccgaaDoorOB1
namespace Go.Proofs.YtigknfkkegccgaaDoor.K
open Go.RowKit
set_option linter.unusedVariables false
set_option linter.unusedSimpArgs false
attribute [local go_sem ↓] Go.wp_at_zero Go.wp_at_succ
set_option maxHeartbeats 4000000 in
set_option maxRecDepth 10000 in
theorem CloneLC {A : Option Addr} {c : Nat} {l : List Ln} {w : World} (hl : l.length ≤ 1000) (h : RowOf cL 3 w w.heap.size A l) :
    Calls Tryd.prog 56 #[.slice A l.length c] w fun e w' => ∃ A' c', e = .returned (.slice A' l.length c') ∧ Hid (MadeL w.heap.size A' c' l w') ∧ Hid (Fr0 w w') := by
  cases A with
  | none =>
    have hl0 : l = [] := row_none_nil h
    subst hl0
    have hnil : ∀ W, (binOp .eql 23 (.slice none 0 c) (.slice none 0 0)).run Tryd.prog W = .ok (.bool true) W := fun W => Lib.run_eql_slice_nil_nil W _ _ Tryd.underlying23
    go_enter Tryd.func56, Tryd.ntmps56
    go_wp2
    go_ret
    exact ⟨none, 0, rfl, Lib.hid (MadeL.nil_ _ _), Lib.hid (Fr.refl _ _)⟩
  | some ad =>
    have hnil : ∀ W, (binOp .eql 23 (.slice (some ad) l.length c) (.slice none 0 0)).run Tryd.prog W = .ok (.bool false) W := fun W => Lib.run_eql_slice_some_nil W _ _ _ Tryd.underlying23
    have HR := Lib.hid h
    clear h
    go_enter Tryd.func56, Tryd.ntmps56
    go_wp2_with (at_builtin; go_loud (refine appR (c := cL) rfl _ _ _ rfl 51 (.agg #[.int .u16 0, .int .u16 0, .int .i64 0]) 3 16 Tryd.underlying23 info_ln rfl (by omega) (by omega) (fun _ => rfl) one_ln w.heap.size w.heap.size _ [] l _ _ rfl rfl (RowOf.below HR.out ((Below.refl _ w).alloc (Nat.le_refl _) _)) (World.ownsRow_lit w #[] 0 (Nat.le_refl _) (by decide) rfl) (by simp) (by simp only [List.length_nil]; omega) ?_; intro v2 w2 h3 h4 h5; have F1 := Lib.hid (lit_fr h4 (fun k hk => Nat.le_of_eq (Option.some.inj hk))); have G1 := Lib.hid (madeL_of (B := w.heap.size) (v := v2) (l := l) h3); clear h3 h4 h5))
    go_ret
    obtain ⟨A2, c2, rfl, hm⟩ := G1.out
    exact ⟨A2, c2, rfl, Lib.hid hm, F1⟩
set_option maxHeartbeats 4000000 in
set_option maxRecDepth 10000 in
theorem ownC {A : Option Addr} {c : Nat} {id : Int} {l : List Ln} {w : World} (hl : l.length ≤ 1000) (h : RowOf cL 3 w w.heap.size A l) :
    Calls Tryd.prog 46 #[.agg #[.int .u32 id, .slice A l.length c]] w fun e w' => ∃ A' c', e = .returned (.agg #[.int .u32 id, .slice A' l.length c']) ∧ Hid (MadeL w.heap.size A' c' l w') ∧ Hid (Fr0 w w') := by
  obtain ⟨W, hW⟩ : ∃ W, W = (w.alloc (.cells #[.int .u32 id, .slice A l.length c] 25)).alloc (.cells #[.int .u32 0, .slice none 0 0] 25) := ⟨_, rfl⟩
  have hp : Blk W w.heap.size 25 #[.int .u32 id, .slice A l.length c] := by rw [hW]; exact (Blk.new w _ _).alloc _
  have hq : Blk W (w.heap.size + 1) 25 #[.int .u32 0, .slice none 0 0] := by rw [hW]; have := Blk.new (w.alloc (.cells #[.int .u32 id, .slice A l.length c] 25)) 25 #[.int .u32 0, .slice none 0 0]; simpa using this
  have hb : Below w.heap.size w W := by rw [hW]; exact ((Below.refl _ w).alloc (Nat.le_refl _) _).alloc (by simp) _
  have HRow := Lib.hid (RowOf.now h hb)
  have HP := Lib.hid hp
  have HQ := Lib.hid hq
  have HB := Lib.hid hb
  have HWE := Lib.hid hW.symm
  have HS : Hid (W.heap.size = w.heap.size + 2) := Lib.hid (by rw [hW]; simp)
  clear hp hq hb h hW
  go_enter Tryd.func46, Tryd.ntmps46
  go_wp2_with fail
  rw [HWE.out]
  clear HWE
  refine Calls.mono (CloneLC hl HRow.out) ?_
  rintro e w1 ⟨A2, c2, rfl, HM, HF⟩
  have hp1 := HP.out.fr HF.out (fun h => h)
  have hq1 := HQ.out.fr HF.out (fun h => h)
  have hp2 : Blk (w1.setCell ⟨w.heap.size, 1, none⟩ (.slice A2 l.length c2)) w.heap.size 25 #[.int .u32 id, .slice A2 l.length c2] := by simpa using hp1.set_ 1 (.slice A2 l.length c2)
  have hq2 := hq1.far (p := ⟨w.heap.size, 1, none⟩) (by simp) (.slice A2 l.length c2)
  have c1 := hp1.cell 1
  have f1 := hp1.frozen 1
  have d0 := hp2.cell 0
  have d1 := hp2.cell 1
  have s0 := hq2.cell 0
  have s1 := hq2.cell 1
  have y0 := hq2.frozen 0
  have y1 := hq2.frozen 1
  have hq3 : Blk ((w1.setCell ⟨w.heap.size, 1, none⟩ (.slice A2 l.length c2)).setCell ⟨w.heap.size + 1, 0, none⟩ (.int .u32 id)) (w.heap.size + 1) 25 #[.int .u32 id, .slice none 0 0] := by simpa using hq2.set_ 0 (.int .u32 id)
  have s1' := hq3.cell 1
  have y1' := hq3.frozen 1
  have hq4 : Blk (((w1.setCell ⟨w.heap.size, 1, none⟩ (.slice A2 l.length c2)).setCell ⟨w.heap.size + 1, 0, none⟩ (.int .u32 id)).setCell ⟨w.heap.size + 1, 1, none⟩ (.slice A2 l.length c2)) (w.heap.size + 1) 25 #[.int .u32 id, .slice A2 l.length c2] := by simpa using hq3.set_ 1 (.slice A2 l.length c2)
  have z0 := hq4.cell 0
  have z1 := hq4.cell 1
  have HQ4 := Lib.hid hq4
  have HP1 := Lib.hid hp1
  have HQ1 := Lib.hid hq1
  clear hp1 hq1 hp2 hq2 hq3 hq4
  go_wp2
  have hs0 : W.heap.size = w.heap.size + 2 := HS.out
  have hF : Fr (fun j => j = w.heap.size ∨ j = w.heap.size + 1) w1 (((w1.setCell ⟨w.heap.size, 1, none⟩ (.slice A2 l.length c2)).setCell ⟨w.heap.size + 1, 0, none⟩ (.int .u32 id)).setCell ⟨w.heap.size + 1, 1, none⟩ (.slice A2 l.length c2)) :=
    (((Fr.refl (fun j => j = w.heap.size ∨ j = w.heap.size + 1) w1).setCell (p := ⟨w.heap.size, 1, none⟩) (fun _ => .inl rfl) _).setCell (p := ⟨w.heap.size + 1, 0, none⟩) (fun _ => .inr rfl) _).setCell (p := ⟨w.heap.size + 1, 1, none⟩) (fun _ => .inr rfl) _
  refine bodyPost_ret_by (results_cell_row rfl _ _ (w.heap.size + 1) 25 _ (0, 0) _ rfl HQ4.out Tryd.underlying25 rfl (by kernel_rfl)) rfl ?_
  exact ⟨A2, c2, rfl, Lib.hid ((HM.out.fr hF (fun j e h => by have := (HM.out.1.lt j e).1; omega)).low (by omega)), Lib.hid (Fr.of_below (below_fr (HB.out.trans (HF.out.below0.mono (by omega))) hF (by have := HF.out.size; omega) (fun j e => by omega)))⟩
end Go.Proofs.YtigknfkkegccgaaDoor.K
