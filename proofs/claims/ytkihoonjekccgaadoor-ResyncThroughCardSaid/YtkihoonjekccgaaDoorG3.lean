/- The cells of a decoder. -/
import Derived.Test.YtkihoonjekccgaaDoorG1
namespace Go.Proofs.YtkihoonjekccgaaDoor.K
open Go.RowKit
set_option linter.unusedVariables false
set_option linter.unusedSimpArgs false
def dcl (n arr : List Int) (m : Int) (o : Bool) : List Value := n.map (fun x => .int .i64 x) ++ (arr.map (fun x => .int .u8 x) ++ [.int .i64 m, .bool o])
def dcs (n arr : List Int) (m : Int) (o : Bool) : Array Value := (dcl n arr m o).toArray
section
variable {n arr : List Int} {m : Int} {o : Bool} {i : Nat}
theorem dcs_n (hn : n.length = 12) (hi : i < 12) : (dcs n arr m o)[i]? = some (.int .i64 (n.getD i 0)) := by
  unfold dcs dcl
  rw [List.getElem?_toArray, List.getElem?_append_left (by simp [hn]; omega), List.getElem?_map, List.getD_eq_getElem?_getD, List.getElem?_eq_getElem (by omega)]
  rfl
theorem dcs_a (hn : n.length = 12) (ha : arr.length = 62) (hi : i < 62) : (dcs n arr m o)[12 + i]? = some (.int .u8 (arr.getD i 0)) := by
  unfold dcs dcl
  rw [List.getElem?_toArray, List.getElem?_append_right (by simp [hn]), List.getElem?_append_left (by simp [hn, ha]; omega), List.getElem?_map, List.length_map, hn, Nat.add_sub_cancel_left, List.getD_eq_getElem?_getD, List.getElem?_eq_getElem (by omega)]
  rfl
theorem dcs_m (hn : n.length = 12) (ha : arr.length = 62) : (dcs n arr m o)[74]? = some (.int .i64 m) := by
  unfold dcs dcl
  rw [List.getElem?_toArray, List.getElem?_append_right (by simp [hn]), List.getElem?_append_right (by simp [hn, ha])]
  simp [hn, ha]
theorem dcs_o (hn : n.length = 12) (ha : arr.length = 62) : (dcs n arr m o)[75]? = some (.bool o) := by
  unfold dcs dcl
  rw [List.getElem?_toArray, List.getElem?_append_right (by simp [hn]), List.getElem?_append_right (by simp [hn, ha])]
  simp [hn, ha]
theorem dcs_set_n (hn : n.length = 12) (hi : i < 12) (x : Int) : (dcs n arr m o).setIfInBounds i (.int .i64 x) = dcs (n.set i x) arr m o := by
  unfold dcs dcl
  rw [List.setIfInBounds_toArray, List.set_append_left (h := by simp [hn]; omega), List.map_set]
theorem dcs_set_a (hn : n.length = 12) (ha : arr.length = 62) (hi : i < 62) (x : Int) : (dcs n arr m o).setIfInBounds (12 + i) (.int .u8 x) = dcs n (arr.set i x) m o := by
  unfold dcs dcl
  rw [List.setIfInBounds_toArray, List.set_append_right (h := by simp [hn]), List.length_map, hn, Nat.add_sub_cancel_left, List.set_append_left (h := by simp [ha]; omega), List.map_set]
theorem dcs_set_m (hn : n.length = 12) (ha : arr.length = 62) (x : Int) : (dcs n arr m o).setIfInBounds 74 (.int .i64 x) = dcs n arr x o := by
  unfold dcs dcl
  rw [List.setIfInBounds_toArray, List.set_append_right (h := by simp [hn]), List.set_append_right (h := by simp [hn, ha])]
  simp [hn, ha]
theorem dcs_set_o (hn : n.length = 12) (ha : arr.length = 62) (x : Bool) : (dcs n arr m o).setIfInBounds 75 (.bool x) = dcs n arr m x := by
  unfold dcs dcl
  rw [List.setIfInBounds_toArray, List.set_append_right (h := by simp [hn]), List.set_append_right (h := by simp [hn, ha])]
  simp [hn, ha]
end
/-- A decoder that stands whole in block g. -/
structure DecB (w : World) (g : Nat) (s : Ds) : Prop where
  blk : ∃ arr : List Int, arr.length = 62 ∧ arr.take s.held.length = s.held ∧ Blk w g 30 (dcs s.n arr s.held.length s.over)
  len : s.n.length = 12
  held : s.held.length ≤ 62
theorem DecB.fr {S : Nat → Prop} {w w' : World} {g : Nat} {s : Ds} (h : DecB w g s) (k : Fr S w w') (hn : ¬ S g) : DecB w' g s := by
  obtain ⟨⟨arr, h1, h2, h3⟩, h4, h5⟩ := h
  exact ⟨⟨arr, h1, h2, h3.fr k hn⟩, h4, h5⟩
theorem DecB.below {B : Nat} {w w' : World} {g : Nat} {s : Ds} (h : DecB w g s) (k : Below B w w') (hg : g < B) : DecB w' g s := by
  obtain ⟨⟨arr, h1, h2, h3⟩, h4, h5⟩ := h
  exact ⟨⟨arr, h1, h2, h3.below k hg⟩, h4, h5⟩
theorem DecB.lt {w : World} {g : Nat} {s : Ds} (h : DecB w g s) : g < w.heap.size := by
  obtain ⟨⟨arr, h1, h2, h3⟩, h4, h5⟩ := h
  exact h3.lt
/-- A decoder as new, out of its literal. -/
theorem dec_new (w : World) : DecB (w.alloc (.cells (dcs d0.n (List.replicate 62 0) 0 false) 30)) w.heap.size d0 := ⟨⟨List.replicate 62 0, by simp, by simp [d0], Blk.new w _ _⟩, rfl, by simp [d0]⟩
end Go.Proofs.YtkihoonjekccgaaDoor.K
