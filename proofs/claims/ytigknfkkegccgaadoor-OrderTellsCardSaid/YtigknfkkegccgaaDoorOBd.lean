/- Orders: a cell of a row of lines is laid anew. -/
import Derived.Test.YtigknfkkegccgaaDoorOBc
namespace Go.Proofs.YtigknfkkegccgaaDoor.K
open Go.RowKit
set_option linter.unusedVariables false
set_option linter.unusedSimpArgs false
theorem flat_set {α : Type} {c : α → List Value} {size : Nat} (hc : ∀ x, (c x).length = size) : ∀ (l : List α) (k : Nat) (x : α) (f : Nat) (u : Value) (hk : k < l.length), f < size → c x = (c l[k]).set f u → (l.flatMap c).set (k * size + f) u = (l.set k x).flatMap c := by
  intro l
  induction l with
  | nil => intro k x f u hk; simp at hk
  | cons y l ih =>
    intro k x f u hk hf h
    cases k with
    | zero =>
      simp only [List.getElem_cons_zero] at h
      rw [Nat.zero_mul, Nat.zero_add, List.flatMap_cons, List.set_append_left _ _ (by rw [hc]; exact hf), List.set_cons_zero, List.flatMap_cons, h]
    | succ k =>
      simp only [List.getElem_cons_succ] at h
      rw [List.flatMap_cons, List.set_append_right _ _ (by rw [hc, Nat.succ_mul]; omega), hc, List.set_cons_succ, List.flatMap_cons, ← ih k x f u (by simpa using hk) hf h, show (k + 1) * size + f - size = k * size + f by rw [Nat.succ_mul]; omega]
theorem MadeL.set {B c k f : Nat} {A : Option Addr} {l : List Ln} {w : World} (h : MadeL B A c l w) (hk : k < l.length) (hf : f < 3) :
    ∃ g, A = some ⟨g, 0, none⟩ ∧ B ≤ g ∧ g < w.heap.size ∧ w.cell? ⟨g, k * 3 + f, none⟩ = (cL l[k])[f]? ∧ w.frozen? ⟨g, k * 3 + f, none⟩ = false ∧ ∀ x u, cL x = (cL l[k]).set f u → MadeL B (some ⟨g, 0, none⟩) c (l.set k x) (w.setCell ⟨g, k * 3 + f, none⟩ u) := by
  obtain ⟨h1, h2, h3⟩ := h
  obtain ⟨g, cap, hv, hb, hlt⟩ := h1.form (by omega)
  have hA : A = some ⟨g, 0, none⟩ := by injection hv
  subst hA
  have hcell : w.cell? ⟨g, k * 3 + f, none⟩ = (cL l[k])[f]? := by
    have hx : (cL l[k])[f]? = some ((cL l[k])[f]'hf) := List.getElem?_eq_getElem hf
    have := flat_at (c := cL) (size := 3) (fun _ => rfl) l k l[k] (List.getElem?_eq_getElem hk) f _ hx
    rw [hx, ← this]
    exact h1.cellAt (k * 3 + f) (by omega)
  refine ⟨g, rfl, hb, hlt, hcell, h1.frozenAt (k * 3 + f), fun x u hx => ?_⟩
  have h4 := (h1.stored (k * 3 + f) u).1
  rw [flat_set (c := cL) (size := 3) (fun _ => rfl) l k x f u hk hf hx] at h4
  exact ⟨by rw [List.length_set]; exact h4, row_own (c := cL) (fun _ => rfl) (by rw [List.length_set]; exact h4), by rw [List.length_set]; exact h3⟩
theorem idx_ln {g n c k : Nat} (h : k < n) (W : World) : (Instr.indexAt 23 (.slice (some ⟨g, 0, none⟩) n c) (.int .i64 k)).run Tryd.prog W = .ok (.pointer (some ⟨g, k * 3, none⟩)) W := by
  obtain ⟨i, hi, hz⟩ := info_parts info_ln
  have hel : Tryd.prog.elem 23 = 51 := by simp [Program.elem, Tryd.underlying23]
  rw [run_indexAt_slice W 23 _ _ _ .i64 k (by rw [hel]; exact Tryd.underlying23), hel, if_pos (by omega)]
  simp [sizeOf, typeInfo, hi, hz, Result.andThen, add_plain]
theorem RightE {A : Option Addr} {c m : Nat} {id v : Int} {ls : List Ln} {w : World} (hr : RowOf cL 3 w w.heap.size A ls) (hm : ls.length = m) (hl : m ≤ 1000) (hc : m ≤ c) (ho : ∀ l ∈ ls, l.ok) (hv : rightO ls = v) :
    Calls Tryd.prog 13 #[.agg #[.int .u32 id, .slice A m c]] w fun e w' => e = .returned (.int .i64 v) ∧ Hid (Below w.heap.size w w') := by
  subst hm hv
  exact RightC hr (Nat.le_refl _) (by omega) hc ho
end Go.Proofs.YtigknfkkegccgaaDoor.K
