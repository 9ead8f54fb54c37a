/- A Writer: Bytes of parts, Done; slices.Clone of bytes; Join. -/
import Derived.Test.YtdhfinpmcikimaaDoorWn
import Derived.Test.YtdhfinpmcikimaaDoorRow
import Derived.Deep.QuietTactic
namespace Go.Proofs.YtdhfinpmcikimaaDoor.K
open Go.RowKit
set_option linter.unusedVariables false
set_option linter.unusedSimpArgs false
/-- A part: where its bytes lie, its capacity, its bytes. -/
abbrev Part := Option Addr × Nat × List Int
abbrev cP : Part → List Value := fun p => [.slice p.1 p.2.2.length p.2.1]
/-- All parts as one. -/
def flat (ps : List Part) : List Int := ps.flatMap fun p => p.2.2
theorem flat_take (ps : List Part) (k : Nat) (h : k < ps.length) : flat (ps.take (k + 1)) = flat (ps.take k) ++ (ps[k]).2.2 := by
  unfold flat
  rw [List.take_succ_eq_append_getElem h, List.flatMap_append]
  simp
theorem RowOf.one {α : Type} {c : α → List Value} {w : World} {B : Nat} {A : Option Addr} {l : List α} {g : α → Value} (hc : ∀ x, c x = [g x]) (h : RowOf c 1 w B A l) {i : Nat} (hi : i < l.length) : ∃ ad, A = some ad ∧ ad.block < B ∧ w.cell? (ad.add i) = some (g l[i]) := by
  obtain ⟨ad, rfl, hb, hcc⟩ := h i (l[i]) (List.getElem?_eq_getElem hi)
  refine ⟨ad, rfl, hb, ?_⟩
  have := hcc 0 (g l[i]) (by rw [hc]; rfl)
  rwa [Nat.mul_one, Nat.add_zero] at this
theorem RowOf.more_ {α : Type} {c : α → List Value} {size : Nat} {w : World} {B B' : Nat} {A : Option Addr} {l : List α} (h : RowOf c size w B A l) (hb : B ≤ B') : RowOf c size w B' A l := by
  intro i x hx
  obtain ⟨ad, rfl, hb', hc⟩ := h i x hx
  exact ⟨ad, rfl, by omega, hc⟩
theorem RowOf.now {α : Type} {c : α → List Value} {size : Nat} {w w' : World} {A : Option Addr} {l : List α} (h : RowOf c size w w.heap.size A l) (hb : Below w.heap.size w w') : RowOf c size w' w'.heap.size A l := (h.below hb).more_ hb.size
/-- A row of bytes of the call's own. -/
def Made (B : Nat) (A : Option Addr) (c : Nat) (l : List Int) (w : World) : Prop := w.ownsRow B 5 1 (.slice A l.length c) l.length (nums .u8 l) ∧ RowOf c8 1 w w.heap.size A l ∧ l.length ≤ c
theorem nums_flat (l : List Int) : nums .u8 l = l.flatMap c8 := by
  induction l with
  | nil => rfl
  | cons x l ih => simp [nums] at *; exact ih
theorem made_of {B : Nat} {v : Value} {l : List Int} {w : World} (h : w.ownsRow B 5 1 v l.length (nums .u8 l)) : ∃ A c, v = .slice A l.length c ∧ Made B A c l w := by
  obtain ⟨A, c, rfl, hc⟩ := own_form h
  exact ⟨A, c, rfl, h, row_own (c := c8) (fun _ => rfl) (by rw [← nums_flat]; exact h), hc⟩
/-- A literal row of no elements is made, and written. -/
theorem lit_fr {w w2 : World} {v : Value} {o : Obj} (h4 : Fr (fun k => v.ownBlock = some k) (w.alloc o) w2) (h : ∀ k, v.ownBlock = some k → w.heap.size ≤ k) : Fr0 w w2 :=
  ((Fr.refl (fun _ => False) w).alloc o).trans h4 (fun j hj e => by have := h j e; omega)
set_option maxHeartbeats 4000000 in
set_option maxRecDepth 10000 in
theorem CloneC {A : Option Addr} {c : Nat} {l : List Int} {w : World} (hl : l.length ≤ 140737488355328) (h : RowOf c8 1 w w.heap.size A l) :
    Calls Tryd.prog 56 #[.slice A l.length c] w fun e w' => ∃ A' c', e = .returned (.slice A' l.length c') ∧ Hid (Made w.heap.size A' c' l w') ∧ Hid (Fr0 w w') := by
  cases A with
  | none =>
    have hl0 : l = [] := by
      cases l with
      | nil => rfl
      | cons y l => obtain ⟨ad, e, _⟩ := h 0 y rfl; cases e
    subst hl0
    have hnil : ∀ W, (binOp .eql 26 (.slice none 0 c) (.slice none 0 0)).run Tryd.prog W = .ok (.bool true) W := fun W => Lib.run_eql_slice_nil_nil W _ _ Tryd.underlying26
    go_enter Tryd.func56, Tryd.ntmps56
    go_wp2
    go_ret
    exact ⟨none, 0, rfl, Lib.hid ⟨own_nil _ _ _ _, h, Nat.le_refl _⟩, Lib.hid (Fr.refl _ _)⟩
  | some ad =>
    have hnil : ∀ W, (binOp .eql 26 (.slice (some ad) l.length c) (.slice none 0 0)).run Tryd.prog W = .ok (.bool false) W := fun W => Lib.run_eql_slice_some_nil W _ _ _ Tryd.underlying26
    have HR := Lib.hid h
    clear h
    go_enter Tryd.func56, Tryd.ntmps56
    go_wp2_with (at_builtin; go_loud (refine appR (c := c8) rfl _ _ _ rfl 5 (.int .u8 0) 1 1 Tryd.underlying26 info_u8 rfl (by omega) (by omega) (fun _ => rfl) (fun y u hu => by simp at hu; subst hu; rfl) w.heap.size w.heap.size _ [] l _ _ rfl rfl (RowOf.below HR.out ((Below.refl _ w).alloc (Nat.le_refl _) _)) (World.ownsRow_lit w #[] 0 (Nat.le_refl _) (by decide) rfl) (by simp) (by simp only [List.length_nil]; omega) ?_; intro v2 w2 h3 h4 h5; have F1 := Lib.hid (lit_fr h4 (fun k hk => Nat.le_of_eq (Option.some.inj hk))); have G1 := Lib.hid (made_of (B := w.heap.size) (v := v2) (l := l) (by rw [nums_flat]; exact h3)); clear h3 h4 h5))
    go_ret
    obtain ⟨A2, c2, rfl, hm⟩ := G1.out
    exact ⟨A2, c2, rfl, Lib.hid hm, F1⟩
end Go.Proofs.YtdhfinpmcikimaaDoor.K
