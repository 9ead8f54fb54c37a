/- Arguments opened: a slice of whatever elements, as a list. -/
import Derived.Test.YtdhfinpmcikimaaDoorKit
import Derived.SizedLaws
import Derived.ChangeSlices
import Derived.Deep.Slices
import Derived.Deep.Fields
import Derived.ProofKit
import Derived.OpenShut
namespace Go.Proofs.YtdhfinpmcikimaaDoor.K
open Go.RowKit Go.ChangeShapes Go.WideShapes
set_option linter.unusedVariables false
set_option linter.unusedSimpArgs false

theorem pick {α : Type} {n : Nat} {R : Nat → α → Prop} (h : ∀ i, i < n → ∃ x, R i x) : ∃ l : List α, l.length = n ∧ ∀ (i : Nat) (x : α), l[i]? = some x → R i x := by
  induction n with
  | zero => exact ⟨[], rfl, fun i x hx => by simp at hx⟩
  | succ n ih =>
    obtain ⟨l, hl, hr⟩ := ih (fun i hi => h i (by omega))
    obtain ⟨y, hy⟩ := h n (by omega)
    refine ⟨l ++ [y], by simp [hl], fun i x hx => ?_⟩
    by_cases hi : i < l.length
    · rw [List.getElem?_append_left hi] at hx; exact hr i x hx
    · rw [List.getElem?_append_right (by omega)] at hx
      obtain ⟨h0, h1⟩ := List.getElem?_eq_some_iff.1 hx
      have : i - l.length = 0 := by simp at h0; omega
      obtain rfl : i = n := by omega
      simp at h1; subst h1; exact hy

section
variable {H : Type} {enc : TypeId × Value → H} {P : Program} {w : World} {base : Nat} {spare : Nat → Bool} {held : Bool}
/-- How a value of type t lies in its cells: as a's, for some a of which Q holds. -/
def Dec {α : Type} (enc : TypeId × Value → H) (P : Program) (w : World) (base : Nat) (spare : Nat → Bool) (held : Bool) (t : TypeId) (c : α → List Value) (Q : α → Prop) : Prop :=
  ∀ n cs y, DataW.trod enc P w base spare held n t cs = some y → ∃ a, cs = c a ∧ Q a
theorem dec_int {t : TypeId} {k : IntKind} (ht : P.underlying t = some (.int k)) : Dec enc P w base spare held t (fun x : Int => [.int k x]) (fun x => (Lit.int k x).wf = true) := fun n cs y h => by
  obtain ⟨x, h1, _, h3⟩ := DataW.trod_int ht h
  exact ⟨x, h1, h3⟩
theorem dec_bool {t : TypeId} (ht : P.underlying t = some .bool) : Dec enc P w base spare held t (fun x : Bool => [.bool x]) (fun _ => True) := fun n cs y h => by
  obtain ⟨x, h1, _⟩ := DataW.trod_bool ht h
  exact ⟨x, h1, trivial⟩

/-- A struct of 3 fields of one cell each, in its cells. -/
theorem trod_fields3 {t : TypeId} {f0 f1 f2 : Field} {fuel : Nat} {cs : List Value} {x : DataW H × List MemPlace} (hs : P.underlying t = some (.struct #[f0, f1, f2])) (hone : Go.Deep.oneCellFields P #[f0, f1, f2] = true) (hC : P.cellsOf t = 3)
    (h : DataW.trod enc P w base spare held fuel t cs = some x) :
    ∃ (v0 v1 v2 : Value) (y0 y1 y2 : DataW H × List MemPlace) (n : Nat), cs = [v0, v1, v2] ∧ DataW.trod enc P w base spare held n f0.type [v0] = some y0 ∧ DataW.trod enc P w base spare held n f1.type [v1] = some y1 ∧ DataW.trod enc P w base spare held n f2.type [v2] = some y2 := by
  obtain ⟨xs, n, _, hx, hcl, hlen, hg⟩ := DataW.trod_struct hs h
  rw [hC] at hcl
  match cs, hcl with
  | [c0, c1, c2], _ =>
    obtain ⟨o0, k0⟩ := Go.Deep.hone_of hone 0 f0 rfl
    obtain ⟨o1, k1⟩ := Go.Deep.hone_of hone 1 f1 rfl
    obtain ⟨o2, k2⟩ := Go.Deep.hone_of hone 2 f2 rfl
    match xs, hlen with
    | [y0, y1, y2], _ =>
      exact ⟨c0, c1, c2, y0, y1, y2, n, rfl, by simpa [o0, k0] using hg 0 f0 rfl, by simpa [o1, k1] using hg 1 f1 rfl, by simpa [o2, k2] using hg 2 f2 rfl⟩
/-- A struct of 4 fields of one cell each, in its cells. -/
theorem trod_fields4 {t : TypeId} {f0 f1 f2 f3 : Field} {fuel : Nat} {cs : List Value} {x : DataW H × List MemPlace} (hs : P.underlying t = some (.struct #[f0, f1, f2, f3])) (hone : Go.Deep.oneCellFields P #[f0, f1, f2, f3] = true) (hC : P.cellsOf t = 4)
    (h : DataW.trod enc P w base spare held fuel t cs = some x) :
    ∃ (v0 v1 v2 v3 : Value) (y0 y1 y2 y3 : DataW H × List MemPlace) (n : Nat), cs = [v0, v1, v2, v3] ∧ DataW.trod enc P w base spare held n f0.type [v0] = some y0 ∧ DataW.trod enc P w base spare held n f1.type [v1] = some y1 ∧ DataW.trod enc P w base spare held n f2.type [v2] = some y2 ∧ DataW.trod enc P w base spare held n f3.type [v3] = some y3 := by
  obtain ⟨xs, n, _, hx, hcl, hlen, hg⟩ := DataW.trod_struct hs h
  rw [hC] at hcl
  match cs, hcl with
  | [c0, c1, c2, c3], _ =>
    obtain ⟨o0, k0⟩ := Go.Deep.hone_of hone 0 f0 rfl
    obtain ⟨o1, k1⟩ := Go.Deep.hone_of hone 1 f1 rfl
    obtain ⟨o2, k2⟩ := Go.Deep.hone_of hone 2 f2 rfl
    obtain ⟨o3, k3⟩ := Go.Deep.hone_of hone 3 f3 rfl
    match xs, hlen with
    | [y0, y1, y2, y3], _ =>
      exact ⟨c0, c1, c2, c3, y0, y1, y2, y3, n, rfl, by simpa [o0, k0] using hg 0 f0 rfl, by simpa [o1, k1] using hg 1 f1 rfl, by simpa [o2, k2] using hg 2 f2 rfl, by simpa [o3, k3] using hg 3 f3 rfl⟩

theorem open_rowOf {α : Type} {c : α → List Value} {Q : α → Prop} {size : Nat} (hsize : ∀ a, (c a).length = size) (h0 : 0 < size) {t e : TypeId} (hC : P.cellsOf e = size)
    (dec : Dec enc P w base spare held e c Q) (ht : P.underlying t = some (.slice e)) {A : Option Addr} {len cap : Nat} {d : DataW H} {ps : List MemPlace} (h : DataW.Trod enc P w base spare held t (.slice A len cap) d ps) :
    ∃ l : List α, l.length = len ∧ RowOf c size w w.heap.size A l ∧ (∀ a ∈ l, Q a) ∧ len ≤ cap ∧ cap ≤ maxLen := by
  obtain ⟨fuel, hf⟩ := h
  rcases Go.Deep.open_slice ht hf with ⟨hcs, _⟩ | ⟨a, l', c', m, n, D, Pl, hcs, hb, hl, hm, hmm, _, hi⟩
  · simp [Value.cells] at hcs
    obtain ⟨rfl, rfl, rfl⟩ := hcs
    exact ⟨[], rfl, fun i x hx => by simp at hx, fun a ha => by simp at ha, Nat.le_refl _, by simp⟩
  · simp [Value.cells] at hcs
    obtain ⟨rfl, rfl, rfl⟩ := hcs
    have hlm : len ≤ m := by rw [hmm]; split <;> omega
    have hp : ∀ i, i < len → ∃ x, (∀ j u, (c x)[j]? = some u → w.cell? (a.add (i * size + j)) = some u) ∧ Q x := by
      intro i hi'
      obtain ⟨cs', hc1, hc2⟩ := hi i (by omega)
      obtain ⟨x, rfl, hq⟩ := dec _ _ _ hc2
      obtain ⟨_, hcl, hcell⟩ := World.cells?_some hc1
      refine ⟨x, fun j u hu => ?_, hq⟩
      have hj : j < size := by rw [← hsize x]; exact (List.getElem?_eq_some_iff.1 hu).1
      have := hcell j (by rw [hC]; exact hj)
      rw [hC, add_of_add] at this
      rw [this, hu]
    obtain ⟨l, hll, hr⟩ := pick hp
    refine ⟨l, hll, fun i x hx => ⟨a, rfl, ?_, (hr i x hx).1⟩, fun x hx => ?_, hl, hm⟩
    · have hc := (hr i x hx).1 0 ((c x)[0]'(by rw [hsize]; exact h0)) (List.getElem?_eq_getElem _)
      have := World.block_lt_of_cell? w _ hc
      rwa [block_of_add] at this
    · obtain ⟨i, hi', hx'⟩ := List.mem_iff_getElem.1 hx
      exact (hr i x (by rw [List.getElem?_eq_getElem hi', hx'])).2
/-- How many bytes it may take at most. -/
theorem open_sized {ts : List TypeId} {ds : List (DataW H)} {j : Nat} {t e : TypeId} {d : DataW H} {A : Option Addr} {len cap B : Nat} {ps : List MemPlace}
    (hsz : (DataW.weightsEach P ts ds).all (· ≤ reachBytes) = true) (htj : ts[j]? = some t) (hdj : ds[j]? = some d) (ht : P.underlying t = some (.slice e)) (hB : P.bytesOf e = B)
    (h : DataW.Trod enc P w base spare held t (.slice A len cap) d ps) : len * B ≤ 140737488351232 := by
  obtain ⟨fuel, hf⟩ := h
  rcases Go.Deep.open_slice ht hf with ⟨hcs, _⟩ | ⟨a, l', c', m, n, D, Pl, hcs, hb, hl, hm, hmm, hx, hi⟩
  · simp [Value.cells] at hcs
    obtain ⟨rfl, rfl, rfl⟩ := hcs
    simp
  · simp [Value.cells] at hcs
    obtain ⟨rfl, rfl, rfl⟩ := hcs
    obtain ⟨rfl, _⟩ := Prod.mk.inj hx
    have z := sized_slice hsz htj hdj ht
    rw [hB] at z
    refine Nat.le_trans (Nat.mul_le_mul_right _ ?_) z
    simp
end

theorem wf_u8 {x : Int} (h : (Lit.int .u8 x).wf = true) : 0 ≤ x ∧ x < 256 := by
  have := bounds_u8 h; omega
end Go.Proofs.YtdhfinpmcikimaaDoor.K
