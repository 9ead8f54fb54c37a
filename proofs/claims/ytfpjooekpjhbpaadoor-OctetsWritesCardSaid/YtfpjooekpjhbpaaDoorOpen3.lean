/- Arguments opened: puts. -/
import Derived.Test.YtfpjooekpjhbpaaDoorOpen2
import Derived.Test.YtfpjooekpjhbpaaDoorOWrites
namespace Go.Proofs.YtfpjooekpjhbpaaDoor.K
open Go.RowKit Go.ChangeShapes Go.WideShapes
set_option linter.unusedVariables false
set_option linter.unusedSimpArgs false
section
variable {H : Type} {enc : TypeId × Value → H} {w : World} {base : Nat} {spare : Nat → Bool} {held : Bool}
def PtOk (w : World) (p : Pt) : Prop := (Lit.int .u32 p.n).wf = true ∧ RowOf cP 1 w w.heap.size p.P p.qs ∧ (∀ q ∈ p.qs, PartOk w q) ∧ p.qs.length ≤ p.pc ∧ p.pc ≤ maxLen
theorem open_bytess {n : Nat} {cs : List Value} {y : DataW H × List MemPlace} (h : DataW.trod enc Tryd.prog w base spare held n 22 cs = some y) :
    ∃ P pc qs, cs = [.slice P qs.length pc] ∧ RowOf cP 1 w w.heap.size P qs ∧ (∀ q ∈ qs, PartOk w q) ∧ qs.length ≤ pc ∧ pc ≤ maxLen := by
  have key : ∀ (A : Option Addr) (len cap : Nat), cs = [.slice A len cap] → ∃ P pc qs, cs = [.slice P (qs : List Part).length pc] ∧ RowOf cP 1 w w.heap.size P qs ∧ (∀ q ∈ qs, PartOk w q) ∧ qs.length ≤ pc ∧ pc ≤ maxLen := fun A len cap e => by
    subst e
    obtain ⟨l, h1, h2, h3, h4, h5⟩ := open_rowOf (c := cP) (Q := PartOk w) (size := 1) (fun _ => rfl) (by omega) (by kernel_rfl) (dec_bytes Tryd.underlying26 Tryd.underlying5 (by kernel_rfl)) Tryd.underlying22 (d := y.1) (ps := y.2) (⟨n, by simpa [Value.cells] using h⟩ : DataW.Trod enc Tryd.prog w base spare held 22 (.slice A len cap) y.1 y.2)
    subst h1
    exact ⟨A, cap, l, rfl, h2, h3, h4, h5⟩
  rcases Go.Deep.open_slice Tryd.underlying22 h with ⟨hcs, _⟩ | ⟨a, l', c', m, n, D, Pl, hcs, _⟩
  · exact key _ _ _ hcs
  · exact key _ _ _ hcs
theorem dec_pt : Dec enc Tryd.prog w base spare held 43 Pt.c (PtOk w) := fun n cs y h => by
  obtain ⟨v0, v1, v2, y0, y1, y2, m, rfl, h0, h1, h2⟩ := trod_fields3 Tryd.underlying43 (by kernel_rfl) (by kernel_rfl) h
  obtain ⟨k, e0, _, _⟩ := DataW.trod_int Tryd.underlying3 h0
  obtain ⟨b, e1, _, wb⟩ := DataW.trod_int Tryd.underlying41 h1
  obtain ⟨P, pc, qs, e2, h3, h4, h5, h6⟩ := open_bytess h2
  simp only [List.cons.injEq, and_true] at e0 e1 e2
  subst e0 e1 e2
  exact ⟨⟨k, b, P, pc, qs⟩, rfl, wb, h3, h4, h5, h6⟩
theorem pts_of {l : List Pt} (h : ∀ p ∈ l, PtOk w p) : ∀ p ∈ l, 0 ≤ p.n ∧ p.n < 4294967296 ∧ In2 w.heap.size p.P p.qs w ∧ p.qs.length ≤ 9223372036854775807 := fun p hp => by
  obtain ⟨h1, h2, h3, h4, h5⟩ := h p hp
  have := bounds_u32 h1
  unfold maxLen at h5
  exact ⟨by omega, by omega, in2_of h2 h3, by omega⟩
end
end Go.Proofs.YtfpjooekpjhbpaaDoor.K
