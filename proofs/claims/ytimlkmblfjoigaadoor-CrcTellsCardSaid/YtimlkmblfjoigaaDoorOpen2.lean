/- Arguments opened: a slice of slices of bytes. -/
import Derived.Test.YtimlkmblfjoigaaDoorOpen
import Derived.Test.YtimlkmblfjoigaaDoorPt1
namespace Go.Proofs.YtimlkmblfjoigaaDoor.K
open Go.RowKit Go.ChangeShapes Go.WideShapes
set_option linter.unusedVariables false
set_option linter.unusedSimpArgs false
section
variable {H : Type} {enc : TypeId × Value → H} {P : Program} {w : World} {base : Nat} {spare : Nat → Bool} {held : Bool}
/-- A part, as it came in. -/
def PartOk (w : World) (p : Part) : Prop := RowOf c8 1 w w.heap.size p.1 p.2.2 ∧ (∀ x ∈ p.2.2, (Lit.int .u8 x).wf = true) ∧ p.2.2.length ≤ p.2.1 ∧ p.2.1 ≤ maxLen
theorem dec_bytes {t e : TypeId} (ht : P.underlying t = some (.slice e)) (he : P.underlying e = some (.int .u8)) (hC : P.cellsOf e = 1) : Dec enc P w base spare held t cP (PartOk w) := fun n cs y h => by
  have key : ∀ (A : Option Addr) (len cap : Nat), cs = [.slice A len cap] → ∃ a, cs = cP a ∧ PartOk w a := fun A len cap e => by
    subst e
    obtain ⟨l, h1, h2, h3, h4, h5⟩ := open_rowOf (c := fun x : Int => [.int .u8 x]) (Q := fun x => (Lit.int .u8 x).wf = true) (size := 1) (fun _ => rfl) (by omega) hC (dec_int he) ht (d := y.1) (ps := y.2) (⟨n, by simpa [Value.cells] using h⟩ : DataW.Trod enc P w base spare held t (.slice A len cap) y.1 y.2)
    subst h1
    exact ⟨(A, cap, l), rfl, h2, h3, h4, h5⟩
  rcases Go.Deep.open_slice ht h with ⟨hcs, _⟩ | ⟨a, l', c', m, n, D, Pl, hcs, _⟩
  · exact key _ _ _ hcs
  · exact key _ _ _ hcs
theorem in2_of {P : Option Addr} {qs : List Part} (h : RowOf cP 1 w w.heap.size P qs) (hq : ∀ p ∈ qs, PartOk w p) : In2 w.heap.size P qs w :=
  ⟨h, fun p hp => by
    obtain ⟨h1, h2, h3, h4⟩ := hq p hp
    unfold maxLen at h4
    exact ⟨h1, fun x hx => wf_u8 (h2 x hx), h3, by omega⟩⟩
end
end Go.Proofs.YtimlkmblfjoigaaDoor.K
