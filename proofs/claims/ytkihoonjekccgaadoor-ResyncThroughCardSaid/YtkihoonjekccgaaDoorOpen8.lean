/- Arguments opened: slices of slices of bytes, and of frames. -/
import Derived.Test.YtkihoonjekccgaaDoorOpen7
import Derived.Test.YtkihoonjekccgaaDoorPt1
import Derived.Test.YtkihoonjekccgaaDoorG9
namespace Go.Proofs.YtkihoonjekccgaaDoor.K
open Go.RowKit Go.ChangeShapes Go.WideShapes Go.Joins Go.Deep
set_option linter.unusedVariables false
set_option linter.constructorNameAsVariable false
set_option linter.unusedSimpArgs false
section
variable {H : Type} {enc : TypeId × Value → H} {P : Program} {w : World} {base : Nat} {spare : Nat → Bool} {held : Bool}
/-- A part, as it came in. -/
def PartOk (w : World) (p : Part) : Prop := RowOf c8 1 w w.heap.size p.1 p.2.2 ∧ (∀ x ∈ p.2.2, (Lit.int .u8 x).wf = true) ∧ p.2.2.length ≤ p.2.1 ∧ p.2.1 ≤ maxLen
theorem dec_bytes {t e : TypeId} (ht : P.underlying t = some (.slice e)) (he : P.underlying e = some (.int .u8)) (hC : P.cellsOf e = 1) : Dec enc P w base spare held t cP (PartOk w) := fun n cs y h => by
  have key : ∀ (A : Option Addr) (len cap : Nat), cs = [.slice A len cap] → ∃ a, cs = cP a ∧ PartOk w a := fun A len cap e => by
    subst e
    obtain ⟨l, h1, h2, h3, h4, h5⟩ := open_rowOf (c := fun x : Int => [.int .u8 x]) (Q := fun x => (Lit.int .u8 x).wf = true) (size := 1) (fun _ => rfl) (by omega) hC (dec_int he) ht (d := y.1) (ps := y.2) (⟨n, by simpa [Value.cells] using h⟩ : DataW.Trod enc P w base spare held t (.slice A len cap) y.1 y.2)
    subst h1
    exact ⟨(A, cap, l), rfl, h2, h3, h4, h5⟩
  rcases Go.Deep.open_slice ht h with ⟨hcs, _⟩ | ⟨a, l', c', m, n, D, Pl, hcs, _⟩
  · exact key _ _ _ hcs
  · exact key _ _ _ hcs
theorem in2_of {P : Option Addr} {qs : List Part} (h : RowOf cP 1 w w.heap.size P qs) (hq : ∀ p ∈ qs, PartOk w p) : In2 w.heap.size P qs w :=
  ⟨h, fun p hp => by
    obtain ⟨h1, h2, h3, h4⟩ := hq p hp
    unfold maxLen at h4
    exact ⟨h1, fun x hx => wf_u8 (h2 x hx), h3, by omega⟩⟩
end
section
variable {H : Type} {enc : TypeId × Value → H} {w : World} {base : Nat} {spare : Nat → Bool} {held : Bool}
/-- A frame, as it came in with others. -/
def FxOk (w : World) (x : Fx) : Prop := x.1.ok ∧ RowOf c8 1 w w.heap.size x.2.1 x.1.B
theorem dec_frame : Dec enc Tryd.prog w base spare held 35 cF (FxOk w) := fun n cs y h => by
  obtain ⟨v0, v1, v2, v3, v4, v5, y0, y1, y2, y3, y4, y5, n, rfl, t0, t1, t2, t3, t4, t5⟩ := trod_fields6 Tryd.underlying35 (by kernel_rfl) (by kernel_rfl) h
  have num : ∀ (v : Value) (y : DataW H × List MemPlace), DataW.trod enc Tryd.prog w base spare held n 5 [v] = some y → ∃ x : Int, v = .int .u8 x ∧ 0 ≤ x ∧ x < 256 := fun v y h => by
    obtain ⟨x, h1, _, h3⟩ := DataW.trod_int Tryd.underlying5 h
    have := wf_u8 h3
    injection h1 with h1
    exact ⟨x, h1, this⟩
  obtain ⟨a, rfl, ha⟩ := num v0 y0 t0
  obtain ⟨k, rfl, hk⟩ := num v1 y1 t1
  obtain ⟨s, rfl, hs⟩ := num v2 y2 t2
  obtain ⟨q, rfl, hq⟩ := num v3 y3 t3
  obtain ⟨x, rfl, hx⟩ := num v4 y4 t4
  have key : ∀ (A : Option Addr) (len c : Nat), v5 = .slice A len c → ∃ x' : Fx, [Value.int .u8 a, .int .u8 k, .int .u8 s, .int .u8 q, .int .u8 x, v5] = cF x' ∧ FxOk w x' := fun A len c e => by
    subst e
    obtain ⟨l, h1, h2, h3, h4, h5⟩ := open_rowOf (c := fun x : Int => [.int .u8 x]) (Q := fun x => (Lit.int .u8 x).wf = true) (size := 1) (fun _ => rfl) (by omega) (by kernel_rfl) (dec_int Tryd.underlying5) Tryd.underlying32 (d := y5.1) (ps := y5.2) (⟨n, by simpa [Value.cells] using t5⟩ : DataW.Trod enc Tryd.prog w base spare held 32 (.slice A len c) y5.1 y5.2)
    subst h1
    exact ⟨(⟨a, k, s, q, x, l⟩, A, c), rfl, ⟨ha, hk, hs, hq, hx, fun y hy => wf_u8 (h3 y hy)⟩, h2⟩
  rcases Go.Deep.open_slice Tryd.underlying32 t5 with ⟨hcs, _⟩ | ⟨a', l', c', m, n', D, Pl, hcs, _⟩
  · injection hcs with hcs; exact key _ _ _ hcs
  · injection hcs with hcs; exact key _ _ _ hcs
end
end Go.Proofs.YtkihoonjekccgaaDoor.K
