/- Arguments opened: orders. -/
import Derived.Test.YtigknfkkegccgaaDoorOpen
import Derived.Test.YtigknfkkegccgaaDoorO4
import Derived.Lib.SmallJoins
namespace Go.Proofs.YtigknfkkegccgaaDoor.K
open Go.RowKit Go.ChangeShapes Go.WideShapes Go.Joins Go.Deep
set_option linter.unusedVariables false
set_option linter.constructorNameAsVariable false
set_option linter.unusedSimpArgs false
section
variable {H : Type} {enc : TypeId × Value → H} {P : Program} {w : World} {base : Nat} {spare : Nat → Bool} {held : Bool}
/-- A struct of 2 fields of one cell each, in its cells. -/
theorem trod_fields2 {t : TypeId} {f0 f1 : Field} {fuel : Nat} {cs : List Value} {x : DataW H × List MemPlace} (hs : P.underlying t = some (.struct #[f0, f1])) (hone : Go.Deep.oneCellFields P #[f0, f1] = true) (hC : P.cellsOf t = 2)
    (h : DataW.trod enc P w base spare held fuel t cs = some x) :
    ∃ (v0 v1 : Value) (y0 y1 : DataW H × List MemPlace) (n : Nat), cs = [v0, v1] ∧ DataW.trod enc P w base spare held n f0.type [v0] = some y0 ∧ DataW.trod enc P w base spare held n f1.type [v1] = some y1 := by
  obtain ⟨xs, n, _, hx, hcl, hlen, hg⟩ := DataW.trod_struct hs h
  rw [hC] at hcl
  match cs, hcl with
  | [c0, c1], _ =>
    obtain ⟨o0, k0⟩ := Go.Deep.hone_of hone 0 f0 rfl
    obtain ⟨o1, k1⟩ := Go.Deep.hone_of hone 1 f1 rfl
    match xs, hlen with
    | [y0, y1], _ => exact ⟨c0, c1, y0, y1, n, rfl, by simpa [o0, k0] using hg 0 f0 rfl, by simpa [o1, k1] using hg 1 f1 rfl⟩
end
section
variable {H : Type} {enc : TypeId × Value → H} {w : World} {base : Nat} {spare : Nat → Bool} {held : Bool}
theorem dec_ln : Dec enc Tryd.prog w base spare held 51 cL Ln.ok := fun n cs y h => by
  obtain ⟨v0, v1, v2, y0, y1, y2, n, rfl, t0, t1, t2⟩ := trod_fields3 Tryd.underlying51 (by kernel_rfl) (by kernel_rfl) h
  obtain ⟨a, h1, _, h2⟩ := DataW.trod_int Tryd.underlying49 t0
  obtain ⟨b, h3, _, h4⟩ := DataW.trod_int Tryd.underlying49 t1
  obtain ⟨c, h5, _, h6⟩ := DataW.trod_int Tryd.underlying3 t2
  injection h1 with h1
  injection h3 with h3
  injection h5 with h5
  subst h1 h3 h5
  have b2 := bounds_u16 h2
  have b4 := bounds_u16 h4
  have b6 := bounds_i64 h6
  exact ⟨⟨a, b, c⟩, rfl, ⟨by simp only; omega, by simp only; omega, by simp only; omega⟩⟩
/-- An order's cells. -/
theorem dec_ord {n : Nat} {v0 v1 : Value} {y : DataW H × List MemPlace} (h : DataW.trod enc Tryd.prog w base spare held n 25 [v0, v1] = some y) :
    ∃ (id : Int) (ls : List Ln) (A : Option Addr) (c : Nat), v0 = .int .u32 id ∧ v1 = .slice A ls.length c ∧ (0 ≤ id ∧ id < 4294967296) ∧ RowOf cL 3 w w.heap.size A ls ∧ ls.length ≤ c ∧ (∀ l ∈ ls, l.ok) := by
  obtain ⟨u0, u1, y0, y1, n, hcs, t0, t1⟩ := trod_fields2 Tryd.underlying25 (by kernel_rfl) (by kernel_rfl) h
  injection hcs with e0 hcs
  injection hcs with e1 _
  subst e0 e1
  obtain ⟨a, h1, _, h2⟩ := DataW.trod_int Tryd.underlying22 t0
  injection h1 with h1
  subst h1
  have b2 := bounds_u32 h2
  have key : ∀ (A : Option Addr) (len c : Nat), v1 = .slice A len c → ∃ (id : Int) (ls : List Ln) (A : Option Addr) (c : Nat), (Value.int .u32 a) = .int .u32 id ∧ v1 = .slice A ls.length c ∧ (0 ≤ id ∧ id < 4294967296) ∧ RowOf cL 3 w w.heap.size A ls ∧ ls.length ≤ c ∧ (∀ l ∈ ls, l.ok) := fun A len c e => by
    subst e
    obtain ⟨l, h1, h2, h3, h4, h5⟩ := open_rowOf (c := cL) (Q := Ln.ok) (size := 3) (fun _ => rfl) (by omega) (by kernel_rfl) dec_ln Tryd.underlying23 (d := y1.1) (ps := y1.2) (⟨n, by simpa [Value.cells] using t1⟩ : DataW.Trod enc Tryd.prog w base spare held 23 (.slice A len c) y1.1 y1.2)
    subst h1
    exact ⟨a, l, A, c, rfl, rfl, by omega, h2, h4, h3⟩
  rcases Go.Deep.open_slice Tryd.underlying23 t1 with ⟨hcs, _⟩ | ⟨a', l', c', m, n', D, Pl, hcs, _⟩
  · injection hcs with hcs; exact key _ _ _ hcs
  · injection hcs with hcs; exact key _ _ _ hcs
set_option maxRecDepth 10000 in
/-- An order that comes in. -/
theorem open_order {r : Reach} {b0 : Nat} {v : Value} {d : DataW H} {p : List MemPlace} (hv : Value.okWide Tryd.prog w r b0 25 v) (h : DataW.Trod enc Tryd.prog w base spare held 25 v d p) :
    ∃ (id : Int) (ls : List Ln) (A : Option Addr) (c : Nat), v = .agg #[.int .u32 id, .slice A ls.length c] ∧ (0 ≤ id ∧ id < 4294967296) ∧ RowOf cL 3 w w.heap.size A ls ∧ ls.length ≤ c ∧ (∀ l ∈ ls, l.ok) := by
  obtain ⟨⟨cs⟩, rfl, hsz⟩ := okWide_struct Tryd.underlying25 hv
  obtain ⟨fuel, hf⟩ := h
  obtain ⟨v0, v1, y0, y1, n, hcs0, t0, t1⟩ := trod_fields2 Tryd.underlying25 (by kernel_rfl) (by kernel_rfl) hf
  simp only [Value.cells] at hcs0
  subst hcs0
  obtain ⟨id, ls, A, c, rfl, rfl, q⟩ := dec_ord (by simpa [Value.cells] using hf)
  exact ⟨id, ls, A, c, rfl, q⟩
end
end Go.Proofs.YtigknfkkegccgaaDoor.K
