/- Arguments opened: a frame by value. -/
import Derived.Test.YtkihoonjekccgaaDoorOpen5
import Derived.Test.YtkihoonjekccgaaDoorF6
import Derived.Lib.SmallJoins
namespace Go.Proofs.YtkihoonjekccgaaDoor.K
open Go.RowKit Go.ChangeShapes Go.WideShapes Go.Joins Go.Deep
set_option linter.unusedVariables false
set_option linter.constructorNameAsVariable false
set_option linter.unusedSimpArgs false
section
variable {H : Type} {enc : TypeId × Value → H} {P : Program} {w : World} {base : Nat} {spare : Nat → Bool} {held : Bool}
/-- A struct of 6 fields of one cell each, in its cells. -/
theorem trod_fields6 {t : TypeId} {f0 f1 f2 f3 f4 f5 : Field} {fuel : Nat} {cs : List Value} {x : DataW H × List MemPlace} (hs : P.underlying t = some (.struct #[f0, f1, f2, f3, f4, f5])) (hone : Go.Deep.oneCellFields P #[f0, f1, f2, f3, f4, f5] = true) (hC : P.cellsOf t = 6)
    (h : DataW.trod enc P w base spare held fuel t cs = some x) :
    ∃ (v0 v1 v2 v3 v4 v5 : Value) (y0 y1 y2 y3 y4 y5 : DataW H × List MemPlace) (n : Nat), cs = [v0, v1, v2, v3, v4, v5] ∧ DataW.trod enc P w base spare held n f0.type [v0] = some y0 ∧ DataW.trod enc P w base spare held n f1.type [v1] = some y1 ∧ DataW.trod enc P w base spare held n f2.type [v2] = some y2 ∧ DataW.trod enc P w base spare held n f3.type [v3] = some y3 ∧ DataW.trod enc P w base spare held n f4.type [v4] = some y4 ∧ DataW.trod enc P w base spare held n f5.type [v5] = some y5 := by
  obtain ⟨xs, n, _, hx, hcl, hlen, hg⟩ := DataW.trod_struct hs h
  rw [hC] at hcl
  match cs, hcl with
  | [c0, c1, c2, c3, c4, c5], _ =>
    obtain ⟨o0, k0⟩ := Go.Deep.hone_of hone 0 f0 rfl
    obtain ⟨o1, k1⟩ := Go.Deep.hone_of hone 1 f1 rfl
    obtain ⟨o2, k2⟩ := Go.Deep.hone_of hone 2 f2 rfl
    obtain ⟨o3, k3⟩ := Go.Deep.hone_of hone 3 f3 rfl
    obtain ⟨o4, k4⟩ := Go.Deep.hone_of hone 4 f4 rfl
    obtain ⟨o5, k5⟩ := Go.Deep.hone_of hone 5 f5 rfl
    match xs, hlen with
    | [y0, y1, y2, y3, y4, y5], _ =>
      exact ⟨c0, c1, c2, c3, c4, c5, y0, y1, y2, y3, y4, y5, n, rfl, by simpa [o0, k0] using hg 0 f0 rfl, by simpa [o1, k1] using hg 1 f1 rfl, by simpa [o2, k2] using hg 2 f2 rfl, by simpa [o3, k3] using hg 3 f3 rfl, by simpa [o4, k4] using hg 4 f4 rfl, by simpa [o5, k5] using hg 5 f5 rfl⟩
end
section
variable {H : Type} {enc : TypeId × Value → H} {w : World} {base : Nat} {spare : Nat → Bool} {held : Bool}
set_option maxRecDepth 10000 in
/-- A frame that comes in. -/
theorem open_frame {r : Reach} {b0 : Nat} {v : Value} {d : DataW H} {p : List MemPlace} (hv : Value.okWide Tryd.prog w r b0 35 v) (h : DataW.Trod enc Tryd.prog w base spare held 35 v d p) :
    ∃ (f : Fp) (A : Option Addr) (c : Nat), v = .agg #[.int .u8 f.addr, .int .u8 f.kind, .int .u8 f.ses, .int .u8 f.seq, .int .u8 f.ack, .slice A f.B.length c] ∧ f.ok ∧ RowOf c8 1 w w.heap.size A f.B ∧ f.B.length ≤ c ∧ c ≤ maxLen := by
  obtain ⟨⟨cs⟩, rfl, hsz⟩ := okWide_struct Tryd.underlying35 hv
  obtain ⟨fuel, hf⟩ := h
  obtain ⟨v0, v1, v2, v3, v4, v5, y0, y1, y2, y3, y4, y5, n, hcs0, t0, t1, t2, t3, t4, t5⟩ := trod_fields6 Tryd.underlying35 (by kernel_rfl) (by kernel_rfl) hf
  simp only [Value.cells] at hcs0
  subst hcs0
  have num : ∀ (v : Value) (y : DataW H × List MemPlace), DataW.trod enc Tryd.prog w base spare held n 5 [v] = some y → ∃ x : Int, v = .int .u8 x ∧ 0 ≤ x ∧ x < 256 := fun v y h => by
    obtain ⟨x, h1, _, h3⟩ := DataW.trod_int Tryd.underlying5 h
    have := wf_u8 h3
    injection h1 with h1
    exact ⟨x, h1, this⟩
  obtain ⟨a, rfl, ha⟩ := num v0 y0 t0
  obtain ⟨k, rfl, hk⟩ := num v1 y1 t1
  obtain ⟨s, rfl, hs⟩ := num v2 y2 t2
  obtain ⟨q, rfl, hq⟩ := num v3 y3 t3
  obtain ⟨x, rfl, hx⟩ := num v4 y4 t4
  have key : ∀ (A : Option Addr) (len c : Nat), v5 = .slice A len c → ∃ (f : Fp) (A : Option Addr) (c : Nat), Value.agg ⟨[.int .u8 a, .int .u8 k, .int .u8 s, .int .u8 q, .int .u8 x, v5]⟩ = .agg #[.int .u8 f.addr, .int .u8 f.kind, .int .u8 f.ses, .int .u8 f.seq, .int .u8 f.ack, .slice A f.B.length c] ∧ f.ok ∧ RowOf c8 1 w w.heap.size A f.B ∧ f.B.length ≤ c ∧ c ≤ maxLen := fun A len c e => by
    subst e
    obtain ⟨l, h1, h2, h3, h4, h5⟩ := open_rowOf (c := fun x : Int => [.int .u8 x]) (Q := fun x => (Lit.int .u8 x).wf = true) (size := 1) (fun _ => rfl) (by omega) (by kernel_rfl) (dec_int Tryd.underlying5) Tryd.underlying32 (d := y5.1) (ps := y5.2) (⟨n, by simpa [Value.cells] using t5⟩ : DataW.Trod enc Tryd.prog w base spare held 32 (.slice A len c) y5.1 y5.2)
    subst h1
    exact ⟨⟨a, k, s, q, x, l⟩, A, c, rfl, ⟨ha, hk, hs, hq, hx, fun y hy => wf_u8 (h3 y hy)⟩, h2, h4, h5⟩
  rcases Go.Deep.open_slice Tryd.underlying32 t5 with ⟨hcs, _⟩ | ⟨a', l', c', m, n', D, Pl, hcs, _⟩
  · injection hcs with hcs; exact key _ _ _ hcs
  · injection hcs with hcs; exact key _ _ _ hcs
end
end Go.Proofs.YtkihoonjekccgaaDoor.K
