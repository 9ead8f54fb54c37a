/- Arguments opened: the steps of ModuleTells. -/
import Derived.Test.YtdhfinpmcikimaaDoorOpen13
import Derived.Test.YtdhfinpmcikimaaDoorM2
namespace Go.Proofs.YtdhfinpmcikimaaDoor.K
open Go.RowKit Go.ChangeShapes Go.WideShapes Go.Joins Go.Deep
set_option linter.unusedVariables false
set_option linter.constructorNameAsVariable false
set_option linter.unusedSimpArgs false
/-- A step. -/
structure Sq where
  kind : Int
  n : Int
  down : Bool
  f : Fm
  A : Option Addr
  c : Nat
  own : Bool
def cQ (s : Sq) : List Value := [.int .i64 s.kind, .int .i64 s.n, .bool s.down, .int .u8 s.f.addr, .int .u8 s.f.kind, .int .u8 s.f.ses, .int .u8 s.f.seq, .int .u8 s.f.ack, .slice s.A s.f.B.length s.c, .bool s.own]
structure QOk (w : World) (s : Sq) : Prop where
  row : RowOf c8 1 w w.heap.size s.A s.f.B
  inb : InB s.f.B
  cap : s.f.B.length ≤ s.c
section
variable {H : Type} {enc : TypeId × Value → H} {P : Program} {w : World} {base : Nat} {spare : Nat → Bool} {held : Bool}
/-- A struct of 6 fields of one cell each, in its cells. -/
theorem trod_fields6 {t : TypeId} {f0 f1 f2 f3 f4 f5 : Field} {fuel : Nat} {cs : List Value} {x : DataW H × List MemPlace} (hs : P.underlying t = some (.struct #[f0, f1, f2, f3, f4, f5])) (hone : Go.Deep.oneCellFields P #[f0, f1, f2, f3, f4, f5] = true) (hC : P.cellsOf t = 6)
    (h : DataW.trod enc P w base spare held fuel t cs = some x) :
    ∃ (v0 v1 v2 v3 v4 v5 : Value) (y0 y1 y2 y3 y4 y5 : DataW H × List MemPlace) (n : Nat), cs = [v0, v1, v2, v3, v4, v5] ∧ DataW.trod enc P w base spare held n f0.type [v0] = some y0 ∧ DataW.trod enc P w base spare held n f1.type [v1] = some y1 ∧ DataW.trod enc P w base spare held n f2.type [v2] = some y2 ∧ DataW.trod enc P w base spare held n f3.type [v3] = some y3 ∧ DataW.trod enc P w base spare held n f4.type [v4] = some y4 ∧ DataW.trod enc P w base spare held n f5.type [v5] = some y5 := by
  obtain ⟨xs, n, _, hx, hcl, hlen, hg⟩ := DataW.trod_struct hs h
  rw [hC] at hcl
  match cs, hcl with
  | [c0, c1, c2, c3, c4, c5], _ =>
    obtain ⟨o0, k0⟩ := Go.Deep.hone_of hone 0 f0 rfl
    obtain ⟨o1, k1⟩ := Go.Deep.hone_of hone 1 f1 rfl
    obtain ⟨o2, k2⟩ := Go.Deep.hone_of hone 2 f2 rfl
    obtain ⟨o3, k3⟩ := Go.Deep.hone_of hone 3 f3 rfl
    obtain ⟨o4, k4⟩ := Go.Deep.hone_of hone 4 f4 rfl
    obtain ⟨o5, k5⟩ := Go.Deep.hone_of hone 5 f5 rfl
    match xs, hlen with
    | [y0, y1, y2, y3, y4, y5], _ =>
      exact ⟨c0, c1, c2, c3, c4, c5, y0, y1, y2, y3, y4, y5, n, rfl, by simpa [o0, k0] using hg 0 f0 rfl, by simpa [o1, k1] using hg 1 f1 rfl, by simpa [o2, k2] using hg 2 f2 rfl, by simpa [o3, k3] using hg 3 f3 rfl, by simpa [o4, k4] using hg 4 f4 rfl, by simpa [o5, k5] using hg 5 f5 rfl⟩
/-- A struct of 5 fields, the fourth of six cells. -/
theorem trod_fields11161 {t : TypeId} {f0 f1 f2 f3 f4 : Field} {fuel : Nat} {cs : List Value} {x : DataW H × List MemPlace} (hs : P.underlying t = some (.struct #[f0, f1, f2, f3, f4])) (h0 : f0.offset = 0 ∧ P.cellsOf f0.type = 1) (h1 : f1.offset = 1 ∧ P.cellsOf f1.type = 1) (h2 : f2.offset = 2 ∧ P.cellsOf f2.type = 1) (h3 : f3.offset = 3 ∧ P.cellsOf f3.type = 6) (h4 : f4.offset = 9 ∧ P.cellsOf f4.type = 1) (hC : P.cellsOf t = 10)
    (h : DataW.trod enc P w base spare held fuel t cs = some x) :
    ∃ (v0 v1 v2 v3 v4 v5 v6 v7 v8 v9 : Value) (y0 y1 y2 y3 y4 : DataW H × List MemPlace) (n : Nat), cs = [v0, v1, v2, v3, v4, v5, v6, v7, v8, v9] ∧ DataW.trod enc P w base spare held n f0.type [v0] = some y0 ∧ DataW.trod enc P w base spare held n f1.type [v1] = some y1 ∧ DataW.trod enc P w base spare held n f2.type [v2] = some y2 ∧ DataW.trod enc P w base spare held n f3.type [v3, v4, v5, v6, v7, v8] = some y3 ∧ DataW.trod enc P w base spare held n f4.type [v9] = some y4 := by
  obtain ⟨xs, n, _, hx, hcl, hlen, hg⟩ := DataW.trod_struct hs h
  rw [hC] at hcl
  match cs, hcl with
  | [c0, c1, c2, c3, c4, c5, c6, c7, c8, c9], _ =>
    match xs, hlen with
    | [y0, y1, y2, y3, y4], _ => exact ⟨c0, c1, c2, c3, c4, c5, c6, c7, c8, c9, y0, y1, y2, y3, y4, n, rfl, by simpa [h0.1, h0.2] using hg 0 f0 rfl, by simpa [h1.1, h1.2] using hg 1 f1 rfl, by simpa [h2.1, h2.2] using hg 2 f2 rfl, by simpa [h3.1, h3.2] using hg 3 f3 rfl, by simpa [h4.1, h4.2] using hg 4 f4 rfl⟩
end
section
variable {H : Type} {enc : TypeId × Value → H} {w : World} {base : Nat} {spare : Nat → Bool} {held : Bool}
set_option maxRecDepth 10000 in
set_option maxHeartbeats 1000000 in
theorem dec_step11 : Dec enc Tryd.prog w base spare held 68 cQ (QOk w) := by
  intro n cs y h
  have hs := Tryd.underlying68
  have hc : Tryd.prog.cellsOf 68 = 10 := by kernel_rfl
  have g0 : Tryd.prog.cellsOf 3 = 1 := by kernel_rfl
  have g1 : Tryd.prog.cellsOf 54 = 6 := by kernel_rfl
  have g2 : Tryd.prog.cellsOf 4 = 1 := by kernel_rfl
  have ht := trod_fields11161 hs ⟨rfl, g0⟩ ⟨rfl, g0⟩ ⟨rfl, g2⟩ ⟨rfl, g1⟩ ⟨rfl, g2⟩ hc h
  obtain ⟨v0, v1, v2, v3, v4, v5, v6, v7, v8, v9, y0, y1, y2, y3, y4, m, hcs, t0, t1, t2, t3, t4⟩ := ht
  subst hcs
  obtain ⟨a, h1, _, h2⟩ := DataW.trod_int Tryd.underlying3 t0
  obtain ⟨b, h3, _, h4⟩ := DataW.trod_int Tryd.underlying3 t1
  obtain ⟨dn, h5, _⟩ := DataW.trod_bool Tryd.underlying4 t2
  obtain ⟨ow, h6, _⟩ := DataW.trod_bool Tryd.underlying4 t4
  injection h1 with h1
  injection h3 with h3
  injection h5 with h5
  injection h6 with h6
  subst h1 h3 h5 h6
  obtain ⟨u0, u1, u2, u3, u4, u5, z0, z1, z2, z3, z4, z5, n2, hcs0, s0, s1, s2, s3, s4, s5⟩ := trod_fields6 Tryd.underlying54 (by kernel_rfl) (by kernel_rfl) t3
  simp only [List.cons.injEq, and_true] at hcs0
  obtain ⟨rfl, rfl, rfl, rfl, rfl, rfl⟩ := hcs0
  obtain ⟨p0, e0, _, _⟩ := DataW.trod_int Tryd.underlying5 s0
  obtain ⟨p1, e1, _, _⟩ := DataW.trod_int Tryd.underlying5 s1
  obtain ⟨p2, e2, _, _⟩ := DataW.trod_int Tryd.underlying5 s2
  obtain ⟨p3, e3, _, _⟩ := DataW.trod_int Tryd.underlying5 s3
  obtain ⟨p4, e4, _, _⟩ := DataW.trod_int Tryd.underlying5 s4
  simp only [List.cons.injEq, and_true] at e0 e1 e2 e3 e4
  subst e0 e1 e2 e3 e4
  have key : ∀ (A : Option Addr) (len c : Nat), v8 = .slice A len c → ∃ s : Sq, [Value.int .i64 a, .int .i64 b, .bool dn, .int .u8 p0, .int .u8 p1, .int .u8 p2, .int .u8 p3, .int .u8 p4, v8, .bool ow] = cQ s ∧ QOk w s := fun A len c e => by
    subst e
    obtain ⟨l, h1, h2, h3, h4, h5⟩ := open_rowOf (c := fun x : Int => [.int .u8 x]) (Q := fun x => (Lit.int .u8 x).wf = true) (size := 1) (fun _ => rfl) (by omega) (by kernel_rfl) (dec_int Tryd.underlying5) Tryd.underlying26 (d := z5.1) (ps := z5.2) (⟨n2, by simpa [Value.cells] using s5⟩ : DataW.Trod enc Tryd.prog w base spare held 26 (.slice A len c) z5.1 z5.2)
    subst h1
    exact ⟨⟨a, b, dn, ⟨p0, p1, p2, p3, p4, l⟩, A, c, ow⟩, rfl, h2, fun y hy => wf_u8 (h3 y hy), h4⟩
  rcases Go.Deep.open_slice Tryd.underlying26 s5 with ⟨hcs, _⟩ | ⟨a', l', c', m', n', D, Pl, hcs, _⟩
  · injection hcs with hcs; exact key _ _ _ hcs
  · injection hcs with hcs; exact key _ _ _ hcs
end
end Go.Proofs.YtdhfinpmcikimaaDoor.K
