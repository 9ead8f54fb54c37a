/- Arguments opened: a command, and an event, by value. -/
import Derived.Test.YtdhfinpmcikimaaDoorOpen11
import Derived.Lib.SmallJoins
namespace Go.Proofs.YtdhfinpmcikimaaDoor.K
open Go.RowKit Go.ChangeShapes Go.WideShapes Go.Joins Go.Deep
set_option linter.unusedVariables false
set_option linter.constructorNameAsVariable false
set_option linter.unusedSimpArgs false
section
variable {H : Type} {enc : TypeId × Value → H} {w : World} {base : Nat} {spare : Nat → Bool} {held : Bool}
set_option maxRecDepth 10000 in
theorem open_cmd {r : Reach} {b0 : Nat} {v : Value} {d : DataW H} {p : List MemPlace} (hv : Value.okWide Tryd.prog w r b0 24 v) (h : DataW.Trod enc Tryd.prog w base spare held 24 v d p) :
    ∃ (k t q : Int), v = .agg #[.int .u8 k, .int .u16 t, .int .u16 q] ∧ (0 ≤ k ∧ k < 256) ∧ (0 ≤ t ∧ t < 65536) ∧ (0 ≤ q ∧ q < 65536) := by
  obtain ⟨⟨cs⟩, rfl, hsz⟩ := okWide_struct Tryd.underlying24 hv
  obtain ⟨fuel, hf⟩ := h
  obtain ⟨v0, v1, v2, y0, y1, y2, n, hcs0, t0, t1, t2⟩ := trod_fields3 Tryd.underlying24 (by kernel_rfl) (by kernel_rfl) hf
  simp only [Value.cells] at hcs0
  subst hcs0
  have num8 : ∀ (v : Value) (y : DataW H × List MemPlace), DataW.trod enc Tryd.prog w base spare held n 5 [v] = some y → ∃ x : Int, v = .int .u8 x ∧ 0 ≤ x ∧ x < 256 := fun v y h => by
    obtain ⟨x, h1, _, h3⟩ := DataW.trod_int Tryd.underlying5 h
    have := wf_u8 h3
    injection h1 with h1
    exact ⟨x, h1, this⟩
  have num16 : ∀ (v : Value) (y : DataW H × List MemPlace), DataW.trod enc Tryd.prog w base spare held n 22 [v] = some y → ∃ x : Int, v = .int .u16 x ∧ 0 ≤ x ∧ x < 65536 := fun v y h => by
    obtain ⟨x, h1, _, h3⟩ := DataW.trod_int Tryd.underlying22 h
    have := bounds_u16 h3
    injection h1 with h1
    exact ⟨x, h1, by omega⟩
  obtain ⟨a, rfl, ha⟩ := num8 v0 y0 t0
  obtain ⟨k, rfl, hk⟩ := num16 v1 y1 t1
  obtain ⟨s, rfl, hs⟩ := num16 v2 y2 t2
  exact ⟨a, k, s, rfl, ha, hk, hs⟩
set_option maxRecDepth 10000 in
theorem open_ev {r : Reach} {b0 : Nat} {v : Value} {d : DataW H} {p : List MemPlace} (hv : Value.okWide Tryd.prog w r b0 25 v) (h : DataW.Trod enc Tryd.prog w base spare held 25 v d p) :
    ∃ (k t q : Int), v = .agg #[.int .u8 k, .int .u16 t, .int .u16 q] ∧ (0 ≤ k ∧ k < 256) ∧ (0 ≤ t ∧ t < 65536) ∧ (0 ≤ q ∧ q < 65536) := by
  obtain ⟨⟨cs⟩, rfl, hsz⟩ := okWide_struct Tryd.underlying25 hv
  obtain ⟨fuel, hf⟩ := h
  obtain ⟨v0, v1, v2, y0, y1, y2, n, hcs0, t0, t1, t2⟩ := trod_fields3 Tryd.underlying25 (by kernel_rfl) (by kernel_rfl) hf
  simp only [Value.cells] at hcs0
  subst hcs0
  have num8 : ∀ (v : Value) (y : DataW H × List MemPlace), DataW.trod enc Tryd.prog w base spare held n 5 [v] = some y → ∃ x : Int, v = .int .u8 x ∧ 0 ≤ x ∧ x < 256 := fun v y h => by
    obtain ⟨x, h1, _, h3⟩ := DataW.trod_int Tryd.underlying5 h
    have := wf_u8 h3
    injection h1 with h1
    exact ⟨x, h1, this⟩
  have num16 : ∀ (v : Value) (y : DataW H × List MemPlace), DataW.trod enc Tryd.prog w base spare held n 22 [v] = some y → ∃ x : Int, v = .int .u16 x ∧ 0 ≤ x ∧ x < 65536 := fun v y h => by
    obtain ⟨x, h1, _, h3⟩ := DataW.trod_int Tryd.underlying22 h
    have := bounds_u16 h3
    injection h1 with h1
    exact ⟨x, h1, by omega⟩
  obtain ⟨a, rfl, ha⟩ := num8 v0 y0 t0
  obtain ⟨k, rfl, hk⟩ := num16 v1 y1 t1
  obtain ⟨s, rfl, hs⟩ := num16 v2 y2 t2
  exact ⟨a, k, s, rfl, ha, hk, hs⟩
end
end Go.Proofs.YtdhfinpmcikimaaDoor.K
