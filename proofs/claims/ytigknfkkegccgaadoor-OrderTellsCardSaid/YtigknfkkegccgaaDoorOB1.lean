/- Orders: the map of all that ever were. -/
import Derived.Test.YtigknfkkegccgaaDoorO2
import Derived.Maps.OwnSet
import Derived.Maps.Views
import Derived.Maps.Own
namespace Go.Proofs.YtigknfkkegccgaaDoor.K
open Go.RowKit
set_option linter.unusedVariables false
set_option linter.unusedSimpArgs false
/-- The map at g has just these keys, each true. -/
def Ever (g : Nat) (ids : List Int) (w : World) : Prop :=
  ∃ D : DataW Unit, w.ownsMap Tryd.prog 22 (plainElem Tryd.prog 4) g ids.length D ∧ Go.Maps.Tidy D ∧ (∀ k : Int, Go.Maps.has D (.int .u32 k) = decide (k ∈ ids)) ∧ (∀ k : Int, k ∈ ids → ∀ z, D.atKey (.int .u32 k) z = .lit (.bool true)) ∧ Go.Maps.size D = ids.length
set_option maxRecDepth 10000 in
theorem plain_bool_inv {v : Value} {b : Bool} {ps : List MemPlace} (h : plainElem (H := Unit) Tryd.prog 4 v = some (.lit (.bool b), ps)) : v = .bool b := by
  unfold plainElem at h
  rw [Tryd.underlying4] at h
  cases v <;> simp at h
  rw [h.1]
theorem u32_wf {k : Int} (h0 : 0 ≤ k) (h1 : k < 4294967296) : (Lit.int .u32 k).wf = true := by
  have e1 : IntKind.u32.min = 0 := by decide
  have e2 : IntKind.u32.max = 4294967295 := by decide
  show (decide (IntKind.u32.min ≤ k) && decide (k ≤ IntKind.u32.max)) = true
  rw [e1, e2, Bool.and_eq_true, decide_eq_true_eq, decide_eq_true_eq]
  omega
theorem zero_bool (w : World) : (zeroValue 4).run Tryd.prog w = .ok (.bool false) w := by kernel_rfl
theorem ever_lookup {g : Nat} {ids : List Int} {w : World} (h : Ever g ids w) (k : Int) (h0 : 0 ≤ k) (h1 : k < 4294967296) :
    (Instr.lookup 93 (.map (some g)) (.int .u32 k) false).run Tryd.prog w = .ok (.bool (decide (k ∈ ids))) w := by
  obtain ⟨D, hown, hm, hhas, hat, hs⟩ := h
  obtain ⟨v, ps, hrun, hv⟩ := hown.lookup (Go.Maps.int_keyed Tryd.underlying22) Tryd.underlying93 (z := .bool false) (zero_bool w) (plainElem_bool Tryd.underlying4 false) (Go.Maps.keyOf_int_mk Tryd.underlying22 (a := k) (u32_wf h0 h1))
  by_cases hk : k ∈ ids
  · rw [hat k hk] at hv
    rw [hrun, plain_bool_inv hv]; simp [hk]
  · have hh := hhas k
    rw [show decide (k ∈ ids) = false by simp [hk]] at hh
    rw [Go.Maps.atKey_of_not_has hh] at hv
    rw [hrun, plain_bool_inv hv]; simp [hk]
theorem ever_len {g : Nat} {ids : List Int} {w : World} (h : Ever g ids w) (ty : TypeId) : (Builtin.len_ #[93] ty #[.map (some g)]).run Tryd.prog w = .ok (.int .i64 ids.length) w := by
  obtain ⟨D, hown, hm, hhas, hat, hs⟩ := h
  have := hown.len Tryd.underlying93 ty
  rwa [hs] at this
theorem ever_made (w : World) : Ever w.heap.size [] (w.alloc (.map #[] 0)) :=
  ⟨.map [], World.ownsMap_made w _ _ _, Go.Maps.tidy_empty, fun k => by simp [Go.Maps.has], fun k hk => by simp at hk, rfl⟩
theorem Ever.lt {g : Nat} {ids : List Int} {w : World} (h : Ever g ids w) : g < w.heap.size := by obtain ⟨D, hown, _⟩ := h; exact hown.lt
theorem Ever.fr {g : Nat} {ids : List Int} {S : Nat → Prop} {w w' : World} (h : Ever g ids w) (k : Fr S w w') (hn : ¬ S g) : Ever g ids w' := by
  obtain ⟨D, ⟨es, clock, hb, F, hs, hD⟩, r⟩ := h
  exact ⟨D, ⟨es, clock, (k.block g (Array.getElem?_eq_some_iff.1 hb).1 hn).trans hb, F, hs, hD⟩, r⟩
theorem ever_put {g : Nat} {ids : List Int} {w : World} (h : Ever g ids w) {k : Int} (h0 : 0 ≤ k) (h1 : k < 4294967296) (hk : k ∉ ids) (hl : ids.length ≤ 1000000) :
    ∃ w', (Instr.mapUpdate 93 (.map (some g)) (.int .u32 k) (.bool true)).run Tryd.prog w = .ok () w' ∧ Ever g (ids ++ [k]) w' ∧ Fr (fun j => j = g) w w' := by
  obtain ⟨D, hown, hm, hhas, hat, hs⟩ := h
  obtain ⟨w', hrun, h2, h3⟩ := hown.update (Go.Maps.int_keyed Tryd.underlying22) Tryd.underlying93 (by simp only [maxLen]; omega) (Go.Maps.keyOf_int_mk Tryd.underlying22 (a := k) (u32_wf h0 h1)) (plainElem_bool Tryd.underlying4 true)
  have hik : WideAt.IsKeyLit (.int .u32 k) := trivial
  have hne : ∀ {j : Int}, j ≠ k → (Lit.int .u32 j) ≠ Lit.int .u32 k := fun hj e => hj (by injection e)
  refine ⟨w', hrun, ⟨_, by rw [List.length_append]; exact h2, hm.put hik _, fun j => ?_, fun j hj z => ?_, ?_⟩, ⟨h3.os, h3.tape, h3.output, h3.size, fun i hi hn => h3.block i hi (fun e => hn (Option.some.inj e))⟩⟩
  · by_cases e : j = k
    · subst e; rw [Go.Maps.has_put_same hm.isMap hik]; simp
    · rw [Go.Maps.has_put_other (hne e), hhas]; simp [e]
  · by_cases e : j = k
    · subst e; exact Go.Maps.atKey_put_same hm.isMap hik _ _
    · rw [Go.Maps.atKey_put_other (hne e)]
      exact hat j (by simpa [e] using hj) z
  · rw [Go.Maps.size_put hm, hhas, show decide (k ∈ ids) = false by simp [hk]]
    simp [hs]
end Go.Proofs.YtigknfkkegccgaaDoor.K
