/- 'parts' of layer 1's laws. -/
import Derived.Test.YtkihoonjekccgaaDoorSt
namespace Go.Proofs.YtkihoonjekccgaaDoor.K
open Go.RowKit
set_option linter.unusedVariables false
set_option linter.unusedSimpArgs false
attribute [local go_sem] min2_min min_two
theorem Own5.fr {B : Nat} {v : Value} {ps : List Part} {S : Nat → Prop} {w w' : World} (h : Own5 B v ps w) (k : Fr S w w') (hS : ∀ j, B ≤ j → j < w.heap.size → ¬ S j) : Own5 B v ps w' :=
  ⟨own_fr h.row k (fun j e => by have := h.row.lt j e; exact hS j this.1 this.2), fun p hp => by
    obtain ⟨h1, h2, h3⟩ := h.each p hp
    exact ⟨h1.fr k (fun j e => by have := h1.1.lt j e; exact hS j this.1 this.2), h2, h3⟩, h.few⟩
theorem Own5.add {B : Nat} {v v1 : Value} {ps : List Part} {p : Part} {w w1 : World} (h : Own5 B v ps w) (hp : Made B p.1 p.2.1 p.2.2 w) (h50 : p.2.2.length ≤ 50) (hi : InB p.2.2) (h5 : ps.length < 5)
    (h1 : w1.ownsRow B 32 1 v1 (ps ++ [p]).length ((ps ++ [p]).flatMap cP)) (hf : Fr (fun k => v.ownBlock = some k) w w1) : Own5 B v1 (ps ++ [p]) w1 :=
  ⟨h1, fun q hq => by
    rcases List.mem_append.1 hq with hq | hq
    · obtain ⟨a1, a2, a3⟩ := h.each q hq
      exact ⟨a1.fr hf (fun j e e2 => own_ne a1.1 h.row (by decide) j e e2), a2, a3⟩
    · obtain rfl : q = p := by simpa using hq
      exact ⟨hp.fr hf (fun j e e2 => own_ne hp.1 h.row (by decide) j e e2), h50, hi⟩, by simp; omega⟩
theorem flat_app (a b : List Part) : flat (a ++ b) = flat a ++ flat b := by simp [flat]
theorem flat_le {ps : List Part} {n : Nat} (h : ∀ p ∈ ps, p.2.2.length ≤ n) : (flat ps).length ≤ ps.length * n := by
  induction ps with
  | nil => simp [flat]
  | cons p ps ih =>
    have := ih (fun q hq => h q (by simp [hq]))
    have h1 := h p (by simp)
    rw [show flat (p :: ps) = p.2.2 ++ flat ps from rfl, List.length_append, List.length_cons, Nat.succ_mul]; omega
theorem flat_inB {ps : List Part} (h : ∀ p ∈ ps, InB p.2.2) : InB (flat ps) := fun x hx => by
  obtain ⟨p, hp, hx⟩ := List.mem_flatMap.1 hx
  exact h p hp x hx
/-- The input: rows of bytes, each as it can be read. -/
structure In2 (B : Nat) (P : Option Addr) (qs : List Part) (w : World) : Prop where
  row : RowOf cP 1 w B P qs
  each : ∀ p ∈ qs, RowOf c8 1 w B p.1 p.2.2 ∧ InB p.2.2 ∧ p.2.2.length ≤ p.2.1 ∧ p.2.1 ≤ 9223372036854775807
theorem In2.below {B : Nat} {P : Option Addr} {qs : List Part} {w w' : World} (h : In2 B P qs w) (hb : Below B w w') : In2 B P qs w' := ⟨h.row.below hb, fun p hp => ⟨((h.each p hp).1).below hb, (h.each p hp).2⟩⟩
end Go.Proofs.YtkihoonjekccgaaDoor.K
