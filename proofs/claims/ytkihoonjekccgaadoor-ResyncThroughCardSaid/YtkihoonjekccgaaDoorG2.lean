/- Resync's plain laws: pieces, bounds, frames that come through. -/
import Derived.Test.YtkihoonjekccgaaDoorG1
namespace Go.Proofs.YtkihoonjekccgaaDoor.K
set_option linter.unusedVariables false
set_option linter.unusedSimpArgs false
structure Pc where
  n : Nat
  pieces : Nat
  long : Nat
def pcS (c : Int) (p : Pc) : Pc := if c ≠ 126 then ⟨p.n + 1, p.pieces, p.long⟩ else ⟨0, p.pieces + (if p.n > 0 then 1 else 0), p.long + (if p.n > 62 then 1 else 0)⟩
def pcF : List Int → Pc → Pc
  | [], p => p
  | c :: l, p => pcF l (pcS c p)
theorem pcF_app : ∀ (a b : List Int) (p : Pc), pcF (a ++ b) p = pcF b (pcF a p) := by
  intro a
  induction a with
  | nil => intro b p; rfl
  | cons c a ih => intro b p; simp only [List.cons_append, pcF, ih]
def sumI : List Int → Int
  | [] => 0
  | x :: l => x + sumI l
theorem sumI_app (a b : List Int) : sumI (a ++ b) = sumI a + sumI b := by
  induction a with
  | nil => simp [sumI]
  | cons c a ih => simp only [List.cons_append, sumI, ih]; omega
theorem sumI_inc : ∀ (n : List Int) (e : Nat), e < n.length → sumI (inc n e) = sumI n + 1 := by
  intro n
  induction n with
  | nil => intro e h; simp at h
  | cons x n ih =>
    intro e h
    cases e with
    | zero => simp [inc, sumI]; omega
    | succ e =>
      have := ih e (by simpa using h)
      simp only [inc, List.getD_eq_getElem?_getD] at this ⊢
      simp only [List.set_cons_succ, sumI, List.getElem?_cons_succ]
      omega
theorem inc_get (n : List Int) (e j : Nat) (h : e < n.length) : (inc n e).getD j 0 = n.getD j 0 + (if j = e then 1 else 0) := by
  unfold inc
  rw [List.getD_eq_getElem?_getD, List.getElem?_set]
  by_cases he : e = j
  · subst he
    simp [h]
  · rw [if_neg he, if_neg (fun x => he x.symm), List.getD_eq_getElem?_getD]; omega
structure Rel (s : Ds) (k : Nat) (p : Pc) : Prop where
  len : s.n.length = 12
  over : s.over = decide (p.n > 62)
  held : p.n ≤ 62 → s.held.length = p.n
  none_ : p.n > 62 → s.held = []
  sum : sumI s.n + k = p.pieces + (if p.n > 62 then 1 else 0)
  rng : s.n.getD 10 0 = p.long + (if p.n > 62 then 1 else 0)
  ok : s.n.getD 0 0 = 0
theorem rel_step {s : Ds} {k : Nat} {p : Pc} (h : Rel s k p) (c : Int) : Rel (stepD c s).1 (k + (stepD c s).2.length) (pcS c p) := by
  obtain ⟨h1, h2, h3, h4, h5, h6, h7⟩ := h
  unfold stepD pcS
  by_cases hc : c = 126
  · rw [if_pos hc, if_neg (by simpa using hc)]
    unfold endD
    by_cases hh : s.held = []
    · rw [if_pos hh]
      refine ⟨h1, by simp, by simp, by simp, ?_, ?_, h7⟩
      · by_cases hp : p.n > 62
        · simp [hp, show p.n > 0 by omega] at h5 ⊢; omega
        · have := h3 (by omega); rw [hh] at this; simp at this; simp [← this] at h5 ⊢; omega
      · by_cases hp : p.n > 62
        · simp [hp] at h6 ⊢; omega
        · simp [hp] at h6 ⊢; omega
    · rw [if_neg hh]
      have hp : ¬ p.n > 62 := fun e => hh (h4 e)
      have hl := h3 (by omega)
      have h0 : p.n > 0 := by
        rcases Nat.eq_zero_or_pos p.n with e | e
        · rw [e] at hl; exact (hh (List.eq_nil_of_length_eq_zero hl)).elim
        · exact e
      rw [if_neg hp] at h5 h6
      have h6' := h6
      rw [List.getD_eq_getElem?_getD] at h6'
      by_cases hd : (decL s.held).2 = 0
      · rw [if_pos hd]
        refine ⟨h1, by simp, by simp, by simp, ?_, ?_, h7⟩
        · simp [h0]; omega
        · simp [hp]; omega
      · rw [if_neg hd]
        have he := dec_err s.held
        have hlt : (decL s.held).2.toNat < s.n.length := by omega
        refine ⟨by rw [inc_len]; exact h1, by simp, by simp, by simp, ?_, ?_, ?_⟩
        · rw [sumI_inc _ _ hlt]; simp [h0]; omega
        · rw [inc_get _ _ _ hlt, if_neg (by omega)]; simp [hp]; omega
        · rw [inc_get _ _ _ hlt, if_neg (by omega)]; omega
  · rw [if_neg hc, if_pos hc]
    unfold takeD
    by_cases hp : p.n > 62
    · rw [if_pos (by rw [h2]; simpa using hp)]
      refine ⟨h1, by rw [h2]; simp [hp]; omega, fun e => by simp at e; omega, fun _ => h4 hp, ?_, ?_, h7⟩
      · simp [hp, show p.n + 1 > 62 by omega] at h5 ⊢; omega
      · simp [hp, show p.n + 1 > 62 by omega] at h6 ⊢; omega
    · rw [if_neg (by rw [h2]; simpa using hp)]
      have hl := h3 (by omega)
      rw [if_neg hp] at h5 h6
      have h6' := h6
      rw [List.getD_eq_getElem?_getD] at h6'
      by_cases h62 : s.held.length = 62
      · rw [if_pos h62]
        have hn : p.n + 1 > 62 := by omega
        refine ⟨by rw [inc_len]; exact h1, by simp [hn], fun e => by simp at e; omega, fun _ => rfl, ?_, ?_, ?_⟩
        · rw [sumI_inc _ _ (by omega)]; simp [hn]; omega
        · rw [inc_get _ _ _ (by omega)]; simp [hn]; omega
        · rw [inc_get _ _ _ (by omega)]; simp; exact h7
      · rw [if_neg h62]
        have hn : ¬ p.n + 1 > 62 := by omega
        refine ⟨h1, by simp; omega, fun _ => by simp; omega, fun e => (hn e).elim, ?_, ?_, h7⟩
        · simp [hn]; omega
        · simp [hn]; omega
theorem rel_feed : ∀ (l : List Int) {s : Ds} {k : Nat} {p : Pc}, Rel s k p → Rel (feedD l s).1 (k + (feedD l s).2.length) (pcF l p) := by
  intro l
  induction l with
  | nil => intro s k p h; simpa [feedD, pcF] using h
  | cons c l ih =>
    intro s k p h
    have := ih (rel_step h c)
    simp only [feedD, pcF, List.length_append]
    rw [← Nat.add_assoc]; exact this
theorem rel0 : Rel d0 0 ⟨0, 0, 0⟩ := ⟨rfl, rfl, fun _ => rfl, fun h => by simp at h, rfl, rfl, rfl⟩
end Go.Proofs.YtkihoonjekccgaaDoor.K
