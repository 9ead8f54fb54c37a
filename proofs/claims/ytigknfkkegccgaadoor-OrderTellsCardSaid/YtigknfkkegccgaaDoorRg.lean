/- A region that draws its order, by a table of what its operations yield and by phases: the invariant, once for all such regions. -/
import Derived.Test.YtigknfkkegccgaaDoorRi
namespace Go.Proofs.YtigknfkkegccgaaDoor.K
set_option linter.unusedVariables false
set_option linter.unusedSimpArgs false
/-- The fixed things of a region: its first slot, how many slots are written (operation j yields into slot s0 + j), the size of the frame, the frame it begins with, the table, the operations that turn the world (in order), what must be listed by which phase, and how the world stands in which phase. -/
structure RG where
  s0 : Nat
  n : Nat
  T : Nat
  a0 : Act
  V : Nat → Option Value
  tr : List Nat
  need : List (Nat × Nat)
  Ph : (Nat → Value) → World → Nat → Prop
structure RI (R : RG) (l : Array Bool) (a : Act) (w : World) : Prop where
  size : a.tmps.size = R.T
  defs : a.defers = R.a0.defers
  base : ∀ s, s < R.s0 ∨ R.s0 + R.n ≤ s → slot a s = slot R.a0 s
  vals : ∀ j v, R.V j = some v → l.getD j false = true → slot a (R.s0 + j) = v
  ph : ∃ k, k ≤ R.tr.length ∧ (∀ i j, R.tr[i]? = some j → l.getD j false = decide (i < k)) ∧ (∀ p ∈ R.need, p.1 ≤ k → l.getD p.2 false = true) ∧ R.Ph (fun j => slot a (R.s0 + j)) w k
theorem getD_put {l : Array Bool} {j : Nat} (hj : j < l.size) (k : Nat) : (l.setIfInBounds j true).getD k false = if k = j then true else l.getD k false := by
  by_cases h : k = j
  · subst h; simp [Array.getD, hj]
  · rw [if_neg h, Array.getD_eq_getD_getElem?, Array.getD_eq_getD_getElem?, Array.getElem?_setIfInBounds_ne (Ne.symm h)]
theorem rep_no (n j : Nat) : (Array.replicate n false).getD j false = false := by
  by_cases h : j < n <;> simp [Array.getD, h]
theorem wanted_not {ops : Array Oper} {a : Act} {o g : Oper} {i d : Nat} {b c : Bool} (h : o.guard = some (i, b)) (hg : ops[i]? = some g) (hd : g.dst = some d) (hv : slot a d = .bool c) (hbc : c ≠ b) : Region.wanted o (yielded ops a.tmps) = false := by
  have : a.tmps[d]? = some (.bool c) := by
    unfold slot at hv
    rw [Array.getD_eq_getD_getElem?] at hv
    cases h2 : a.tmps[d]? with
    | none => rw [h2] at hv; simp [undef] at hv
    | some v => rw [h2] at hv; simpa using hv
  simp [Region.wanted, h, yielded, hg, hd, this, hbc]
theorem stepU {P : Program} {ops : Array Oper} {Q : Exit → Act → World → Prop} {K : Act → World → Prop} {j : Nat} {o : Oper} {a : Act} {w : World} (ho : ops[j]? = some o) (hw : Region.wanted o (yielded ops a.tmps) = false) (h : K (a.put o.dst undef) w) : wpOp P ops Q j K a w := by
  unfold wpOp
  rw [ho]
  simp only [hw]
  first
    | exact h
    | simpa using h
section
variable {R : RG} {l : Array Bool} {a : Act} {w w2 : World} {j : Nat} {v : Value}
theorem slot_keepR (hs : a.tmps.size = R.T) (hj : R.s0 + j < R.T) {s : Nat} (h : s ≠ R.s0 + j) : slot (a.put (some (R.s0 + j)) v) s = slot a s := by
  rw [put_at (by omega), if_neg h]
theorem slot_newR (hs : a.tmps.size = R.T) (hj : R.s0 + j < R.T) : slot (a.put (some (R.s0 + j)) v) (R.s0 + j) = v := by
  rw [put_at (by omega), if_pos rfl]
theorem RI.core (h : RI R l a w) (hj : j < R.n) (hT : R.s0 + R.n ≤ R.T) (hsz : j < l.size) (hv : ∀ u, R.V j = some u → v = u)
    (hp : ∃ k, k ≤ R.tr.length ∧ (∀ i j', R.tr[i]? = some j' → (l.setIfInBounds j true).getD j' false = decide (i < k)) ∧ (∀ p ∈ R.need, p.1 ≤ k → (l.setIfInBounds j true).getD p.2 false = true) ∧ R.Ph (fun i => slot (a.put (some (R.s0 + j)) v) (R.s0 + i)) w2 k) :
    RI R (l.setIfInBounds j true) (a.put (some (R.s0 + j)) v) w2 := by
  refine ⟨put_size.trans h.size, put_defers.trans h.defs, fun s hs => (slot_keepR h.size (by omega) (by omega)).trans (h.base s hs), fun k u hk hl => ?_, hp⟩
  by_cases e : k = j
  · subst e
    rw [slot_newR h.size (by omega)]
    exact hv u hk
  · rw [getD_put (by omega), if_neg e] at hl
    exact (slot_keepR h.size (by omega) (by omega)).trans (h.vals k u hk hl)
/-- An operation that does not turn the world. -/
theorem RI.stay (h : RI R l a w) (hT : R.s0 + R.n ≤ R.T) (loc : ∀ f g w k, (∀ j ∈ R.tr, f j = g j) → R.Ph f w k → R.Ph g w k) (hj : j < R.n) (hjt : j ∉ R.tr) (hsz : j < l.size) (hv : ∀ u, R.V j = some u → v = u) : RI R (l.setIfInBounds j true) (a.put (some (R.s0 + j)) v) w := by
  obtain ⟨k, hk, htr, hneed, hph⟩ := h.ph
  refine h.core hj hT hsz hv ⟨k, hk, fun i j' hi => ?_, fun p hp hpk => ?_, loc _ _ _ _ (fun i hi => ?_) hph⟩
  · have : j' ≠ j := fun e => hjt (e ▸ List.mem_of_getElem? hi)
    rw [getD_put (by omega), if_neg this]
    exact htr i j' hi
  · rw [getD_put (by omega)]
    split
    · rfl
    · exact hneed p hp hpk
  · have : i ≠ j := fun e => hjt (e ▸ hi)
    exact (slot_keepR h.size (by omega) (by omega)).symm
/-- An operation that turns the world, where the phase says nothing of it. -/
theorem RI.stayW (h : RI R l a w) (hT : R.s0 + R.n ≤ R.T) (loc : ∀ f g w k, (∀ j ∈ R.tr, f j = g j) → R.Ph f w k → R.Ph g w k) (hw : ∀ f k, R.Ph f w k → R.Ph f w2 k) (hj : j < R.n) (hjt : j ∉ R.tr) (hsz : j < l.size) (hv : ∀ u, R.V j = some u → v = u) : RI R (l.setIfInBounds j true) (a.put (some (R.s0 + j)) v) w2 := by
  have h' := h.stay hT loc hj hjt hsz hv
  obtain ⟨k, h1, h2, h3, h4⟩ := h'.ph
  exact ⟨h'.size, h'.defs, h'.base, h'.vals, k, h1, h2, h3, hw _ _ h4⟩
theorem tr_inj {tr : List Nat} (hn : tr.Nodup) {i i' j : Nat} (h : tr[i]? = some j) (h' : tr[i']? = some j) : i = i' := by
  obtain ⟨h1, e1⟩ := List.getElem?_eq_some_iff.1 h
  obtain ⟨h2, e2⟩ := List.getElem?_eq_some_iff.1 h'
  have hp := List.pairwise_iff_getElem.1 hn
  rcases Nat.lt_trichotomy i i' with h | h | h
  · exact absurd (e1.trans e2.symm) (hp i i' h1 h2 h)
  · exact h
  · exact absurd (e2.trans e1.symm) (hp i' i h2 h1 h)
/-- The phase at which a turning operation comes up. -/
theorem RI.at_ (h : RI R l a w) (hn : R.tr.Nodup) {k : Nat} (hk : R.tr[k]? = some j) (hno : l.getD j false = false) (hprev : ∀ i, k = i + 1 → ∀ j', R.tr[i]? = some j' → l.getD j' false = true) : R.Ph (fun i => slot a (R.s0 + i)) w k ∧ (∀ i j', R.tr[i]? = some j' → l.getD j' false = decide (i < k)) ∧ (∀ p ∈ R.need, p.1 ≤ k → l.getD p.2 false = true) := by
  obtain ⟨k', hk', htr, hneed, hph⟩ := h.ph
  have h1 := htr k j hk
  rw [hno] at h1
  have h2 : k' ≤ k := by have := of_decide_eq_false h1.symm; omega
  have h3 : k ≤ k' := by
    cases k with
    | zero => omega
    | succ i =>
      have hlt : i < R.tr.length := by have := (List.getElem?_eq_some_iff.1 hk).1; omega
      have h4 := htr i _ (List.getElem?_eq_getElem hlt)
      rw [hprev i rfl _ (List.getElem?_eq_getElem hlt)] at h4
      have := of_decide_eq_true h4.symm
      omega
  obtain rfl : k' = k := by omega
  exact ⟨hph, htr, hneed⟩
/-- An operation that turns the world. -/
theorem RI.turn (h : RI R l a w) (hn : R.tr.Nodup) (hT : R.s0 + R.n ≤ R.T) {k : Nat} (hk : R.tr[k]? = some j) (hj : j < R.n) (hsz : j < l.size) (hv : ∀ u, R.V j = some u → v = u) (htr : ∀ i j', R.tr[i]? = some j' → l.getD j' false = decide (i < k)) (hneed : ∀ p ∈ R.need, p.1 ≤ k → l.getD p.2 false = true) (hnew : ∀ p ∈ R.need, p.1 = k + 1 → l.getD p.2 false = true)
    (hp : R.Ph (fun i => slot (a.put (some (R.s0 + j)) v) (R.s0 + i)) w2 (k + 1)) : RI R (l.setIfInBounds j true) (a.put (some (R.s0 + j)) v) w2 := by
  refine h.core hj hT hsz hv ⟨k + 1, ?_, fun i j' hi => ?_, fun p hp hpk => ?_, hp⟩
  · have := (List.getElem?_eq_some_iff.1 hk).1; omega
  · rw [getD_put (by omega)]
    by_cases e : j' = j
    · subst e
      obtain rfl := tr_inj hn hi hk
      simp
    · rw [if_neg e, htr i j' hi]
      have : i ≠ k := fun e' => by subst e'; rw [hk] at hi; exact e (Option.some.inj hi).symm
      by_cases e3 : i < k
      · simp [e3, Nat.lt_succ_of_lt e3]
      · have : ¬ i < k + 1 := by omega
        simp [e3, this]
  · rw [getD_put (by omega)]
    split
    · rfl
    · by_cases e : p.1 = k + 1
      · exact hnew p hp e
      · exact hneed p hp (by omega)
/-- The last operation, a store: it yields nothing. -/
theorem RI.last (h : RI R l a w) (hn : R.tr.Nodup) {k : Nat} (hk : R.tr[k]? = some j) (hV : R.V j = none) (hsz : j < l.size) (htr : ∀ i j', R.tr[i]? = some j' → l.getD j' false = decide (i < k)) (hneed : ∀ p ∈ R.need, p.1 ≤ k → l.getD p.2 false = true) (hnew : ∀ p ∈ R.need, p.1 = k + 1 → l.getD p.2 false = true)
    (hp : R.Ph (fun i => slot a (R.s0 + i)) w2 (k + 1)) : RI R (l.setIfInBounds j true) a w2 := by
  refine ⟨h.size, h.defs, h.base, fun i u hi hl => ?_, k + 1, ?_, fun i j' hi => ?_, fun p hp hpk => ?_, hp⟩
  · by_cases e : i = j
    · subst e; rw [hV] at hi; cases hi
    · rw [getD_put (by omega), if_neg e] at hl
      exact h.vals i u hi hl
  · have := (List.getElem?_eq_some_iff.1 hk).1; omega
  · rw [getD_put (by omega)]
    by_cases e : j' = j
    · subst e
      obtain rfl := tr_inj hn hi hk
      simp
    · rw [if_neg e, htr i j' hi]
      have : i ≠ k := fun e' => by subst e'; rw [hk] at hi; exact e (Option.some.inj hi).symm
      by_cases e3 : i < k
      · simp [e3, Nat.lt_succ_of_lt e3]
      · have : ¬ i < k + 1 := by omega
        simp [e3, this]
  · rw [getD_put (by omega)]
    split
    · rfl
    · by_cases e : p.1 = k + 1
      · exact hnew p hp e
      · exact hneed p hp (by omega)
theorem RI.init {m : Nat} (hs : R.a0.tmps.size = R.T) (hneed : ∀ p ∈ R.need, 1 ≤ p.1) (h : R.Ph (fun j => slot R.a0 (R.s0 + j)) w 0) : RI R (Array.replicate m false) R.a0 w := by
  refine ⟨hs, rfl, fun _ _ => rfl, fun j v _ hl => ?_, 0, Nat.zero_le _, fun i j _ => ?_, fun p hp hpk => ?_, h⟩
  · rw [rep_no] at hl; cases hl
  · rw [rep_no]; simp
  · have := hneed p hp; omega
/-- Behind all of them. -/
theorem RI.all {m : Nat} (h : RI R l a w) (htr : ∀ j ∈ R.tr, j < m) (ha : ∀ j, j < m → l.getD j false = true) : R.Ph (fun j => slot a (R.s0 + j)) w R.tr.length := by
  obtain ⟨k, hk, h1, _, hp⟩ := h.ph
  by_cases e : k = R.tr.length
  · exact e ▸ hp
  · have hlt : k < R.tr.length := by omega
    have h2 := h1 k _ (List.getElem?_eq_getElem hlt)
    rw [ha _ (htr _ (List.getElem_mem hlt))] at h2
    have := of_decide_eq_true h2.symm
    omega
end
end Go.Proofs.YtigknfkkegccgaaDoor.K
