/- The decoder of a row of bytes in plain Lean: what it counts, what it holds, what comes out. -/
import Derived.Test.YtkihoonjekccgaaDoorF5
namespace Go.Proofs.YtkihoonjekccgaaDoor.K
set_option linter.unusedVariables false
set_option linter.unusedSimpArgs false
structure Ds where
  n : List Int
  held : List Int
  over : Bool
def inc (n : List Int) (e : Nat) : List Int := n.set e (n.getD e 0 + 1)
def takeD (c : Int) (s : Ds) : Ds := if s.over = true then s else if s.held.length = 62 then ⟨inc s.n 10, [], true⟩ else ⟨s.n, s.held ++ [c], false⟩
def endD (s : Ds) : Ds × List Fp := if s.held = [] then (⟨s.n, [], false⟩, []) else if (decL s.held).2 = 0 then (⟨s.n, [], false⟩, [(decL s.held).1]) else (⟨inc s.n (decL s.held).2.toNat, [], false⟩, [])
def stepD (c : Int) (s : Ds) : Ds × List Fp := if c = 126 then endD s else (takeD c s, [])
def feedD : List Int → Ds → Ds × List Fp
  | [], s => (s, [])
  | c :: l, s => ((feedD l (stepD c s).1).1, (stepD c s).2 ++ (feedD l (stepD c s).1).2)
theorem feed_app : ∀ (a b : List Int) (s : Ds), feedD (a ++ b) s = ((feedD b (feedD a s).1).1, (feedD a s).2 ++ (feedD b (feedD a s).1).2) := by
  intro a
  induction a with
  | nil => intro b s; simp [feedD]
  | cons c a ih => intro b s; simp only [List.cons_append, feedD, ih b, List.append_assoc]
theorem feed_one (c : Int) (s : Ds) : feedD [c] s = stepD c s := by simp [feedD]
theorem feed_snoc (a : List Int) (c : Int) (s : Ds) : feedD (a ++ [c]) s = ((stepD c (feedD a s).1).1, (feedD a s).2 ++ (stepD c (feedD a s).1).2) := by rw [feed_app, feed_one]
/-- A decoder that may be, and has counted at most k. -/
structure DsOk (k : Int) (s : Ds) : Prop where
  len : s.n.length = 12
  cnt : ∀ x ∈ s.n, 0 ≤ x ∧ x ≤ k
  held : s.held.length ≤ 62
  inB : InB s.held
  over : s.over = true → s.held = []
theorem unst_err : ∀ (l : List Int) (b : Bool) (acc : List Int), (unst b l acc).2 = 0 ∨ (unst b l acc).2 = 2 ∨ (unst b l acc).2 = 3 := by
  intro l
  induction l with
  | nil => intro b acc; cases b <;> simp [unst]
  | cons c l ih =>
    intro b acc
    cases b <;> simp only [unst] <;> split
    · simp
    · split <;> exact ih _ _
    · exact ih _ _
    · split
      · exact ih _ _
      · simp
theorem dec_err (l : List Int) : (decL l).2 = 0 ∨ (decL l).2 = 2 ∨ (decL l).2 = 3 ∨ (decL l).2 = 4 := by
  have := unst_err l false []
  unfold decL formF
  split
  · dsimp only; omega
  · split
    · simp
    · split
      · simp
      · split <;> simp
theorem inc_len (n : List Int) (e : Nat) : (inc n e).length = n.length := by simp [inc]
theorem inc_cnt {n : List Int} {k : Int} (h : ∀ x ∈ n, 0 ≤ x ∧ x ≤ k) (h0 : 0 ≤ k) (e : Nat) : ∀ x ∈ inc n e, 0 ≤ x ∧ x ≤ k + 1 := by
  intro x hx
  unfold inc at hx
  rcases List.mem_or_eq_of_mem_set hx with hx | rfl
  · have := h x hx; omega
  · have : n.getD e 0 ∈ n ∨ n.getD e 0 = 0 := by
      rw [List.getD_eq_getElem?_getD]
      rcases Nat.lt_or_ge e n.length with hl | hl
      · left; rw [List.getElem?_eq_getElem hl]; exact List.getElem_mem hl
      · right; rw [List.getElem?_eq_none hl]; rfl
    rcases this with hm | hm
    · have := h _ hm; omega
    · omega
theorem DsOk.mono {k k' : Int} {s : Ds} (h : DsOk k s) (hk : k ≤ k') : DsOk k' s := ⟨h.len, fun x hx => by have := h.cnt x hx; omega, h.held, h.inB, h.over⟩
theorem take_ok {k : Int} {s : Ds} (h : DsOk k s) (h0 : 0 ≤ k) {c : Int} (hc : 0 ≤ c ∧ c < 256) : DsOk (k + 1) (takeD c s) := by
  unfold takeD
  split
  · exact h.mono (by omega)
  · rename_i ho
    split
    · exact ⟨by simp [inc_len, h.len], inc_cnt h.cnt h0 10, by simp, by intro x hx; simp at hx, fun _ => rfl⟩
    · rename_i hl
      have hh := h.held
      refine ⟨h.len, fun x hx => by have := h.cnt x hx; omega, ?_, ?_, fun e => by simp at e⟩
      · rw [List.length_append, List.length_singleton]; omega
      · intro x hx
        rcases List.mem_append.1 hx with hx | hx
        · exact h.inB x hx
        · rw [List.mem_singleton] at hx; subst hx; exact hc
theorem end_ok {k : Int} {s : Ds} (h : DsOk k s) (h0 : 0 ≤ k) : DsOk (k + 1) (endD s).1 := by
  unfold endD
  split
  · exact ⟨h.len, fun x hx => by have := h.cnt x hx; omega, by simp, by intro x hx; simp at hx, fun _ => rfl⟩
  · split
    · exact ⟨h.len, fun x hx => by have := h.cnt x hx; omega, by simp, by intro x hx; simp at hx, fun _ => rfl⟩
    · exact ⟨by simp [inc_len, h.len], inc_cnt h.cnt h0 _, by simp, by intro x hx; simp at hx, fun _ => rfl⟩
theorem step_ok {k : Int} {s : Ds} (h : DsOk k s) (h0 : 0 ≤ k) {c : Int} (hc : 0 ≤ c ∧ c < 256) : DsOk (k + 1) (stepD c s).1 := by
  unfold stepD
  split
  · exact end_ok h h0
  · exact take_ok h h0 hc
theorem feed_ok : ∀ (l : List Int) {k : Int} {s : Ds}, DsOk k s → 0 ≤ k → InB l → DsOk (k + l.length) (feedD l s).1 := by
  intro l
  induction l with
  | nil => intro k s h _ _; simpa [feedD] using h
  | cons c l ih =>
    intro k s h h0 hi
    have := ih (step_ok h h0 (hi c (by simp))) (by omega) (fun x hx => hi x (by simp [hx]))
    simp only [feedD]
    exact this.mono (by simp; omega)
/-- A decoder as new. -/
def d0 : Ds := ⟨[0, 0, 0, 0, 0, 0, 0, 0, 0, 0, 0, 0], [], false⟩
theorem d0_ok : DsOk 0 d0 := ⟨rfl, fun x hx => by simp [d0] at hx; omega, by simp [d0], by intro x hx; simp [d0] at hx, fun h => by simp [d0] at h⟩
end Go.Proofs.YtkihoonjekccgaaDoor.K
