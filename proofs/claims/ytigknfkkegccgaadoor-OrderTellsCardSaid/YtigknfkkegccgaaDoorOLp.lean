/- Orders: lines that are right together, one of which is another one: in plain Lean. -/
import Derived.Test.YtigknfkkegccgaaDoorO2
namespace Go.Proofs.YtigknfkkegccgaaDoor.K
set_option linter.unusedVariables false
set_option linter.unusedSimpArgs false
/-- The error of the k-th of lines that are told by their places. -/
def errAt (f : Nat → Ln) (k : Nat) : Int := lineF ((List.range k).map f) (f k)
theorem rightL_map (f : Nat → Ln) (E : Int) (n : Nat) (h : ∀ k, k < n → errAt f k = 0 ∨ errAt f k = E) :
    ∀ m k, k + m = n → ((∀ j, k ≤ j → j < n → errAt f j = 0) → rightL ((List.range k).map f) ((List.range' k m).map f) = 0) ∧ ((∃ j, k ≤ j ∧ j < n ∧ errAt f j ≠ 0) → rightL ((List.range k).map f) ((List.range' k m).map f) = E) := by
  intro m
  induction m with
  | zero =>
    intro k hk
    exact ⟨fun _ => rfl, fun ⟨j, h1, h2, _⟩ => by omega⟩
  | succ m ih =>
    intro k hk
    have hk1 := ih (k + 1) (by omega)
    have hs : (List.range k).map f ++ [f k] = (List.range (k + 1)).map f := by rw [List.range_succ, List.map_append]; rfl
    have hu : rightL ((List.range k).map f) ((List.range' k (m + 1)).map f) = if errAt f k = 0 then rightL ((List.range (k + 1)).map f) ((List.range' (k + 1) m).map f) else errAt f k := by
      rw [List.range'_succ, List.map_cons]
      conv => lhs; unfold rightL
      rw [hs]
      rfl
    rw [hu]
    refine ⟨fun h0 => ?_, fun ⟨j, h1, h2, h3⟩ => ?_⟩
    · rw [if_pos (h0 k (Nat.le_refl _) (by omega))]
      exact hk1.1 (fun j a b => h0 j (by omega) b)
    · by_cases e : errAt f k = 0
      · rw [if_pos e]
        refine hk1.2 ⟨j, ?_, h2, h3⟩
        rcases Nat.lt_or_ge k j with a | a
        · exact a
        · have : j = k := by omega
          subst this; exact absurd e h3
      · rw [if_neg e]
        exact (h k (by omega)).resolve_left e
theorem rightO_map (f : Nat → Ln) (E : Int) (n : Nat) (h1 : 1 ≤ n) (h8 : n ≤ 8) (h : ∀ k, k < n → errAt f k = 0 ∨ errAt f k = E) :
    ((∀ j, j < n → errAt f j = 0) → rightO ((List.range n).map f) = 0) ∧ ((∃ j, j < n ∧ errAt f j ≠ 0) → rightO ((List.range n).map f) = E) := by
  unfold rightO
  rw [List.length_map, List.length_range, if_neg (by omega), if_neg (by omega)]
  have := rightL_map f E n h n 0 (by omega)
  rw [← List.range_eq_range'] at this
  exact ⟨fun h0 => this.1 (fun j _ b => h0 j b), fun ⟨j, a, b⟩ => this.2 ⟨j, by omega, a, b⟩⟩
theorem any_map (f : Nat → Ln) (k : Nat) (l : Ln) : ((List.range k).map f).any (sameL l) = true ↔ ∃ j, j < k ∧ ((f j).item = l.item ∨ (f j).loc = l.loc) := by
  rw [List.any_eq_true]
  constructor
  · rintro ⟨x, hx, h⟩
    obtain ⟨j, hj, rfl⟩ := List.mem_map.1 hx
    exact ⟨j, List.mem_range.1 hj, by simpa [sameL] using h⟩
  · rintro ⟨j, hj, h⟩
    exact ⟨f j, List.mem_map.2 ⟨j, List.mem_range.2 hj, rfl⟩, by simpa [sameL] using h⟩
theorem errAt_eq (f : Nat → Ln) (k : Nat) : (64 ≤ (f k).loc ∧ errAt f k = 1) ∨ ((f k).loc < 64 ∧ ((f k).qty < 1 ∨ 9999 < (f k).qty) ∧ errAt f k = 10) ∨
    ((f k).loc < 64 ∧ 1 ≤ (f k).qty ∧ (f k).qty ≤ 9999 ∧ (((∃ j, j < k ∧ ((f j).item = (f k).item ∨ (f j).loc = (f k).loc)) ∧ errAt f k = 8) ∨ ((∀ j, j < k → (f j).item ≠ (f k).item ∧ (f j).loc ≠ (f k).loc) ∧ errAt f k = 0))) := by
  unfold errAt lineF
  by_cases h1 : 64 ≤ (f k).loc
  · exact .inl ⟨h1, by rw [if_pos h1]⟩
  · rw [if_neg h1]
    by_cases h2 : (f k).qty < 1 ∨ 9999 < (f k).qty
    · exact .inr (.inl ⟨by omega, h2, by rw [if_pos h2]⟩)
    · rw [if_neg h2]
      refine .inr (.inr ⟨by omega, by omega, by omega, ?_⟩)
      by_cases h3 : ∃ j, j < k ∧ ((f j).item = (f k).item ∨ (f j).loc = (f k).loc)
      · exact .inl ⟨h3, by rw [if_pos ((any_map f k (f k)).2 h3)]⟩
      · refine .inr ⟨fun j hj => ⟨fun e => h3 ⟨j, hj, .inl e⟩, fun e => h3 ⟨j, hj, .inr e⟩⟩, ?_⟩
        rw [if_neg (fun e => h3 ((any_map f k (f k)).1 e))]
def baseL (i : Nat) : Ln := ⟨1000 + i, i, 1 + i⟩
def linesL (n : Nat) : List Ln := (List.range n).map baseL
theorem linesL_len (n : Nat) : (linesL n).length = n := by simp [linesL]
theorem linesL_succ (n : Nat) : linesL (n + 1) = linesL n ++ [baseL n] := by simp [linesL, List.range_succ]
theorem linesL_get (n k : Nat) (h : k < (linesL n).length) : (linesL n)[k] = baseL k := by simp [linesL]
theorem linesL_set (n k : Nat) (x : Ln) : (linesL n).set k x = (List.range n).map (fun i => if i = k then x else baseL i) := by
  apply List.ext_getElem?
  intro i
  rw [List.getElem?_set, linesL, List.getElem?_map, List.getElem?_map, List.length_map, List.length_range]
  by_cases hi : i < n
  · rw [List.getElem?_range hi]
    by_cases e : k = i
    · subst e; simp [hi]
    · rw [if_neg e]; simp [Ne.symm e]
  · rw [List.getElem?_eq_none (by simp; omega)]
    by_cases e : k = i
    · subst e; simp [hi]
    · rw [if_neg e]; rfl
theorem right_base {n : Nat} (h1 : 1 ≤ n) (h8 : n ≤ 8) : rightO (linesL n) = 0 := by
  have h : ∀ k, k < n → errAt baseL k = 0 := fun k hk => by
    rcases errAt_eq baseL k with ⟨a, _⟩ | ⟨_, a, _⟩ | ⟨_, _, _, ⟨⟨j, hj, a⟩, _⟩ | ⟨_, e⟩⟩
    · simp only [baseL] at a; omega
    · simp only [baseL] at a; omega
    · simp only [baseL] at a; omega
    · exact e
  exact (rightO_map baseL 0 n h1 h8 (fun k hk => .inl (h k hk))).1 h
theorem right_full {n : Nat} (h8 : 8 < n) : rightO (linesL n) = 5 := by
  unfold rightO
  rw [linesL_len, if_neg (by omega), if_pos h8]
/-- Another quantity. -/
theorem right_qty {n k : Nat} {q : Int} (hk : k < n) (h8 : n ≤ 8) : (1 ≤ q ∧ q ≤ 9999 ∧ rightO ((linesL n).set k ⟨1000 + k, k, q⟩) = 0) ∨ ((q < 1 ∨ 9999 < q) ∧ rightO ((linesL n).set k ⟨1000 + k, k, q⟩) = 10) := by
  rw [linesL_set]
  have hn : ∀ i, i < n → i ≠ k → errAt (fun i => if i = k then (⟨1000 + k, k, q⟩ : Ln) else baseL i) i = 0 := fun i hi hik => by
    rcases errAt_eq (fun i => if i = k then (⟨1000 + k, k, q⟩ : Ln) else baseL i) i with ⟨a, _⟩ | ⟨_, a, _⟩ | ⟨_, _, _, ⟨⟨j, hj, a⟩, _⟩ | ⟨_, e⟩⟩
    · simp only [if_neg hik, baseL] at a; omega
    · simp only [if_neg hik, baseL] at a; omega
    · simp only [if_neg hik] at a
      by_cases e : j = k
      · simp only [if_pos e, baseL] at a; omega
      · simp only [if_neg e, baseL] at a; omega
    · exact e
  have hk2 : (1 ≤ q ∧ q ≤ 9999 ∧ errAt (fun i => if i = k then (⟨1000 + k, k, q⟩ : Ln) else baseL i) k = 0) ∨ ((q < 1 ∨ 9999 < q) ∧ errAt (fun i => if i = k then (⟨1000 + k, k, q⟩ : Ln) else baseL i) k = 10) := by
    rcases errAt_eq (fun i => if i = k then (⟨1000 + k, k, q⟩ : Ln) else baseL i) k with ⟨a, _⟩ | ⟨_, a, e⟩ | ⟨_, a, b, ⟨⟨j, hj, c⟩, _⟩ | ⟨_, e⟩⟩
    · simp only [if_true] at a; omega
    · simp only [if_true] at a; exact .inr ⟨a, e⟩
    · simp only [if_true, if_neg (by omega : ¬ j = k), baseL] at c; omega
    · simp only [if_true] at a b; exact .inl ⟨a, b, e⟩
  have hr := rightO_map (fun i => if i = k then (⟨1000 + k, k, q⟩ : Ln) else baseL i) 10 n (by omega) h8 (fun i hi => by
    by_cases e : i = k
    · subst e; rcases hk2 with ⟨_, _, e⟩ | ⟨_, e⟩
      · exact .inl e
      · exact .inr e
    · exact .inl (hn i hi e))
  rcases hk2 with ⟨a, b, e⟩ | ⟨a, e⟩
  · exact .inl ⟨a, b, hr.1 (fun j hj => by
      by_cases e' : j = k
      · subst e'; exact e
      · exact hn j hj e')⟩
  · exact .inr ⟨a, hr.2 ⟨k, hk, by rw [e]; decide⟩⟩
/-- Another location. -/
theorem right_loc {n k : Nat} {x : Int} (hk : k < n) (h8 : n ≤ 8) (hx : 0 ≤ x) : (64 ≤ x ∧ rightO ((linesL n).set k ⟨1000 + k, x, 1 + k⟩) = 1) ∨ (x < 64 ∧ x < n ∧ x ≠ k ∧ rightO ((linesL n).set k ⟨1000 + k, x, 1 + k⟩) = 8) ∨ (x < 64 ∧ (x = k ∨ n ≤ x) ∧ rightO ((linesL n).set k ⟨1000 + k, x, 1 + k⟩) = 0) := by
  rw [linesL_set]
  generalize hf : (fun i => if i = k then (⟨1000 + k, x, 1 + k⟩ : Ln) else baseL i) = f
  have fk : f k = ⟨1000 + k, x, 1 + k⟩ := by rw [← hf]; simp
  have fn : ∀ i, i ≠ k → f i = baseL i := fun i hi => by rw [← hf]; simp [hi]
  by_cases h64 : 64 ≤ x
  · refine .inl ⟨h64, (rightO_map f 1 n (by omega) h8 (fun i hi => ?_)).2 ⟨k, hk, ?_⟩⟩
    · by_cases e : i = k
      · subst e
        rcases errAt_eq f i with ⟨_, e⟩ | ⟨a, _⟩ | ⟨a, _⟩
        · exact .inr e
        · rw [fk] at a; simp only at a; omega
        · rw [fk] at a; simp only at a; omega
      · rcases errAt_eq f i with ⟨a, _⟩ | ⟨_, a, _⟩ | ⟨_, _, _, ⟨⟨j, hj, a⟩, _⟩ | ⟨_, e⟩⟩
        · rw [fn i e] at a; simp only [baseL] at a; omega
        · rw [fn i e] at a; simp only [baseL] at a; omega
        · rw [fn i e] at a
          by_cases e' : j = k
          · subst e'; rw [fk] at a; simp only [baseL] at a; omega
          · rw [fn j e'] at a; simp only [baseL] at a; omega
        · exact .inl e
    · rcases errAt_eq f k with ⟨_, e⟩ | ⟨a, _⟩ | ⟨a, _⟩
      · rw [e]; decide
      · rw [fk] at a; simp only at a; omega
      · rw [fk] at a; simp only at a; omega
  · have hb : ∀ i, i < n → errAt f i = 0 ∨ errAt f i = 8 := fun i hi => by
      by_cases e : i = k
      · subst e
        rcases errAt_eq f i with ⟨a, _⟩ | ⟨_, a, _⟩ | ⟨_, _, _, ⟨_, e⟩ | ⟨_, e⟩⟩
        · rw [fk] at a; simp only at a; omega
        · rw [fk] at a; simp only at a; omega
        · exact .inr e
        · exact .inl e
      · rcases errAt_eq f i with ⟨a, _⟩ | ⟨_, a, _⟩ | ⟨_, _, _, ⟨_, e⟩ | ⟨_, e⟩⟩
        · rw [fn i e] at a; simp only [baseL] at a; omega
        · rw [fn i e] at a; simp only [baseL] at a; omega
        · exact .inr e
        · exact .inl e
    have hr := rightO_map f 8 n (by omega) h8 hb
    by_cases ht : x < n ∧ x ≠ k
    · refine .inr (.inl ⟨by omega, ht.1, ht.2, hr.2 ?_⟩)
      obtain ⟨m, rfl⟩ : ∃ m : Nat, x = m := ⟨x.toNat, by omega⟩
      rcases Nat.lt_or_ge m k with hmk | hmk
      · refine ⟨k, hk, fun e0 => ?_⟩
        rcases errAt_eq f k with ⟨_, e⟩ | ⟨_, _, e⟩ | ⟨_, _, _, ⟨_, e⟩ | ⟨a, _⟩⟩
        · rw [e] at e0; exact absurd e0 (by decide)
        · rw [e] at e0; exact absurd e0 (by decide)
        · rw [e] at e0; exact absurd e0 (by decide)
        · have := (a m hmk).2
          rw [fn m (by omega), fk] at this
          exact this rfl
      · refine ⟨m, by omega, fun e0 => ?_⟩
        rcases errAt_eq f m with ⟨_, e⟩ | ⟨_, _, e⟩ | ⟨_, _, _, ⟨_, e⟩ | ⟨a, _⟩⟩
        · rw [e] at e0; exact absurd e0 (by decide)
        · rw [e] at e0; exact absurd e0 (by decide)
        · rw [e] at e0; exact absurd e0 (by decide)
        · have := (a k (by omega)).2
          rw [fn m (by omega), fk] at this
          exact this rfl
    · refine .inr (.inr ⟨by omega, by omega, hr.1 (fun i hi => ?_)⟩)
      rcases errAt_eq f i with ⟨a, _⟩ | ⟨_, a, _⟩ | ⟨_, _, _, ⟨⟨j, hj, a⟩, _⟩ | ⟨_, e⟩⟩
      · by_cases e : i = k
        · subst e; rw [fk] at a; simp only at a; omega
        · rw [fn i e] at a; simp only [baseL] at a; omega
      · by_cases e : i = k
        · subst e; rw [fk] at a; simp only at a; omega
        · rw [fn i e] at a; simp only [baseL] at a; omega
      · by_cases e : i = k
        · subst e; rw [fk, fn j (by omega)] at a; simp only [baseL] at a; omega
        · rw [fn i e] at a
          by_cases e' : j = k
          · subst e'; rw [fk] at a; simp only [baseL] at a; omega
          · rw [fn j e'] at a; simp only [baseL] at a; omega
      · exact e
/-- Another item: that of another line. -/
theorem right_item {n k o : Nat} (hk : k < n) (ho : o < n) (h8 : n ≤ 8) : (k = o ∧ rightO ((linesL n).set k ⟨1000 + o, k, 1 + k⟩) = 0) ∨ (k ≠ o ∧ rightO ((linesL n).set k ⟨1000 + o, k, 1 + k⟩) = 8) := by
  rw [linesL_set]
  generalize hf : (fun i => if i = k then (⟨1000 + o, k, 1 + k⟩ : Ln) else baseL i) = f
  have fk : f k = ⟨1000 + o, k, 1 + k⟩ := by rw [← hf]; simp
  have fn : ∀ i, i ≠ k → f i = baseL i := fun i hi => by rw [← hf]; simp [hi]
  have hb : ∀ i, i < n → errAt f i = 0 ∨ errAt f i = 8 := fun i hi => by
    by_cases e : i = k
    · subst e
      rcases errAt_eq f i with ⟨a, _⟩ | ⟨_, a, _⟩ | ⟨_, _, _, ⟨_, e⟩ | ⟨_, e⟩⟩
      · rw [fk] at a; simp only at a; omega
      · rw [fk] at a; simp only at a; omega
      · exact .inr e
      · exact .inl e
    · rcases errAt_eq f i with ⟨a, _⟩ | ⟨_, a, _⟩ | ⟨_, _, _, ⟨_, e⟩ | ⟨_, e⟩⟩
      · rw [fn i e] at a; simp only [baseL] at a; omega
      · rw [fn i e] at a; simp only [baseL] at a; omega
      · exact .inr e
      · exact .inl e
  have hr := rightO_map f 8 n (by omega) h8 hb
  by_cases ht : k = o
  · refine .inl ⟨ht, hr.1 (fun i hi => ?_)⟩
    rcases errAt_eq f i with ⟨a, _⟩ | ⟨_, a, _⟩ | ⟨_, _, _, ⟨⟨j, hj, a⟩, _⟩ | ⟨_, e⟩⟩
    · by_cases e : i = k
      · subst e; rw [fk] at a; simp only at a; omega
      · rw [fn i e] at a; simp only [baseL] at a; omega
    · by_cases e : i = k
      · subst e; rw [fk] at a; simp only at a; omega
      · rw [fn i e] at a; simp only [baseL] at a; omega
    · by_cases e : i = k
      · subst e; rw [fk, fn j (by omega)] at a; simp only [baseL] at a; omega
      · rw [fn i e] at a
        by_cases e' : j = k
        · subst e'; rw [fk] at a; simp only [baseL] at a; omega
        · rw [fn j e'] at a; simp only [baseL] at a; omega
    · exact e
  · refine .inr ⟨ht, hr.2 ?_⟩
    rcases Nat.lt_or_ge o k with hmk | hmk
    · refine ⟨k, hk, fun e0 => ?_⟩
      rcases errAt_eq f k with ⟨_, e⟩ | ⟨_, _, e⟩ | ⟨_, _, _, ⟨_, e⟩ | ⟨a, _⟩⟩
      · rw [e] at e0; exact absurd e0 (by decide)
      · rw [e] at e0; exact absurd e0 (by decide)
      · rw [e] at e0; exact absurd e0 (by decide)
      · have := (a o hmk).1
        rw [fn o (by omega), fk] at this
        exact this rfl
    · refine ⟨o, ho, fun e0 => ?_⟩
      rcases errAt_eq f o with ⟨_, e⟩ | ⟨_, _, e⟩ | ⟨_, _, _, ⟨_, e⟩ | ⟨a, _⟩⟩
      · rw [e] at e0; exact absurd e0 (by decide)
      · rw [e] at e0; exact absurd e0 (by decide)
      · rw [e] at e0; exact absurd e0 (by decide)
      · have := (a k (by omega)).1
        rw [fn o (by omega), fk] at this
        exact this rfl
theorem linesL_ok (n : Nat) (h : n ≤ 10) : ∀ l ∈ linesL n, l.ok := by
  intro l hl
  obtain ⟨j, hj, rfl⟩ := List.mem_map.1 hl
  have := List.mem_range.1 hj
  exact ⟨by simp only [baseL]; omega, by simp only [baseL]; omega, by simp only [baseL]; omega⟩
theorem set_ok {ls : List Ln} {k : Nat} {x : Ln} (h : ∀ l ∈ ls, l.ok) (hx : x.ok) : ∀ l ∈ ls.set k x, l.ok := fun l hl => by
  rcases List.mem_or_eq_of_mem_set hl with h' | rfl
  · exact h l h'
  · exact hx
end Go.Proofs.YtigknfkkegccgaaDoor.K
