/- Rows of elements: what is appended to a row of the call's own is read out of another one. -/
import Derived.Test.YtdhfinpmcikimaaDoorKit
namespace Go.Proofs.YtdhfinpmcikimaaDoor.K
open Go.RowKit
set_option linter.unusedVariables false
set_option linter.unusedSimpArgs false
theorem flat_at {α : Type} {c : α → List Value} {size : Nat} (hc : ∀ x, (c x).length = size) : ∀ (l : List α) (i : Nat) (x : α), l[i]? = some x → ∀ j u, (c x)[j]? = some u → (l.flatMap c)[i * size + j]? = some u := by
  intro l
  induction l with
  | nil => intro i x h; simp at h
  | cons y l ih =>
    intro i x h j u hu
    rw [List.flatMap_cons]
    cases i with
    | zero =>
      simp at h; subst h
      have hj : j < (c y).length := (List.getElem?_eq_some_iff.1 hu).1
      rw [List.getElem?_append_left (by omega), Nat.zero_mul, Nat.zero_add]
      exact hu
    | succ i =>
      simp at h
      rw [List.getElem?_append_right (by rw [hc, Nat.succ_mul]; omega), hc, show (i + 1) * size + j - size = i * size + j by rw [Nat.succ_mul]; omega]
      exact ih i x h j u hu
theorem flat_inv {α : Type} {c : α → List Value} {size : Nat} (hc : ∀ x, (c x).length = size) : ∀ (l : List α) (j : Nat) (u : Value), (l.flatMap c)[j]? = some u → ∃ i x k, l[i]? = some x ∧ (c x)[k]? = some u ∧ j = i * size + k := by
  intro l
  induction l with
  | nil => intro j u h; simp at h
  | cons y l ih =>
    intro j u h
    rw [List.flatMap_cons] at h
    by_cases hj : j < size
    · rw [List.getElem?_append_left (by rw [hc]; exact hj)] at h
      exact ⟨0, y, j, rfl, h, by omega⟩
    · rw [List.getElem?_append_right (by rw [hc]; omega), hc] at h
      obtain ⟨i, x, k, h1, h2, h3⟩ := ih _ _ h
      exact ⟨i + 1, x, k, by simpa using h1, h2, by rw [Nat.succ_mul]; omega⟩
theorem flat_len {α : Type} {c : α → List Value} {size : Nat} (hc : ∀ x, (c x).length = size) (l : List α) : (l.flatMap c).length = l.length * size := by
  induction l with
  | nil => simp
  | cons y l ih => rw [List.flatMap_cons, List.length_append, hc, ih, List.length_cons, Nat.succ_mul]; omega
theorem row_own {α : Type} {c : α → List Value} {size base : Nat} {e : TypeId} {w : World} {A : Option Addr} {cap : Nat} {l : List α} (hc : ∀ x, (c x).length = size)
    (h : w.ownsRow base e size (.slice A l.length cap) l.length (l.flatMap c)) : RowOf c size w w.heap.size A l := by
  intro i x hx
  have hi : i < l.length := (List.getElem?_eq_some_iff.1 hx).1
  obtain ⟨g, cap', hv, _, hlt⟩ := h.form (by omega)
  have hA : A = some ⟨g, 0, none⟩ := by injection hv
  subst hA
  exact ⟨_, rfl, hlt, fun j u hu => h.cells (g := g) rfl _ _ (flat_at hc l i x hx j u hu)⟩
theorem run_append_nil {P : Program} {w : World} (base : Nat) (t ty e : TypeId) (i : TypeInfo) (size : Nat) (ht : P.underlying t = some (.slice e)) (hi : P.info? e = some i)
    (v : Value) (n c : Nat) (xs : List Value) (hown : w.ownsRow base e size v n xs) :
    (Builtin.append_ #[t, t] ty #[v, .slice none 0 c]).run P w = .ok v w := by
  rcases hown.2 with ⟨rfl, rfl⟩ | ⟨g, cap, cur, rfl, _, _, hnc, _⟩
  · simp [Builtin.append_, run_underlying ht, sizeOf, typeInfo, hi, Builtin.lenOf, Builtin.firstCells]
  · simp [Builtin.append_, run_underlying ht, sizeOf, typeInfo, hi, Builtin.lenOf, Builtin.firstCells, hnc, storeCells]
/-- 'append(s, x...)', s a row of the call's own, x any row that can be read. -/
theorem appR {α : Type} {c : α → List Value} {P : Program} {w : World} {ops : Array Oper} {rest : List Oper} {o : Oper} {a : Act} {Q : Exit → Act → World → Prop} (hgd : o.guard = none) (s x : Operand) (t : TypeId)
    (ho : o.op = .call { callee := .builtin .append, args := #[s, x], argTypes := #[t, t] })
    (e : TypeId) (z : Value) (size bytes : Nat) (ht : P.underlying t = some (.slice e)) (hinfo : (P.info? e).map (fun i => (i.zero, i.size, i.bytes)) = some (some z, size, bytes))
    (hzs : z.cells.size = size) (hsz : 0 < size) (hby : 0 < bytes) (hcs : ∀ y, (c y).length = size) (h1 : ∀ y, ∀ u ∈ c y, u.oneCell' = true)
    (base B : Nat) (v : Value) (xs l : List α) (A : Option Addr) (cap : Nat) (hs : a.eval s = v) (hx : a.eval x = .slice A l.length cap)
    (HR : RowOf c size w B A l) (HO : w.ownsRow base e size v xs.length (xs.flatMap c)) (hbase : base ≤ w.heap.size) (hl : (xs.length + l.length) * bytes ≤ 140737488355328)
    (h : ∀ v1 w1, w1.ownsRow base e size v1 (xs ++ l).length ((xs ++ l).flatMap c) → Fr (fun k => v.ownBlock = some k) w w1 → (∀ k, v1.ownBlock = some k → v.ownBlock = some k ∨ w.heap.size ≤ k) → wpList P ops Q rest (a.put o.dst v1) w1) :
    wpList P ops Q (o :: rest) a w := by
  obtain ⟨i0, hi, hz0, hz1, hz2⟩ := info_parts hinfo
  by_cases hA : A = none
  · subst hA
    have hl0 : l = [] := by
      cases l with
      | nil => rfl
      | cons y l => obtain ⟨ad, e, _⟩ := HR 0 y rfl; cases e
    subst hl0
    refine wpList_plain hgd fun K hK => ?_
    have hrun := run_append_nil (P := P) (w := w) base t o.type e i0 size ht hi v xs.length cap (xs.flatMap c) HO
    have hx' : a.eval x = .slice none 0 cap := hx
    unfold Oper.wp
    simp [execOp, ho, resolve, invoke, builtin, hs, hx', hrun, Result.andThen]
    exact hK _ _ (h v w (by simpa using HO) (Fr.refl _ _) (fun k hk => .inl hk))
  · obtain ⟨ad, rfl⟩ : ∃ ad, A = some ad := by cases A with
      | none => exact absurd rfl hA
      | some ad => exact ⟨ad, rfl⟩
    refine wpList_append_own_at w hgd s x t ho base e i0 z size bytes ht hi hz0 hz1 hz2 hzs hsz v xs.length (xs.flatMap c) hs HO ad l.length cap (l.flatMap c) hx (flat_len hcs l) ?_ ?_ ?_ hl hbase ?_
    · intro j u hu
      obtain ⟨i, y, k, h2, h3, rfl⟩ := flat_inv hcs l j u hu
      obtain ⟨ad', e', _, hc⟩ := HR i y h2
      injection e' with e'; subst e'
      exact hc k u h3
    · intro u hu
      obtain ⟨y, _, hy⟩ := List.mem_flatMap.1 hu
      exact h1 y u hy
    · have := Nat.le_trans (Nat.le_mul_of_pos_right _ hby) hl
      simp only [maxLen]; omega
    · intro v1 w1 hown hg _ hat
      refine h v1 w1 (by rw [List.length_append, List.flatMap_append]; exact hown) ((Fr.refl (fun k => v.ownBlock = some k) w).grown hg (fun j _ e => e)) (fun k hk => ?_)
      rcases hat with hat | hat
      · exact .inl (hat ▸ hk)
      · rw [hat] at hk; injection hk with hk; exact .inr (by omega)
/-- A field of an element, as the walk names its cell. -/
theorem add_field (ad : Addr) (m j : Nat) (hj : 0 < j) : ad.add (m + j) = ⟨(ad.add m).block, (ad.add m).off + j, none⟩ := by
  unfold Addr.add
  by_cases hm : m = 0
  · subst hm
    rw [if_neg (by omega), if_pos rfl]
    simp
  · rw [if_neg (by omega), if_neg hm]
    simp [Nat.add_assoc]
/-- As app1, the new cell's block by a number of its own. -/
theorem app1g {P : Program} {W : World} {ops : Array Oper} {rest : List Oper} {o : Oper} {a : Act} {Q : Exit → Act → World → Prop} (hgd : o.guard = none) (s x : Operand) (t : TypeId)
    (ho : o.op = .call { callee := .builtin .append, args := #[s, x], argTypes := #[t, t] })
    (e : TypeId) (z : Value) (size bytes : Nat) (ht : P.underlying t = some (.slice e)) (hinfo : (P.info? e).map (fun i => (i.zero, i.size, i.bytes)) = some (some z, size, bytes))
    (hzs : z.cells.size = size) (hsz : 0 < size) (hby : 0 < bytes)
    (base g : Nat) (hg : W.heap.size = g) (v : Value) (n : Nat) (xs ys : List Value) (hs : a.eval s = v) (hx : a.eval x = .slice (some ⟨g, 0, none⟩) 1 1)
    (hy : ys.length = size) (h1 : ∀ u ∈ ys, u.oneCell' = true) (HO : W.ownsRow base e size v n xs) (hbase : base ≤ W.heap.size) (hl : (n + 1) * bytes ≤ 140737488355328)
    (h : ∀ v1 w1, w1.ownsRow base e size v1 (n + 1) (xs ++ ys) → Fr (fun k => v.ownBlock = some k) W w1 → (∀ k, v1.ownBlock = some k → v.ownBlock = some k ∨ W.heap.size ≤ k) → wpList P ops Q rest (a.put o.dst v1) w1) :
    wpList P ops Q (o :: rest) a (W.alloc (.cells ys.toArray e)) := by
  subst hg
  exact app1 hgd s x t ho e z size bytes ht hinfo hzs hsz hby base v n xs ys hs hx hy h1 HO hbase hl h
end Go.Proofs.YtdhfinpmcikimaaDoor.K
