/- Append, as a step of a region that draws its order. -/
import Derived.Test.YtdhfinpmcikimaaDoorGe
import Derived.Deep.RegionHeldLaw
namespace Go.Proofs.YtdhfinpmcikimaaDoor.K
open Go.RowKit
set_option linter.unusedVariables false
set_option linter.unusedSimpArgs false
/-- 'append(s, x...)', s a row of the call's own, x any row that can be read: one step. -/
theorem stepR {α : Type} {c : α → List Value} {P : Program} {w : World} {ops : Array Oper} {o : Oper} {a : Act} {K : Act → World → Prop} {Q : Exit → Act → World → Prop} {E : Prop} (hgd : o.guard = none) (s x : Operand) (t : TypeId)
    (ho : o.op = .call { callee := .builtin .append, args := #[s, x], argTypes := #[t, t] })
    (e : TypeId) (z : Value) (size bytes : Nat) (ht : P.underlying t = some (.slice e)) (hinfo : (P.info? e).map (fun i => (i.zero, i.size, i.bytes)) = some (some z, size, bytes))
    (hzs : z.cells.size = size) (hsz : 0 < size) (hby : 0 < bytes) (hcs : ∀ y, (c y).length = size) (h1 : ∀ y, ∀ u ∈ c y, u.oneCell' = true)
    (base B : Nat) (v : Value) (xs l : List α) (A : Option Addr) (cap : Nat) (hs : a.eval s = v) (hx : a.eval x = .slice A l.length cap)
    (HR : RowOf c size w B A l) (HO : w.ownsRow base e size v xs.length (xs.flatMap c)) (hbase : base ≤ w.heap.size) (hl : (xs.length + l.length) * bytes ≤ 140737488355328)
    (h : ∀ v1 w1, w1.ownsRow base e size v1 (xs ++ l).length ((xs ++ l).flatMap c) → Fr (fun k => v.ownBlock = some k) w w1 → (∀ k, v1.ownBlock = some k → v.ownBlock = some k ∨ w.heap.size ≤ k) → K (a.put o.dst v1) w1) :
    if Region.wanted o (yielded ops a.tmps) = true then Oper.wp P o a w K Q else E := by
  have hw : Region.wanted o (yielded ops a.tmps) = true := by simp [Region.wanted, hgd]
  rw [if_pos hw]
  obtain ⟨i0, hi, hz0, hz1, hz2⟩ := info_parts hinfo
  by_cases hA : A = none
  · subst hA
    have hl0 : l = [] := row_none_nil HR
    subst hl0
    have hrun := run_append_nil (P := P) (w := w) base t o.type e i0 size ht hi v xs.length cap (xs.flatMap c) HO
    have hx' : a.eval x = .slice none 0 cap := hx
    unfold Oper.wp
    simp [execOp, ho, resolve, invoke, builtin, hs, hx', hrun, Result.andThen]
    exact h v w (by simpa using HO) (Fr.refl _ _) (fun k hk => .inl hk)
  · obtain ⟨ad, rfl⟩ : ∃ ad, A = some ad := by cases A with
      | none => exact absurd rfl hA
      | some ad => exact ⟨ad, rfl⟩
    have hlen := Nat.le_trans (Nat.le_mul_of_pos_right (xs.length + l.length) hby) hl
    obtain ⟨v', w', hrun, h2, hg, _, hat⟩ := run_append_own_at (P := P) w base t o.type e i0 z size bytes ht hi hz0 hz1 hz2 hzs hsz v xs.length (xs.flatMap c) HO ad l.length cap (l.flatMap c) (flat_len hcs l)
      (fun j u hu => by
        obtain ⟨i, y, k, h2, h3, rfl⟩ := flat_inv hcs l j u hu
        obtain ⟨ad', e', _, hc⟩ := HR i y h2
        injection e' with e'; subst e'
        exact hc k u h3)
      (fun u hu => by
        obtain ⟨y, _, hy⟩ := List.mem_flatMap.1 hu
        exact h1 y u hy) (by simp only [maxLen]; omega) hl hbase
    unfold Oper.wp execOp
    simp only [ho, resolve, invoke, builtin, Sem.run_bind, Sem.run_pure, Result.andThen_ok, List.map_toArray, List.map_cons, List.map_nil, hs, hx, hrun]
    refine h v' w' (by rw [List.length_append, List.flatMap_append]; exact h2) ((Fr.refl (fun k => v.ownBlock = some k) w).grown hg (fun j _ e => e)) (fun k hk => ?_)
    rcases hat with hat | hat
    · exact .inl (hat ▸ hk)
    · rw [hat] at hk; injection hk with hk; exact .inr (by omega)
/-- Rows of unlike elements lie apart. -/
theorem own_ne {w : World} {b b' : Nat} {e e' : TypeId} {s s' n n' : Nat} {v v' : Value} {xs xs' : List Value} (h : w.ownsRow b e s v n xs) (h' : w.ownsRow b' e' s' v' n' xs') (hne : e ≠ e') : ∀ j, v.ownBlock = some j → v'.ownBlock ≠ some j := by
  intro j hj
  rcases h.2 with ⟨rfl, _⟩ | ⟨g, cap, cur, rfl, _, hh, _⟩
  · simp [Value.ownBlock] at hj
  · have : g = j := by simpa [Value.ownBlock] using hj
    subst this
    exact own_blk_ne h' hh (fun e => hne e.symm)
theorem info_bytes : (Tryd.prog.info? 26).map (fun i => (i.zero, i.size, i.bytes)) = some (some (.slice none 0 0), 1, 24) := by kernel_rfl
theorem Made.fr {B : Nat} {A : Option Addr} {c : Nat} {l : List Int} {S : Nat → Prop} {w w' : World} (h : Made B A c l w) (k : Fr S w w') (hn : ∀ j, (Value.slice A l.length c).ownBlock = some j → ¬ S j) : Made B A c l w' := by
  obtain ⟨A', c', e, hm⟩ := made_of (B := B) (own_fr h.1 k hn)
  injection e with e1 _ e2
  subst e1 e2
  exact hm
theorem Made.low {B B' : Nat} {A : Option Addr} {c : Nat} {l : List Int} {w : World} (h : Made B A c l w) (hb : B' ≤ B) : Made B' A c l w := ⟨own_weak h.1 hb, h.2.1, h.2.2⟩
/-- What 'parts' tells: at most five parts of the call's own, of at most fifty bytes each. -/
structure Own5 (B : Nat) (v : Value) (ps : List Part) (w : World) : Prop where
  row : w.ownsRow B 26 1 v ps.length (ps.flatMap cP)
  each : ∀ p ∈ ps, Made B p.1 p.2.1 p.2.2 w ∧ p.2.2.length ≤ 50 ∧ InB p.2.2
  few : ps.length ≤ 5
end Go.Proofs.YtdhfinpmcikimaaDoor.K
