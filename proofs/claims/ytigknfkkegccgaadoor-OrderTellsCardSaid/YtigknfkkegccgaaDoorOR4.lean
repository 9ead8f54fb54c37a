/- The document's Parse. -/
import Derived.Test.YtigknfkkegccgaaDoorOR3
namespace Go.Proofs.YtigknfkkegccgaaDoor.K
open Go.RowKit
set_option linter.unusedVariables false
set_option linter.unusedSimpArgs false
attribute [local go_sem ↓] Go.wp_at_zero Go.wp_at_succ
theorem getD_no {l : Array Bool} {j : Nat} (h : l.getD j true = false) : l.getD j false = false := by
  rw [Array.getD_eq_getD_getElem?] at h ⊢
  cases e : l[j]? with
  | none => rfl
  | some b => rw [e] at h; simpa using h
theorem qCell {p : QP} {a0 : Act} {f : Nat → Value} {w' : World} {k : Nat} (h : (qR p a0).Ph f w' k) (hk : k < 2) : w'.cell? ⟨p.q, 1, none⟩ = some (.slice p.VA p.ls.length p.vc) := by
  match k, hk, h with
  | 0, _, h => exact QS.o h |>.cell 1
  | 1, _, ⟨W, e, hp, _⟩ => subst e; exact (hp.o.alloc _).cell 1
/-- A line is appended: a step of a region that draws its order. -/
theorem QS.step1 {ops : Array Oper} {o : Oper} {a : Act} {K : Act → World → Prop} {Q : Exit → Act → World → Prop} {E : Prop} {w wr : World} {q : Nat} {id : Int} {VA : Option Addr} {vc : Nat} {ls : List Ln} (hgd : o.guard = none) (s x : Operand)
    (ho : o.op = .call { callee := .builtin .append, args := #[s, x], argTypes := #[23, 23] }) (y : Ln) (h : QS w q id (.slice VA ls.length vc) ls wr) (hl : ls.length ≤ 1000)
    (hs : a.eval s = .slice VA ls.length vc) (hx : a.eval x = .slice (some ⟨wr.heap.size, 0, none⟩) 1 1)
    (hk : ∀ A2 c2 w2, QS w q id (.slice A2 (ls ++ [y]).length c2) (ls ++ [y]) (w2.setCell ⟨q, 1, none⟩ (.slice A2 (ls ++ [y]).length c2)) → w2.cell? ⟨q, 1, none⟩ = some (.slice VA ls.length vc) → w2.frozen? ⟨q, 1, none⟩ = false → K (a.put o.dst (.slice A2 (ls ++ [y]).length c2)) w2) :
    if Region.wanted o (yielded ops a.tmps) = true then Oper.wp Tryd.prog o a (wr.alloc (.cells (lvs y) 51)) K Q else E := by
  have h' := h.fr0 ((Fr.refl (fun _ => False) wr).alloc (.cells (lvs y) 51))
  refine stepR (c := cL) hgd s x 23 ho 51 (.agg #[.int .u16 0, .int .u16 0, .int .i64 0]) 3 16 Tryd.underlying23 info_ln rfl (by omega) (by omega) (fun _ => rfl) one_ln w.heap.size (wr.heap.size + 1) (.slice VA ls.length vc) ls [y] _ _ hs hx (row_new1 y (Nat.lt_succ_self _)) h'.hv h'.hb.size (by simp; omega) ?_
  intro v2 w2 h3 h4 h5
  obtain ⟨A2, c2, rfl, hc2⟩ := own_form h3
  obtain ⟨q1, q2, q3⟩ := h'.app h3 h4
  exact hk A2 c2 w2 q1 q2 q3
end Go.Proofs.YtigknfkkegccgaaDoor.K
