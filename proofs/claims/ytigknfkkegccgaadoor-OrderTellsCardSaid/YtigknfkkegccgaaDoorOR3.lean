/- The document's Parse: a round, whatever its order. -/
import Derived.Test.YtigknfkkegccgaaDoorOR2
import Derived.Test.YtigknfkkegccgaaDoorRg
import Derived.Test.YtigknfkkegccgaaDoorO6
namespace Go.Proofs.YtigknfkkegccgaaDoor.K
open Go.RowKit
set_option linter.unusedVariables false
set_option linter.unusedSimpArgs false
attribute [local go_sem ↓] Go.wp_at_zero Go.wp_at_succ
/-- The state: what is told (empty yet), the order so far at q. -/
structure QS (w : World) (q : Nat) (id : Int) (v : Value) (ls : List Ln) (wr : World) : Prop where
  res : Blk wr w.heap.size 25 #[.int .u32 0, .slice none 0 0]
  o : Blk wr q 25 #[.int .u32 id, v]
  hv : wr.ownsRow w.heap.size 51 3 v ls.length (ls.flatMap cL)
  hb : Below w.heap.size w wr
  hq : w.heap.size < q
theorem QS.fr0 {w wr w' : World} {q : Nat} {id : Int} {v : Value} {ls : List Ln} (h : QS w q id v ls wr) (k : Fr0 wr w') : QS w q id v ls w' :=
  ⟨h.res.fr k (fun h => h), h.o.fr k (fun h => h), own_fr h.hv k (fun _ _ h => h), h.hb.trans (k.below0.mono h.hb.size), h.hq⟩
theorem QS.app {w wr w' : World} {q : Nat} {id : Int} {v v2 : Value} {ls ls2 : List Ln} (h : QS w q id v ls wr) (h3 : w'.ownsRow w.heap.size 51 3 v2 ls2.length (ls2.flatMap cL)) (h4 : Fr (fun k => v.ownBlock = some k) wr w') :
    QS w q id v2 ls2 (w'.setCell ⟨q, 1, none⟩ v2) ∧ w'.cell? ⟨q, 1, none⟩ = some v ∧ w'.frozen? ⟨q, 1, none⟩ = false := by
  have ho := h.o.fr h4 (fun e => own_blk_ne h.hv h.o (by decide) e)
  have hr := h.res.fr h4 (fun e => own_blk_ne h.hv h.res (by decide) e)
  have hF : Fr (fun k => k = q) w' (w'.setCell ⟨q, 1, none⟩ v2) := (Fr.refl (fun k => k = q) w').setCell (p := ⟨q, 1, none⟩) (fun _ => rfl) _
  have hq := h.hq
  refine ⟨⟨hr.far (p := ⟨q, 1, none⟩) (by simp only; omega) _, by simpa using ho.set_ 1 v2, own_fr h3 hF (fun j e e' => own_blk_ne h3 ho (by decide) (e' ▸ e)), ?_, hq⟩, ho.cell 1, ho.frozen 1⟩
  exact below_fr (below_fr h.hb h4 h.hb.size (fun j e => (h.hv.lt j e).1)) hF (Nat.le_trans h.hb.size h4.size) (fun j e => by omega)
/-- The fixed things of a round. -/
structure QP where
  w : World
  q : Nat
  id : Int
  VA : Option Addr
  vc : Nat
  ls : List Ln
  b : List Int
  k : Nat
  m : List Int
def qV (p : QP) : Nat → Option Value
  | 0 => some (.pointer (some ⟨p.q, 1, none⟩))
  | 1 => some (.slice p.VA p.ls.length p.vc)
  | 2 => some (.string (strOfNums p.b))
  | 3 => some (.int .i64 p.k)
  | 4 => some (.int .i64 p.k)
  | 5 => some (.int .i64 (p.k + 2))
  | 6 => some (.string (strOfNums (p.m.take 2)))
  | 7 => some (.int .u32 (num (p.m.take 2)))
  | 8 => some (.int .u16 (num (p.m.take 2)))
  | 9 => some (.string (strOfNums p.b))
  | 10 => some (.int .i64 p.k)
  | 11 => some (.int .i64 (p.k + 2))
  | 12 => some (.int .i64 p.k)
  | 13 => some (.int .i64 (p.k + 4))
  | 14 => some (.string (strOfNums ((p.m.drop 2).take 2)))
  | 15 => some (.int .u32 (num ((p.m.drop 2).take 2)))
  | 16 => some (.int .u16 (num ((p.m.drop 2).take 2)))
  | 17 => some (.string (strOfNums p.b))
  | 18 => some (.int .i64 p.k)
  | 19 => some (.int .i64 (p.k + 4))
  | 20 => some (.int .i64 p.k)
  | 21 => some (.int .i64 (p.k + 6))
  | 22 => some (.string (strOfNums ((p.m.drop 4).take 2)))
  | 23 => some (.int .u32 (num ((p.m.drop 4).take 2)))
  | 24 => some (.int .i64 (num ((p.m.drop 4).take 2)))
  | 25 => some (.agg (lvs (lnOf p.m)))
  | 28 => some (.pointer (some ⟨p.q, 1, none⟩))
  | _ => none
def qPh (p : QP) (f : Nat → Value) (w' : World) : Nat → Prop
  | 0 => QS p.w p.q p.id (.slice p.VA p.ls.length p.vc) p.ls w'
  | 1 => ∃ W, w' = W.alloc (.cells (lvs (lnOf p.m)) 51) ∧ QS p.w p.q p.id (.slice p.VA p.ls.length p.vc) p.ls W ∧ f 26 = .slice (some ⟨W.heap.size, 0, none⟩) 1 1
  | 2 => ∃ A2 c2, f 27 = .slice A2 (p.ls ++ [lnOf p.m]).length c2 ∧ w'.cell? ⟨p.q, 1, none⟩ = some (.slice p.VA p.ls.length p.vc) ∧ w'.frozen? ⟨p.q, 1, none⟩ = false ∧ QS p.w p.q p.id (.slice A2 (p.ls ++ [lnOf p.m]).length c2) (p.ls ++ [lnOf p.m]) (w'.setCell ⟨p.q, 1, none⟩ (.slice A2 (p.ls ++ [lnOf p.m]).length c2))
  | _ => ∃ A2 c2, QS p.w p.q p.id (.slice A2 (p.ls ++ [lnOf p.m]).length c2) (p.ls ++ [lnOf p.m]) w'
def qR (p : QP) (a0 : Act) : RG := ⟨40, 29, 76, a0, qV p, [26, 27, 29], [(2, 1)], qPh p⟩
theorem qLoc (p : QP) (a0 : Act) : ∀ f g w k, (∀ j ∈ (qR p a0).tr, f j = g j) → (qR p a0).Ph f w k → (qR p a0).Ph g w k := by
  intro f g w k h hp
  have h26 := h 26 (by simp [qR])
  have h27 := h 27 (by simp [qR])
  match k, hp with
  | 0, hp => exact hp
  | 1, ⟨W, e, hp, hf⟩ => exact ⟨W, e, hp, h26 ▸ hf⟩
  | 2, ⟨A2, c2, hf, hp⟩ => exact ⟨A2, c2, h27 ▸ hf, hp⟩
  | n + 3, hp => exact hp
section
variable {ρ : Operand → Value} {W : World} {o : Oper}
theorem run_add {s : Nat} {x c : Int} (ho : o.op = .binOp .add 3 (.tmp s) (.const (.int .i64 c)) 3) (e : ρ (.tmp s) = .int .i64 x) (h0 : -9223372036854775808 ≤ x + c) (h1 : x + c < 9223372036854775808) (hc : ρ (.const (.int .i64 c)) = .int .i64 c := by rfl) : (execOp ρ o).run Tryd.prog W = .ok (.value (.int .i64 (x + c))) W := by
  have hw : IntKind.i64.wrap (x + c) = x + c := by rw [IntKind.wrap_i64]; omega
  simp [execOp, ho, e, hc, go_sem, hw]
theorem run_cutS {s t u : Nat} {b : List Int} {lo hi : Nat} {il ih : Int} (ho : o.op = .slice 9 (.tmp s) (some (.tmp t)) (some (.tmp u)) none) (e : ρ (.tmp s) = .string (strOfNums b)) (e1 : ρ (.tmp t) = .int .i64 il) (e2 : ρ (.tmp u) = .int .i64 ih) (hl : il = lo) (hh : ih = hi) (h1 : lo ≤ hi) (h2 : hi ≤ b.length) : (execOp ρ o).run Tryd.prog W = .ok (.value (.string (strOfNums ((b.take hi).drop lo)))) W := by
  subst hl hh
  have hs : (strOfNums b).size = b.length := str_size b
  have hc := str_cut b lo hi
  have := run_slice_string_if (P := Tryd.prog) (w := W) 9 (strOfNums b) .i64 .i64 (lo : Int) (hi : Int) Tryd.underlying9
  simp [execOp, ho, e, e1, e2, go_sem, hs, hc, h1, h2]
theorem enter_num (args : Array Value) (W : World) : (callFunc 44 args).run Tryd.prog W = .ok (.enter 44 args) W := rfl
theorem run_call_num {s : Nat} {v : Value} {ts : Array TypeId} (ho : o.op = .call { callee := .value (.func 44), args := #[.tmp s], argTypes := ts }) (e : ρ (.tmp s) = v) (hf : ρ (.func 44) = .func (.func 44) #[] #[] := by rfl) : (execOp ρ o).run Tryd.prog W = .ok (.enter 44 #[v]) W := by
  rw [← enter_num]
  simp [execOp, ho, e, hf, go_sem, resolve, invoke]
theorem run_c16 {s : Nat} {n : Int} (ho : o.op = .convert 22 49 (.tmp s)) (e : ρ (.tmp s) = .int .u32 n) (h0 : 0 ≤ n) (h1 : n < 65536) : (execOp ρ o).run Tryd.prog W = .ok (.value (.int .u16 n)) W := by
  have hw : IntKind.u16.wrap n = n := by rw [IntKind.wrap_u16]; omega
  simp [execOp, ho, e, go_sem, hw]
theorem run_c64 {s : Nat} {n : Int} (ho : o.op = .convert 22 3 (.tmp s)) (e : ρ (.tmp s) = .int .u32 n) (h0 : 0 ≤ n) (h1 : n < 65536) : (execOp ρ o).run Tryd.prog W = .ok (.value (.int .i64 n)) W := by
  have hw : IntKind.i64.wrap n = n := by rw [IntKind.wrap_i64]; omega
  simp [execOp, ho, e, go_sem, hw]
end
end Go.Proofs.YtigknfkkegccgaaDoor.K
