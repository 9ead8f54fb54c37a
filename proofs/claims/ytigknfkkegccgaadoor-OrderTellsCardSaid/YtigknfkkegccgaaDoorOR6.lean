/- OrderTells: a region that draws its order, by a table. -/
import Derived.Test.YtigknfkkegccgaaDoorOR5
namespace Go.Proofs.YtigknfkkegccgaaDoor.K
open Go.RowKit
set_option linter.unusedVariables false
set_option linter.unusedSimpArgs false
attribute [local go_sem ↓] Go.wp_at_zero Go.wp_at_succ
structure TP where
  W : World
  q : Nat
  id : Int
  A : Option Addr
  m : Nat
  c : Nat
  rv : Int
  X : Option Addr
  n : Nat
  xc : Nat
  L : List Int
def tV (p : TP) : Nat → Option Value
  | 0 => some (.agg #[.int .u32 p.id, .slice p.A p.m p.c])
  | 1 => some (.int .i64 p.rv)
  | 2 => some (.int .i64 p.rv)
  | 3 => some (.bool false)
  | 4 => some (.bool false)
  | 5 => some (.int .i64 p.rv)
  | 6 => some (.int .i64 p.rv)
  | 7 => some (.bool false)
  | 8 => some (.bool false)
  | 9 => some (.bool false)
  | 10 => some (.int .i64 p.rv)
  | 11 => some (.bool (p.rv == 0))
  | 12 => some (.bool (p.rv == 0))
  | 13 => if p.rv = 0 then some (.slice p.X p.n p.xc) else none
  | 14 => if p.rv = 0 then some (.string (strOfNums p.L)) else none
  | 15 => if p.rv = 0 then some (.agg #[.int .u32 p.id, .slice p.A p.m p.c]) else none
  | 16 => if p.rv = 0 then some (.string (strOfNums p.L)) else none
  | 17 => if p.rv = 0 then some (.bool false) else none
  | 18 => some (.bool false)
  | 19 => some (.bool false)
  | 20 => some (.bool false)
  | 21 => some (.int .i64 p.rv)
  | 22 => some (.bool (p.rv != 0))
  | 23 => some (.bool (p.rv != 0))
  | 24 => if p.rv = 0 then none else some (.slice p.X p.n p.xc)
  | 25 => if p.rv = 0 then none else some (.int .i64 p.n)
  | 26 => if p.rv = 0 then none else some (.bool false)
  | 27 => some (.bool false)
  | 28 => some (.bool false)
  | _ => none
def tR (p : TP) (a0 : Act) : RG := ⟨38, 29, 101, a0, tV p, [], [], fun _ w' _ => Below p.W.heap.size p.W w'⟩
section
variable {ρ : Operand → Value} {W : World} {o : Oper}
theorem run_neqI {s t : Nat} {x y : Int} {ty tz : TypeId} (ht : Tryd.prog.underlying ty = some (.int .i64)) (ho : o.op = .binOp .neq ty (.tmp s) (.tmp t) tz) (e : ρ (.tmp s) = .int .i64 x) (e2 : ρ (.tmp t) = .int .i64 y) : (execOp ρ o).run Tryd.prog W = .ok (.value (.bool (x != y))) W := by
  simp [execOp, ho, e, e2, go_sem, ht]
theorem run_neqK {s : Nat} {x y : Int} {ty tz : TypeId} (ht : Tryd.prog.underlying ty = some (.int .i64)) (ho : o.op = .binOp .neq ty (.tmp s) (.const (.int .i64 y)) tz) (e : ρ (.tmp s) = .int .i64 x) (hc : ρ (.const (.int .i64 y)) = .int .i64 y := by rfl) : (execOp ρ o).run Tryd.prog W = .ok (.value (.bool (x != y))) W := by
  simp [execOp, ho, e, hc, go_sem, ht]
theorem run_eqK {s : Nat} {x y : Int} {ty tz : TypeId} (ht : Tryd.prog.underlying ty = some (.int .i64)) (ho : o.op = .binOp .eql ty (.tmp s) (.const (.int .i64 y)) tz) (e : ρ (.tmp s) = .int .i64 x) (hc : ρ (.const (.int .i64 y)) = .int .i64 y := by rfl) : (execOp ρ o).run Tryd.prog W = .ok (.value (.bool (x == y))) W := by
  simp [execOp, ho, e, hc, go_sem, ht]
theorem run_neqS {s t : Nat} {x : ByteArray} (ho : o.op = .binOp .neq 9 (.tmp s) (.tmp t) 9) (e : ρ (.tmp s) = .string x) (e2 : ρ (.tmp t) = .string x) : (execOp ρ o).run Tryd.prog W = .ok (.value (.bool false)) W := by
  simp [execOp, ho, e, e2, go_sem, Tryd.underlying9]
theorem run_pickT {s t : Nat} {v : Value} {b : Bool} (ho : o.op = .pick (.tmp s) (.const (.bool true)) (.tmp t)) (e : ρ (.tmp s) = .bool false) (e2 : ρ (.tmp t) = v) (hc : ρ (.const (.bool true)) = .bool true := by rfl) : (execOp ρ o).run Tryd.prog W = .ok (.value v) W := by
  simp [execOp, ho, e, e2, hc, go_sem]
theorem run_pickF {s t : Nat} {v : Value} (ho : o.op = .pick (.tmp s) (.tmp t) (.const (.bool false))) (e : ρ (.tmp s) = .bool true) (e2 : ρ (.tmp t) = v) (hc : ρ (.const (.bool false)) = .bool false := by rfl) : (execOp ρ o).run Tryd.prog W = .ok (.value v) W := by
  simp [execOp, ho, e, e2, hc, go_sem]
theorem run_pickN {s t : Nat} (ho : o.op = .pick (.tmp s) (.tmp t) (.const (.bool false))) (e : ρ (.tmp s) = .bool false) (hc : ρ (.const (.bool false)) = .bool false := by rfl) : (execOp ρ o).run Tryd.prog W = .ok (.value (.bool false)) W := by
  simp [execOp, ho, e, hc, go_sem]
theorem run_lenB {s n c : Nat} {A : Option Addr} {ts : Array TypeId} (ht : ts = #[26]) (ho : o.op = .call { callee := .builtin .len, args := #[.tmp s], argTypes := ts }) (e : ρ (.tmp s) = .slice A n c) : (execOp ρ o).run Tryd.prog W = .ok (.value (.int .i64 n)) W := by
  subst ht
  simp [execOp, ho, e, go_sem, resolve, invoke, builtin, Tryd.underlying26]
theorem run_str {s : Nat} {v u : Value} (ho : o.op = .convert 26 9 (.tmp s)) (e : ρ (.tmp s) = v) (hv : (convert 26 9 v).run Tryd.prog W = .ok u W) : (execOp ρ o).run Tryd.prog W = .ok (.value u) W := by
  simp [execOp, ho, e, hv, go_sem]
theorem run_callF {f : Nat} {s : Nat} {v : Value} {ts : Array TypeId} (hf0 : ∀ (args : Array Value) (W : World), (callFunc f args).run Tryd.prog W = .ok (.enter f args) W) (ho : o.op = .call { callee := .value (.func f), args := #[.tmp s], argTypes := ts }) (e : ρ (.tmp s) = v) (hf : ρ (.func f) = .func (.func f) #[] #[] := by rfl) : (execOp ρ o).run Tryd.prog W = .ok (.enter f #[v]) W := by
  rw [← hf0]
  simp [execOp, ho, e, hf, go_sem, resolve, invoke]
theorem run_loadOr {s p : Nat} {x y : Value} (ho : o.op = .load 25 (.tmp s)) (e : ρ (.tmp s) = .pointer (some ⟨p, 0, none⟩)) (hc : W.cell? ⟨p, 0, none⟩ = some x) (hd : W.cell? ⟨p, 1, none⟩ = some y) : (execOp ρ o).run Tryd.prog W = .ok (.value (.agg #[x, y])) W := run_loadO ho e hc hd
end
end Go.Proofs.YtigknfkkegccgaaDoor.K
