/- Orders: what bytes are parsed as; the state of Parse. -/
import Derived.Test.YtigknfkkegccgaaDoorO3
import Derived.Test.YtigknfkkegccgaaDoorNu
namespace Go.Proofs.YtigknfkkegccgaaDoor.K
open Go.RowKit
set_option linter.unusedVariables false
set_option linter.unusedSimpArgs false
attribute [local go_sem ↓] Go.wp_at_zero Go.wp_at_succ
/-- The line that bytes begin with. -/
def lnOf (m : List Int) : Ln := ⟨num (m.take 2), num ((m.drop 2).take 2), num ((m.drop 4).take 2)⟩
def lnsOf : Nat → List Int → List Ln
  | 0, _ => []
  | k + 1, m => lnOf m :: lnsOf k (m.drop 6)
theorem lnsOf_len (k : Nat) : ∀ m, (lnsOf k m).length = k := by
  induction k with
  | zero => intro m; rfl
  | succ k ih => intro m; simp [lnsOf, ih]
theorem lnsOf_snoc (k : Nat) : ∀ m, lnsOf (k + 1) m = lnsOf k m ++ [lnOf (m.drop (6 * k))] := by
  induction k with
  | zero => intro m; simp [lnsOf]
  | succ k ih =>
    intro m
    show lnOf m :: lnsOf (k + 1) (m.drop 6) = _
    rw [ih (m.drop 6), List.drop_drop, show 6 + 6 * k = 6 * (k + 1) by omega]
    rfl
theorem lnOf_ok {m : List Int} (h : InB m) : (lnOf m).ok := by
  have q : (256 : Int) ^ 2 = 65536 := by decide
  have h1 := num_lt (k := 2) (h.take_ 2) (by rw [List.length_take]; omega)
  have h2 := num_lt (k := 2) ((h.drop_ 2).take_ 2) (by rw [List.length_take]; omega)
  have h3 := num_lt (k := 2) ((h.drop_ 4).take_ 2) (by rw [List.length_take]; omega)
  rw [q] at h1 h2 h3
  exact ⟨h1, h2, by unfold lnOf; simp only; omega⟩
theorem lnsOf_ok (k : Nat) : ∀ m, InB m → ∀ l ∈ lnsOf k m, l.ok := by
  induction k with
  | zero => intro m h l hl; cases hl
  | succ k ih =>
    intro m h l hl
    rcases List.mem_cons.1 hl with rfl | hl
    · exact lnOf_ok h
    · exact ih _ (h.drop_ 6) l hl
/-- The number of lines that bytes say. -/
def nOf (b : List Int) : Nat := (num ((b.drop 4).take 1)).toNat
/-- What Parse tells: the error, the ID, the lines. -/
def parseO (b : List Int) : Int × Int × List Ln :=
  if b.length < 5 ∨ b.length < 5 + 6 * nOf b then (2, 0, [])
  else if 5 + 6 * nOf b < b.length then (3, 0, [])
  else if rightO (lnsOf (nOf b) (b.drop 5)) = 0 then (0, num (b.take 4), lnsOf (nOf b) (b.drop 5))
  else (rightO (lnsOf (nOf b) (b.drop 5)), 0, [])
/-- A row of lines of the call's own. -/
def MadeL (B : Nat) (A : Option Addr) (c : Nat) (l : List Ln) (w : World) : Prop := w.ownsRow B 51 3 (.slice A l.length c) l.length (l.flatMap cL) ∧ RowOf cL 3 w w.heap.size A l ∧ l.length ≤ c
theorem madeL_of {B : Nat} {v : Value} {l : List Ln} {w : World} (h : w.ownsRow B 51 3 v l.length (l.flatMap cL)) : ∃ A c, v = .slice A l.length c ∧ MadeL B A c l w := by
  obtain ⟨A, c, rfl, hc⟩ := own_form h
  exact ⟨A, c, rfl, h, row_own (c := cL) (fun _ => rfl) h, hc⟩
theorem MadeL.fr {B : Nat} {A : Option Addr} {c : Nat} {l : List Ln} {S : Nat → Prop} {w w' : World} (h : MadeL B A c l w) (k : Fr S w w') (hn : ∀ j, (Value.slice A l.length c).ownBlock = some j → ¬ S j) : MadeL B A c l w' := by
  obtain ⟨A', c', e, hm⟩ := madeL_of (B := B) (own_fr h.1 k hn)
  injection e with e1 _ e2
  subst e1 e2
  exact hm
theorem MadeL.low {B B' : Nat} {A : Option Addr} {c : Nat} {l : List Ln} {w : World} (h : MadeL B A c l w) (hb : B' ≤ B) : MadeL B' A c l w := ⟨own_weak h.1 hb, h.2.1, h.2.2⟩
theorem MadeL.nil_ (B : Nat) (w : World) : MadeL B none 0 [] w := ⟨own_nil _ _ _ _, (fun i x hx => by simp at hx), Nat.le_refl _⟩
/-- One element, just laid. -/
theorem row_new1 {α : Type} {c : α → List Value} {size : Nat} {t : TypeId} {w : World} {B : Nat} (x : α) (hB : w.heap.size < B) : RowOf c size (w.alloc (.cells (c x).toArray t)) B (some ⟨w.heap.size, 0, none⟩) [x] := by
  intro i y hy
  have hi : i = 0 := by
    have := (List.getElem?_eq_some_iff.1 hy).1
    simpa using this
  subst hi
  simp at hy; subst hy
  refine ⟨_, rfl, hB, fun j u hu => ?_⟩
  rw [add_plain, (Blk.new w t (c x).toArray).cell]
  simpa using hu
/-- The state of Parse: the order and the error in the blocks behind w's, the Reader, the lines so far. -/
structure PS (w : World) (r : Nat) (G : Option Nat) (id : Int) (v : Value) (ls : List Ln) (m : List Int) (wr : World) : Prop where
  hp : Blk wr w.heap.size 25 #[.int .u32 id, v]
  hq : Blk wr (w.heap.size + 1) 29 #[.int .i64 0]
  hv : wr.ownsRow w.heap.size 51 3 v ls.length (ls.flatMap cL)
  hr : Rd r G m wr
  hb : Below w.heap.size w wr
  hg : w.heap.size ≤ r ∧ ∀ g, G = some g → w.heap.size ≤ g
section
variable {w wr wq w' : World} {r : Nat} {G : Option Nat} {id : Int} {v : Value} {ls : List Ln} {m m' : List Int}
theorem PS.same (h : PS w r G id v ls m wr) (k : Same wr wq) : PS w r G id v ls m wq := by
  have f := k.fr0
  exact ⟨h.hp.fr f (fun h => h), h.hq.fr f (fun h => h), own_fr h.hv f (fun _ _ h => h), h.hr.fr0 f, h.hb.trans (k.below (Below.refl _ _)), h.hg⟩
theorem PS.read (h : PS w r G id v ls m wr) (H1 : Rd r G m' w') (H2 : Fr1 r wr w') : PS w r G id v ls m' w' := by
  obtain ⟨o, c, cells, hb, _⟩ := h.hr
  exact ⟨h.hp.fr H2 (h.hp.ne_ hb (by decide)), h.hq.fr H2 (h.hq.ne_ hb (by decide)), own_fr h.hv H2 (fun j e e' => own_blk_ne h.hv hb (by decide) (e' ▸ e)), H1, below_fr h.hb H2 h.hb.size (fun j e => by have := h.hg.1; omega), h.hg⟩
theorem PS.cell (h : PS w r G id v ls m wr) : wr.cell? ⟨w.heap.size, 1, none⟩ = some v := h.hp.cell 1
theorem PS.u16 (hs : Same wr wq) (h : PS w r G id v ls m wr) (hl : 2 ≤ m.length) (hb : InB m) (hm : m.drop 2 = m') :
    Calls Tryd.prog 41 #[.pointer (some ⟨r, 0, none⟩)] wq fun e w' => e = .returned (.tuple #[.int .u16 (num (m.take 2)), .int .i64 0]) ∧ Hid (PS w r G id v ls m' w') := by
  subst hm
  refine (RU16_ok (h.same hs).hr hl hb).mono ?_
  rintro e w' ⟨rfl, H1, H2⟩
  exact ⟨rfl, Lib.hid ((h.same hs).read H1.out H2.out)⟩
theorem PS.u16s (hs : Same wr wq) (h : PS w r G id v ls m wr) (hl : m.length < 2) :
    Calls Tryd.prog 41 #[.pointer (some ⟨r, 0, none⟩)] wq fun e w' => e = .returned (.tuple #[.int .u16 0, .int .i64 2]) ∧ Hid (PS w r G id v ls m w') := by
  refine (RU16_short (h.same hs).hr hl).mono ?_
  rintro e w' ⟨rfl, rfl⟩
  exact ⟨rfl, Lib.hid (h.same hs)⟩
theorem PS.alloc (h : PS w r G id v ls m wr) (o : Obj) : PS w r G id v ls m (wr.alloc o) := by
  have f := (Fr.refl (fun _ => False) wr).alloc o
  exact ⟨h.hp.alloc _, h.hq.alloc _, own_fr h.hv f (fun _ _ h => h), h.hr.fr0 f, h.hb.alloc h.hb.size _, h.hg⟩
/-- The ID is laid. -/
theorem PS.setid (h : PS w r G id v ls m wr) (n : Int) : PS w r G n v ls m (wr.setCell ⟨w.heap.size, 0, none⟩ (.int .u32 n)) := by
  obtain ⟨o, c, cells, hb, hb2, hb3, hb4, hb5⟩ := h.hr
  have hne : r ≠ w.heap.size := fun e => Blk.ne_ h.hp hb (by decide) e.symm
  have hF : Fr (fun k => k = w.heap.size) wr (wr.setCell ⟨w.heap.size, 0, none⟩ (.int .u32 n)) := (Fr.refl (fun k => k = w.heap.size) wr).setCell (p := ⟨w.heap.size, 0, none⟩) (fun _ => rfl) _
  exact ⟨by simpa using h.hp.set_ 0 (.int .u32 n), h.hq.far (by simp) _, own_fr h.hv hF (fun j e e' => own_blk_ne h.hv h.hp (by decide) (e' ▸ e)), h.hr.fr hF hne (fun g e e' => Blk.ne_ h.hp (hb4 g e).1 (by decide) e'.symm), below_fr h.hb hF h.hb.size (fun j e => by omega), h.hg⟩
/-- A line is appended, and the row is laid into the order. -/
theorem PS.app {v2 : Value} {ls2 : List Ln} (h : PS w r G id v ls m wr) (h3 : w'.ownsRow w.heap.size 51 3 v2 ls2.length (ls2.flatMap cL)) (h4 : Fr (fun k => v.ownBlock = some k) wr w') (h5 : ∀ k, v2.ownBlock = some k → v.ownBlock = some k ∨ wr.heap.size ≤ k) :
    PS w r G id v2 ls2 m (w'.setCell ⟨w.heap.size, 1, none⟩ v2) := by
  obtain ⟨o, c, cells, hb, hb2, hb3, hb4, hb5⟩ := h.hr
  have hr0 : Rd r G m wr := ⟨o, c, cells, hb, hb2, hb3, hb4, hb5⟩
  have hp' : Blk w' w.heap.size 25 #[.int .u32 id, v] := h.hp.fr h4 (fun e => own_blk_ne h.hv h.hp (by decide) e)
  have hrd : Rd r G m w' := hr0.fr h4 (fun e => own_blk_ne h.hv hb (by decide) e) (fun g e e' => own_blk_ne h.hv (hb4 g e).1 (by decide) e')
  have hne : r ≠ w.heap.size := fun e => Blk.ne_ h.hp hb (by decide) e.symm
  have hF : Fr (fun k => k = w.heap.size) w' (w'.setCell ⟨w.heap.size, 1, none⟩ v2) := (Fr.refl (fun k => k = w.heap.size) w').setCell (p := ⟨w.heap.size, 1, none⟩) (fun _ => rfl) _
  refine ⟨by simpa using hp'.set_ 1 v2, (h.hq.fr h4 (fun e => own_blk_ne h.hv h.hq (by decide) e)).far (by simp) _, own_fr h3 hF (fun j e e' => own_blk_ne h3 hp' (by decide) (e' ▸ e)), hrd.fr hF hne (fun g e e' => ?_), ?_, h.hg⟩
  · have := h.hg.2 g e
    exact Blk.ne_ h.hp (hb4 g e).1 (by decide) e'.symm
  · exact below_fr (below_fr h.hb h4 h.hb.size (fun j e => (h.hv.lt j e).1)) hF (Nat.le_trans h.hb.size h4.size) (fun j e => by omega)
end
theorem one_ln (y : Ln) : ∀ u ∈ cL y, u.oneCell' = true := by
  intro u hu
  simp only [cL, List.mem_cons, List.not_mem_nil, or_false] at hu
  rcases hu with rfl | rfl | rfl <;> rfl
/-- A call of a Go function: a step of a region that draws its order. -/
theorem stepCall {P : Program} {ops : Array Oper} {o : Oper} {a : Act} {w w1 : World} {K : Act → World → Prop} {Q : Exit → Act → World → Prop} {E : Prop} {f : FuncId} {args : Array Value} {R : Ending → World → Prop} (hgd : o.guard = none)
    (hrun : (execOp a.eval o).run P w = .ok (.enter f args) w1) (hc : Calls P f args w1 R) (h : ∀ e w2, R e w2 → ∃ v, e = .returned v ∧ K (a.put o.dst v) w2) :
    if Region.wanted o (yielded ops a.tmps) = true then Oper.wp P o a w K Q else E := by
  have hw : Region.wanted o (yielded ops a.tmps) = true := by simp [Region.wanted, hgd]
  rw [if_pos hw]
  unfold Oper.wp
  rw [hrun]
  refine Calls.mono hc (fun e w2 hr => ?_)
  obtain ⟨v, rfl, hk⟩ := h e w2 hr
  exact hk
theorem enter_U16 (args : Array Value) (W : World) : (callFunc 41 args).run Tryd.prog W = .ok (.enter 41 args) W := rfl
theorem enter_must16 (args : Array Value) (W : World) : (callFunc 40 args).run Tryd.prog W = .ok (.enter 40 args) W := rfl
theorem run_call_U16 {ρ : Operand → Value} {s : Nat} {v : Value} {ts : Array TypeId} {W : World} {o : Oper} (ho : o.op = .call { callee := .value (.func 41), args := #[.tmp s], argTypes := ts }) (e : ρ (.tmp s) = v) (hf : ρ (.func 41) = .func (.func 41) #[] #[] := by rfl) : (execOp ρ o).run Tryd.prog W = .ok (.enter 41 #[v]) W := by
  rw [← enter_U16]
  simp [execOp, ho, e, hf, go_sem, resolve, invoke]
theorem run_call_must16 {ρ : Operand → Value} {s t : Nat} {v u : Value} {ts : Array TypeId} {W : World} {o : Oper} (ho : o.op = .call { callee := .value (.func 40), args := #[.tmp s, .tmp t], argTypes := ts }) (e : ρ (.tmp s) = v) (e2 : ρ (.tmp t) = u) (hf : ρ (.func 40) = .func (.func 40) #[] #[] := by rfl) : (execOp ρ o).run Tryd.prog W = .ok (.enter 40 #[v, u]) W := by
  rw [← enter_must16]
  simp [execOp, ho, e, e2, hf, go_sem, resolve, invoke]
/-- A line is appended: a step of a region that draws its order. -/
theorem PS.step1 {ops : Array Oper} {o : Oper} {a : Act} {K : Act → World → Prop} {Q : Exit → Act → World → Prop} {E : Prop} {w wr : World} {r : Nat} {G : Option Nat} {id : Int} {VA : Option Addr} {vc : Nat} {ls : List Ln} {m : List Int} (hgd : o.guard = none) (s x : Operand)
    (ho : o.op = .call { callee := .builtin .append, args := #[s, x], argTypes := #[23, 23] }) (y : Ln) (h : PS w r G id (.slice VA ls.length vc) ls m wr) (hl : ls.length ≤ 1000)
    (hs : a.eval s = .slice VA ls.length vc) (hx : a.eval x = .slice (some ⟨wr.heap.size, 0, none⟩) 1 1)
    (hk : ∀ A2 c2 w2, Hid (PS w r G id (.slice A2 (ls ++ [y]).length c2) (ls ++ [y]) m (w2.setCell ⟨w.heap.size, 1, none⟩ (.slice A2 (ls ++ [y]).length c2))) → w2.cell? ⟨w.heap.size, 1, none⟩ = some (.slice VA ls.length vc) → w2.frozen? ⟨w.heap.size, 1, none⟩ = false → K (a.put o.dst (.slice A2 (ls ++ [y]).length c2)) w2) :
    if Region.wanted o (yielded ops a.tmps) = true then Oper.wp Tryd.prog o a (wr.alloc (.cells (lvs y) 51)) K Q else E := by
  refine stepR (c := cL) hgd s x 23 ho 51 (.agg #[.int .u16 0, .int .u16 0, .int .i64 0]) 3 16 Tryd.underlying23 info_ln rfl (by omega) (by omega) (fun _ => rfl) one_ln w.heap.size (wr.heap.size + 1) (.slice VA ls.length vc) ls [y] _ _ hs hx (row_new1 y (Nat.lt_succ_self _)) (h.alloc _).hv (h.alloc _).hb.size (by simp; omega) ?_
  intro v2 w2 h3 h4 h5
  obtain ⟨A2, c2, rfl, hc2⟩ := own_form h3
  have hp2 := (h.alloc _).hp.fr h4 (fun e => own_blk_ne (h.alloc (.cells (lvs y) 51)).hv (h.alloc (.cells (lvs y) 51)).hp (by decide) e)
  exact hk A2 c2 w2 (Lib.hid ((h.alloc _).app h3 h4 h5)) (hp2.cell 1) (hp2.frozen 1)
end Go.Proofs.YtigknfkkegccgaaDoor.K
