/- Texts of this claim in one, 3 of 3, each with its own head. -/
import Derived.Test.YtigknfkkegccgaaDoorZ2
import Derived.Deep.Light
import Derived.Deep.CutRange
import Derived.Deep.CutBlock
import Derived.BigQuiet
/- The document's Book: Add, its region that draws its order. -/
namespace Go.Proofs.YtigknfkkegccgaaDoor.K
open Go.RowKit
set_option linter.unusedVariables false
set_option linter.unusedSimpArgs false
attribute [local go_sem ↓] Go.wp_at_zero Go.wp_at_succ
/-- The fixed things. -/
structure BP where
  w : World
  B : Nat
  r : Nat
  LA : Option Addr
  lc : Nat
  vO : Value
  os : List So
  fl : List Bool
  id : Int
  A : Option Addr
  c : Nat
  ls : List Ln
  q : Nat
/-- What holds until the store. -/
structure BW (p : BP) (w' : World) : Prop where
  bk0 : RBk p.B p.r (.slice p.LA p.os.length p.lc) p.vO p.os p.fl p.w
  row0 : RowOf cL 3 p.w p.w.heap.size p.A p.ls
  box : Blk w' p.q 25 #[.int .u32 p.id, .slice p.A p.ls.length p.c]
  fr : Fr0 p.w w'
  q : p.w.heap.size ≤ p.q
theorem BW.bk {p : BP} {w' : World} (h : BW p w') : RBk p.B p.r (.slice p.LA p.os.length p.lc) p.vO p.os p.fl w' := h.bk0.fr h.fr (fun _ _ _ h => h)
theorem BW.row {p : BP} {w' : World} (h : BW p w') : RowOf cL 3 w' w'.heap.size p.A p.ls := RowOf.now h.row0 h.fr.below0
theorem BW.put {p : BP} {S : Nat → Prop} {w1 w2 : World} (h : BW p w1) (k : Fr S w1 w2) (hs : ∀ j, S j → p.w.heap.size ≤ j) (hq : ¬ S p.q) : BW p w2 :=
  ⟨h.bk0, h.row0, h.box.fr k hq, h.fr.trans k (fun j hj e => absurd (hs j e) (by omega)), h.q⟩
theorem BW.next {p : BP} {w1 w2 : World} (h : BW p w1) (k : Fr0 w1 w2) : BW p w2 := h.put k (fun _ h => h.elim) (fun h => h)
/-- The copy of the row of orders, beside all that. -/
structure BC (p : BP) (v : Value) (w' : World) : Prop where
  b : BW p w'
  copy : w'.ownsRow p.w.heap.size 25 2 v p.os.length (p.os.flatMap cO)
  ne : ∀ k, v.ownBlock = some k → p.q < k
theorem BC.next {p : BP} {v : Value} {w1 w2 : World} (h : BC p v w1) (k : Fr0 w1 w2) : BC p v w2 := ⟨h.b.next k, own_fr h.copy k (fun _ _ h => h), h.ne⟩
theorem own0 (W : World) {B : Nat} (hB : B ≤ W.heap.size) : (W.alloc (.cells #[] 25)).ownsRow B 25 2 (.slice (some ⟨W.heap.size, 0, none⟩) 0 0) 0 ([] : List Value) :=
  World.ownsRow_lit (base := B) (e := 25) (size := 2) W #[] 0 hB (by decide) rfl
theorem run_row0 {ρ : Operand → Value} {W : World} {o : Oper} (ho : o.op = .buildSlice 43 0 #[]) : (execOp ρ o).run Tryd.prog W = .ok (.value (.slice (some ⟨W.heap.size, 0, none⟩) 0 0)) (W.alloc (.cells #[] 25)) := by
  simp [execOp, ho, go_sem]
/-- The copy is made: a step of a region that draws its order. -/
theorem BW.copy {ops : Array Oper} {o : Oper} {a : Act} {K : Act → World → Prop} {Q : Exit → Act → World → Prop} {E : Prop} {p : BP} {W : World} (hgd : o.guard = none) (s x : Operand)
    (ho : o.op = .call { callee := .builtin .append, args := #[s, x], argTypes := #[43, 43] }) (h : BW p W) (hl : p.os.length ≤ 100000)
    (hs : a.eval s = .slice (some ⟨W.heap.size, 0, none⟩) 0 0) (hx : a.eval x = .slice p.LA p.os.length p.lc)
    (hk : ∀ v w2, BC p v w2 → K (a.put o.dst v) w2) :
    if Region.wanted o (yielded ops a.tmps) = true then Oper.wp Tryd.prog o a (W.alloc (.cells #[] 25)) K Q else E := by
  have hf : Fr0 W (W.alloc (.cells #[] 25)) := (Fr.refl (fun _ => False) W).alloc _
  have h' := h.next hf
  refine stepR (c := cO) hgd s x 43 ho 25 (.agg #[.int .u32 0, .slice none 0 0]) 2 32 Tryd.underlying43 info_or rfl (by omega) (by omega) (fun _ => rfl) one_or p.w.heap.size (W.alloc (.cells #[] 25)).heap.size (.slice (some ⟨W.heap.size, 0, none⟩) 0 0) [] p.os p.LA p.lc hs hx (row_own (c := cO) (fun _ => rfl) h'.bk.rowL) (own0 W h.fr.size) h'.fr.size (by simp; omega) ?_
  intro v2 w2 h3 h4 h5
  rw [List.nil_append] at h3
  have hq := h.box.lt
  refine hk v2 w2 ⟨h.next (hf.trans h4 (fun j hj e => ?_)), h3, fun k hk => ?_⟩
  · simp [Value.ownBlock] at e; omega
  · rcases h5 k hk with e | e
    · simp [Value.ownBlock] at e; omega
    · simp at e; omega
/-- An order is appended to the copy. -/
theorem BC.step {ops : Array Oper} {o : Oper} {a : Act} {K : Act → World → Prop} {Q : Exit → Act → World → Prop} {E : Prop} {p : BP} {v : Value} {W : World} {A' : Option Addr} {c' : Nat} (hgd : o.guard = none) (s x : Operand)
    (ho : o.op = .call { callee := .builtin .append, args := #[s, x], argTypes := #[43, 43] }) (h : BC p v W) (hm : MadeL p.w.heap.size A' c' p.ls W) (hl : p.os.length ≤ 100000)
    (hs : a.eval s = v) (hx : a.eval x = .slice (some ⟨W.heap.size, 0, none⟩) 1 1)
    (hk : ∀ A2 c2 w2, BW p w2 → MadeL p.w.heap.size A' c' p.ls w2 → w2.ownsRow p.w.heap.size 25 2 (.slice A2 (p.os.length + 1) c2) (p.os.length + 1) ((p.os ++ [(⟨p.id, A', c', p.ls⟩ : So)]).flatMap cO) → K (a.put o.dst (.slice A2 (p.os.length + 1) c2)) w2) :
    if Region.wanted o (yielded ops a.tmps) = true then Oper.wp Tryd.prog o a (W.alloc (.cells #[.int .u32 p.id, .slice A' p.ls.length c'] 25)) K Q else E := by
  have hf : Fr0 W (W.alloc (.cells #[.int .u32 p.id, .slice A' p.ls.length c'] 25)) := (Fr.refl (fun _ => False) W).alloc _
  have h' := h.next hf
  have hm' := hm.fr hf (fun _ _ h => h)
  refine stepR (c := cO) hgd s x 43 ho 25 (.agg #[.int .u32 0, .slice none 0 0]) 2 32 Tryd.underlying43 info_or rfl (by omega) (by omega) (fun _ => rfl) one_or p.w.heap.size (W.heap.size + 1) v p.os [⟨p.id, A', c', p.ls⟩] _ _ hs hx (row_new1 (c := cO) (⟨p.id, A', c', p.ls⟩ : So) (Nat.lt_succ_self _)) h'.copy h'.b.fr.size (by simp; omega) ?_
  intro v2 w2 h3 h4 h5
  rw [List.length_append, List.length_singleton] at h3
  obtain ⟨A2, c2, rfl, hc2⟩ := own_form h3
  exact hk A2 c2 w2 (h'.b.put h4 (fun j e => (h'.copy.lt j e).1) (fun e => Nat.lt_irrefl _ (h'.ne _ e))) (hm'.fr h4 (fun j e e' => own_ne hm'.1 h'.copy (by decide) j e e')) h3
def bPh (p : BP) (f : Nat → Value) (w' : World) : Nat → Prop
  | 0 => BW p w'
  | 1 => ∃ W, w' = W.alloc (.cells #[] 25) ∧ BW p W ∧ f 1 = .slice (some ⟨W.heap.size, 0, none⟩) 0 0
  | 2 => BC p (f 6) w'
  | 3 => BC p (f 6) w' ∧ ∃ A' c', f 8 = .agg #[.int .u32 p.id, .slice A' p.ls.length c'] ∧ MadeL p.w.heap.size A' c' p.ls w'
  | 4 => ∃ W A' c', w' = W.alloc (.cells #[.int .u32 p.id, .slice A' p.ls.length c'] 25) ∧ BC p (f 6) W ∧ MadeL p.w.heap.size A' c' p.ls W ∧ f 9 = .slice (some ⟨W.heap.size, 0, none⟩) 1 1
  | 5 => ∃ A' c' A2 c2, f 10 = .slice A2 (p.os.length + 1) c2 ∧ BW p w' ∧ MadeL p.w.heap.size A' c' p.ls w' ∧ w'.ownsRow p.w.heap.size 25 2 (.slice A2 (p.os.length + 1) c2) (p.os.length + 1) ((p.os ++ [(⟨p.id, A', c', p.ls⟩ : So)]).flatMap cO)
  | _ => ∃ W A' c' A2 c2, w' = W.setCell ⟨p.r, 0, none⟩ (.slice A2 (p.os.length + 1) c2) ∧ BW p W ∧ MadeL p.w.heap.size A' c' p.ls W ∧ W.ownsRow p.w.heap.size 25 2 (.slice A2 (p.os.length + 1) c2) (p.os.length + 1) ((p.os ++ [(⟨p.id, A', c', p.ls⟩ : So)]).flatMap cO)
def bV (p : BP) : Nat → Option Value
  | 0 => some (.pointer (some ⟨p.r, 0, none⟩))
  | 2 => some (.pointer (some ⟨p.r, 0, none⟩))
  | 3 => some (.pointer (some ⟨p.r, 0, none⟩))
  | 4 => some (.pointer (some ⟨p.r, 0, none⟩))
  | 5 => some (.slice p.LA p.os.length p.lc)
  | 7 => some (.agg #[.int .u32 p.id, .slice p.A p.ls.length p.c])
  | 11 => some (.pointer (some ⟨p.r, 0, none⟩))
  | 12 => some (.pointer (some ⟨p.r, 0, none⟩))
  | _ => none
def bR (p : BP) (a0 : Act) : RG := ⟨44, 13, 68, a0, bV p, [1, 6, 8, 9, 10, 13], [(2, 5), (3, 7)], bPh p⟩
theorem bLoc (p : BP) (a0 : Act) : ∀ f g w k, (∀ j ∈ (bR p a0).tr, f j = g j) → (bR p a0).Ph f w k → (bR p a0).Ph g w k := by
  intro f g w k h hp
  have h1 := h 1 (by simp [bR])
  have h6 := h 6 (by simp [bR])
  have h8 := h 8 (by simp [bR])
  have h9 := h 9 (by simp [bR])
  have h10 := h 10 (by simp [bR])
  match k, hp with
  | 0, hp => exact hp
  | 1, ⟨W, e, hp, hf⟩ => exact ⟨W, e, hp, h1 ▸ hf⟩
  | 2, hp => exact (show BC p (g 6) w from h6 ▸ hp)
  | 3, ⟨hp, A', c', hf, hm⟩ => exact ⟨h6 ▸ hp, A', c', h8 ▸ hf, hm⟩
  | 4, ⟨W, A', c', e, hp, hm, hf⟩ => exact ⟨W, A', c', e, h6 ▸ hp, hm, h9 ▸ hf⟩
  | 5, ⟨A', c', A2, c2, hf, hp⟩ => exact ⟨A', c', A2, c2, h10 ▸ hf, hp⟩
  | n + 6, hp => exact hp
end Go.Proofs.YtigknfkkegccgaaDoor.K

/- The document's Book: Add, where it does not add. -/
namespace Go.Proofs.YtigknfkkegccgaaDoor.K
open Go.RowKit
set_option linter.unusedVariables false
set_option linter.unusedSimpArgs false
attribute [local go_sem ↓] Go.wp_at_zero Go.wp_at_succ
set_option maxHeartbeats 1000000 in
set_option maxRecDepth 10000 in
theorem AddRNo {p : Value} {id : Int} {A : Option Addr} {c : Nat} {ls : List Ln} {w : World} (hr : RowOf cL 3 w w.heap.size A ls) (hl : ls.length ≤ 1000) (ho : ∀ l ∈ ls, l.ok) (hn : rightO ls ≠ 0) :
    Calls Tryd.prog 19 #[p, .agg #[.int .u32 id, .slice A ls.length c]] w fun e w' => e = .returned (.int .i64 (rightO ls)) ∧ Hid (Below w.heap.size w w') := by
  have hbl : Below w.heap.size w (w.alloc (.cells #[.int .u32 id, .slice A ls.length c] 25)) := (Below.refl _ w).alloc (Nat.le_refl _) _
  have HBL := Lib.hid hbl
  have HC := Lib.hid (RightRC (id := id) (c := c) (hr.now hbl) (by omega) ho)
  generalize rightO ls = rv at *
  have hz2 : (rv != 0) = true := by simpa using hn
  clear hbl hr ho
  go_enter Tryd.func19, Tryd.ntmps19
  go_wp2_with fail
  refine Calls.mono HC.out ?_
  rintro e w1 ⟨rfl, F1⟩
  go_wp2
  go_ret
  exact ⟨rfl, Lib.hid (HBL.out.trans (F1.out.mono HBL.out.size))⟩
set_option maxHeartbeats 2000000 in
set_option maxRecDepth 10000 in
/-- An ID that was there already. -/
theorem AddRTwice {B r c : Nat} {vL vO : Value} {os : List So} {fl : List Bool} {id : Int} {A : Option Addr} {ls : List Ln} {w : World} (h : RBk B r vL vO os fl w) (hol : os.length ≤ 100000) (hr : RowOf cL 3 w w.heap.size A ls) (hl : ls.length ≤ 1000) (ho : ∀ l ∈ ls, l.ok) (hn : rightO ls = 0) (hm : ∃ o ∈ os, o.id = id) :
    Calls Tryd.prog 19 #[.pointer (some ⟨r, 0, none⟩), .agg #[.int .u32 id, .slice A ls.length c]] w fun e w' => e = .returned (.int .i64 8) ∧ Hid (Below w.heap.size w w') := by
  have hbl : Below w.heap.size w (w.alloc (.cells #[.int .u32 id, .slice A ls.length c] 25)) := (Below.refl _ w).alloc (Nat.le_refl _) _
  have HBL := Lib.hid hbl
  have HN := Lib.hid (Blk.new w 25 #[.int .u32 id, .slice A ls.length c])
  have HK := Lib.hid (h.fr ((Fr.refl (fun _ => False) w).alloc (.cells #[.int .u32 id, .slice A ls.length c] 25)) (fun _ _ _ h => h))
  have HC := Lib.hid (RightRC (id := id) (c := c) (hr.now hbl) (by omega) ho)
  rw [hn] at HC
  obtain ⟨LA, lc, rfl, hlc⟩ := own_form h.rowL
  have HM := Lib.hid hm
  clear hbl hr ho hn h hm
  go_enter Tryd.func19, Tryd.ntmps19
  go_wp2_with fail
  refine Calls.mono HC.out ?_
  rintro e w1 ⟨rfl, F1⟩
  have HK1 := Lib.hid (HK.out.fr (Fr.of_below F1.out) (fun _ _ _ h => h))
  have HN1 := Lib.hid (HN.out.below F1.out HN.out.lt)
  have D1 := Lib.hid (HBL.out.trans (F1.out.mono HBL.out.size))
  clear HK HN HBL F1
  go_wp2
  go_loopw [6] (fun i wr => ∃ k : Nat, i = .int .i64 k ∧ k ≤ os.length ∧ (∀ j (hj : j < os.length), j < k → (os[j]).id ≠ id) ∧ Below w.heap.size w wr ∧ Blk wr w.heap.size 25 #[.int .u32 id, .slice A ls.length c] ∧ RBk B r (.slice LA os.length lc) vO os fl wr) (fun i _ => os.length - (intOf i).toNat)
  case atStart => exact ⟨0, rfl, by omega, fun j _ h => by omega, D1.out, HN1.out, HK1.out⟩
  case round =>
    clear D1 HN1 HK1
    obtain ⟨k, rfl, hk, hno, hf, hbx, hbk⟩ := hrel
    have HNO := Lib.hid hno
    have HF := Lib.hid hf
    have HX := Lib.hid hbx
    have HK := Lib.hid hbk
    have x0 := hbx.cell 0
    have x1 := hbx.cell 1
    have c0 := hbk.blk.cell 0
    clear hno hf hbx
    by_cases hlt : k < os.length
    · obtain ⟨ad, rfl, _, d0, d1⟩ := (row_own (c := cO) (fun _ => rfl) hbk.rowL).so hlt
      have HI2 : Hid ((os[k]).id ≠ id → ∀ j (hj : j < os.length), j < k + 1 → (os[j]).id ≠ id) := Lib.hid (fun h j hj hjk => by
        by_cases e : j = k
        · subst e; exact h
        · exact HNO.out j hj (by omega))
      have HMM : Hid ((os[k]).id = id → ∃ o ∈ os, o.id = id) := Lib.hid (fun h => ⟨_, List.getElem_mem hlt, h⟩)
      clear d1 hbk
      generalize (os[k]).id = x at *
      by_cases hx : x = id
      · subst hx
        clear HI2 HMM
        go_wp2_with fail
        go_region
        go_wp2
        go_ret
        exact ⟨rfl, Lib.hid (below_dr HF.out)⟩
      · have hxb : (x == id) = false := by simpa using hx
        have HI3 := Lib.hid (HI2.out hx)
        clear hx HI2 HMM
        go_wp2_with fail
        go_region
        go_wp2
        go_roundw
        case rel => exact ⟨k + 1, by go_num, by omega, HI3.out, below_dr HF.out, HX.out, HK.out.fr ((Fr.refl (fun _ => False) _).drew) (fun _ _ _ h => h)⟩
        case measure => simp [intOf]; omega
    · obtain rfl : k = os.length := by omega
      exact absurd HM.out (fun ⟨o, ho, e⟩ => by
        obtain ⟨j, hj, rfl⟩ := List.getElem_of_mem ho
        exact HNO.out j hj hj e)
end Go.Proofs.YtigknfkkegccgaaDoor.K

/- The document's Book: Add, where it is full. -/
namespace Go.Proofs.YtigknfkkegccgaaDoor.K
open Go.RowKit
set_option linter.unusedVariables false
set_option linter.unusedSimpArgs false
attribute [local go_sem ↓] Go.wp_at_zero Go.wp_at_succ
set_option maxHeartbeats 2000000 in
set_option maxRecDepth 10000 in
theorem AddRFull {B r c : Nat} {vL vO : Value} {os : List So} {fl : List Bool} {id : Int} {A : Option Addr} {ls : List Ln} {w : World} (h : RBk B r vL vO os fl w) (hol : os.length ≤ 100000) (hr : RowOf cL 3 w w.heap.size A ls) (hl : ls.length ≤ 1000) (ho : ∀ l ∈ ls, l.ok) (hn : rightO ls = 0) (hm : ∀ o ∈ os, o.id ≠ id) (hfull : 16 ≤ (idsR os fl).length ∨ 1024 ≤ os.length) :
    Calls Tryd.prog 19 #[.pointer (some ⟨r, 0, none⟩), .agg #[.int .u32 id, .slice A ls.length c]] w fun e w' => e = .returned (.int .i64 5) ∧ Hid (Below w.heap.size w w') := by
  have hbl : Below w.heap.size w (w.alloc (.cells #[.int .u32 id, .slice A ls.length c] 25)) := (Below.refl _ w).alloc (Nat.le_refl _) _
  have HBL := Lib.hid hbl
  have HN := Lib.hid (Blk.new w 25 #[.int .u32 id, .slice A ls.length c])
  have HK := Lib.hid (h.fr ((Fr.refl (fun _ => False) w).alloc (.cells #[.int .u32 id, .slice A ls.length c] 25)) (fun _ _ _ h => h))
  have HC := Lib.hid (RightRC (id := id) (c := c) (hr.now hbl) (by omega) ho)
  rw [hn] at HC
  obtain ⟨LA, lc, rfl, hlc⟩ := own_form h.rowL
  have HM := Lib.hid hm
  clear hbl hr ho hn h hm
  go_enter Tryd.func19, Tryd.ntmps19
  go_wp2_with fail
  refine Calls.mono HC.out ?_
  rintro e w1 ⟨rfl, F1⟩
  have HK1 := Lib.hid (HK.out.fr (Fr.of_below F1.out) (fun _ _ _ h => h))
  have HN1 := Lib.hid (HN.out.below F1.out HN.out.lt)
  have D1 := Lib.hid (HBL.out.trans (F1.out.mono HBL.out.size))
  clear HK HN HBL F1
  go_wp2
  go_loopw [6] (fun i wr => ∃ k : Nat, i = .int .i64 k ∧ k ≤ os.length ∧ (∀ j (hj : j < os.length), j < k → (os[j]).id ≠ id) ∧ Below w.heap.size w wr ∧ Blk wr w.heap.size 25 #[.int .u32 id, .slice A ls.length c] ∧ RBk B r (.slice LA os.length lc) vO os fl wr) (fun i _ => os.length - (intOf i).toNat)
  case atStart => exact ⟨0, rfl, by omega, fun j _ h => by omega, D1.out, HN1.out, HK1.out⟩
  case round =>
    clear D1 HN1 HK1
    obtain ⟨k, rfl, hk, hno, hf, hbx, hbk⟩ := hrel
    have HNO := Lib.hid hno
    have HF := Lib.hid hf
    have HX := Lib.hid hbx
    have HK := Lib.hid hbk
    have x0 := hbx.cell 0
    have x1 := hbx.cell 1
    have c0 := hbk.blk.cell 0
    clear hno hf hbx
    by_cases hlt : k < os.length
    · obtain ⟨ad, rfl, _, d0, d1⟩ := (row_own (c := cO) (fun _ => rfl) hbk.rowL).so hlt
      have HI2 : Hid ((os[k]).id ≠ id → ∀ j (hj : j < os.length), j < k + 1 → (os[j]).id ≠ id) := Lib.hid (fun h j hj hjk => by
        by_cases e : j = k
        · subst e; exact h
        · exact HNO.out j hj (by omega))
      have HMM : Hid ((os[k]).id = id → ∃ o ∈ os, o.id = id) := Lib.hid (fun h => ⟨_, List.getElem_mem hlt, h⟩)
      clear d1 hbk
      generalize (os[k]).id = x at *
      by_cases hx : x = id
      · exact absurd hx (fun e => by
          obtain ⟨o, ho, e'⟩ := HMM.out e
          exact HM.out o ho e')
      · have hxb : (x == id) = false := by simpa using hx
        have HI3 := Lib.hid (HI2.out hx)
        clear hx HI2 HMM
        go_wp2_with fail
        go_region
        go_wp2
        go_roundw
        case rel => exact ⟨k + 1, by go_num, by omega, HI3.out, below_dr HF.out, HX.out, HK.out.fr ((Fr.refl (fun _ => False) _).drew) (fun _ _ _ h => h)⟩
        case measure => simp [intOf]; omega
    · obtain rfl : k = os.length := by omega
      have HNI : Hid (idsR os fl = idsR os fl) := Lib.hid rfl
      have hil := idsR_len os fl
      have qI := IDsC hbk (by omega)
      clear hbk
      generalize idsR os fl = L at *
      by_cases h16 : 16 ≤ L.length
      all_goals
        go_wp2_with fail
        refine Calls.mono qI ?_
        clear qI
        rintro e w2 ⟨v2, rfl, HO2, F2⟩
        obtain ⟨A2, c2, rfl, -⟩ := own_form HO2.out
        have y0 := (HK.out.fr (Fr.of_below F2.out) (fun _ _ _ h => h)).blk.cell 0
        go_wp2
        go_ret
        exact ⟨rfl, Lib.hid (HF.out.trans (F2.out.mono HF.out.size))⟩
end Go.Proofs.YtigknfkkegccgaaDoor.K

/- The document's Text of an order. -/
namespace Go.Proofs.YtigknfkkegccgaaDoor.K
open Go.RowKit
set_option linter.unusedVariables false
set_option linter.unusedSimpArgs false
attribute [local go_sem ↓] Go.wp_at_zero Go.wp_at_succ
theorem TextD (n : Int) (size : Nat) (w : World) (i : Int) (hi : i = size) (hn0 : 0 ≤ n) (hn1 : n < 4294967296) (hs : size ≤ 100) :
    Calls Tryd.prog 33 #[.int .u32 n, .int .i64 i] w fun e w' => e = .returned (.string (strOfNums (be n size))) ∧ Hid (Below w.heap.size w w') := by
  subst hi
  exact TextC n size w hn0 hn1 hs
set_option maxHeartbeats 4000000 in
set_option maxRecDepth 10000 in
theorem TextO {A : Option Addr} {c : Nat} {id : Int} {ls : List Ln} {w : World} (hr : RowOf cL 3 w w.heap.size A ls) (hid : 0 ≤ id ∧ id < 4294967296) (ho : ∀ l ∈ ls, l.ok) (hn : rightO ls = 0) :
    Calls Tryd.prog 14 #[.agg #[.int .u32 id, .slice A ls.length c]] w fun e w' => e = .returned (.string (strOfNums (bytesO id ls))) ∧ Hid (Below w.heap.size w w') := by
  obtain ⟨hl1, hl2, hlb⟩ := right_lines hn
  have HR := Lib.hid hr
  have HO := Lib.hid ho
  have HLB := Lib.hid hlb
  obtain ⟨id0, id1⟩ := hid
  clear hr ho hlb hn
  have hnI : (ls.length : Int) ≤ 8 := by omega
  have hw8 : IntKind.u32.wrap (ls.length : Int) = (ls.length : Int) := by rw [IntKind.wrap_u32]; omega
  have hbk := Blk.new w 25 #[.int .u32 id, .slice A ls.length c]
  have HBK := Lib.hid hbk
  have HB := Lib.hid ((Below.refl _ w).alloc (Nat.le_refl _) (.cells #[.int .u32 id, .slice A ls.length c] 25))
  clear hbk
  have t0 : Hid True := Lib.hid trivial
  go_enter Tryd.func14, Tryd.ntmps14
  go_wp2_with fail
  go_region_held (fun w' => w'.cell? ⟨w.heap.size, 0, none⟩ = some (.int .u32 id) ∧ w'.cell? ⟨w.heap.size, 1, none⟩ = some (.slice A ls.length c)) ((have h9 := And.intro (HBK.out.cell 0) (HBK.out.cell 1); exact h9)) (first
    | (go_at_call 33; have _t := t0; refine Calls.mono (TextD id 4 _ 4 rfl id0 id1 (by decide)) ?_; rintro e wq ⟨rfl, FQ⟩; have HBK1 := Lib.hid (HBK.out.drew.below FQ.out HBK.out.lt); have HB1 := Lib.hid ((below_dr HB.out).trans (FQ.out.mono HB.out.size)); have t1 := t0; clear t0 HBK HB; have HBK := HBK1; have HB := HB1; clear HBK1 HB1)
    | (go_at_call 33; have _t := t1; refine Calls.mono (TextD (ls.length : Int) 1 _ 1 rfl (by omega) (by omega) (by decide)) ?_; rintro e wq ⟨rfl, FQ⟩; have HBK1 := Lib.hid (HBK.out.below FQ.out HBK.out.lt); have HB1 := Lib.hid (HB.out.trans (FQ.out.mono HB.out.size)); clear t1 HBK HB; have HBK := HBK1; have HB := HB1; clear HBK1 HB1))
  rw [str_append]
  go_wp2
  go_loopw [3, 4] (fun s i wr => ∃ k : Nat, i = .int .i64 k ∧ s = .string (strOfNums (be id 4 ++ be ls.length 1 ++ (ls.take k).flatMap lineB)) ∧ k ≤ ls.length ∧ Blk wr w.heap.size 25 #[.int .u32 id, .slice A ls.length c] ∧ Below w.heap.size w wr) (fun _ i _ => ls.length - (intOf i).toNat)
  case atStart => exact ⟨0, rfl, by simp, by omega, HBK.out, HB.out⟩
  case round =>
    clear HBK HB
    obtain ⟨k, rfl, rfl, hk, hbk, hf⟩ := hrel
    have y1 := hbk.cell 1
    have HBK := Lib.hid hbk
    have HF := Lib.hid hf
    clear hbk hf
    have hpl : (be id 4 ++ be ls.length 1 ++ (ls.take k).flatMap lineB).length ≤ 100 := by rw [List.length_append, List.length_append, be_length, be_length, linesB_len, List.length_take]; omega
    by_cases hlt : k < ls.length
    · obtain ⟨ad, rfl, hb', c0, c1, c2⟩ := (RowOf.below HR.out HF.out).ln hlt
      have hft : be id 4 ++ be ls.length 1 ++ (ls.take (k + 1)).flatMap lineB = (be id 4 ++ be ls.length 1 ++ (ls.take k).flatMap lineB) ++ lineB ls[k] := by rw [flat_take_line ls k hlt, ← List.append_assoc]
      obtain ⟨⟨oi0, oi1⟩, ⟨ol0, ol1⟩, _⟩ := HO.out _ (List.getElem_mem hlt)
      obtain ⟨_, q0, q1⟩ := HLB.out _ (List.getElem_mem hlt)
      have HFT := Lib.hid hft
      clear hft hb'
      generalize be id 4 ++ be ls.length 1 ++ (ls.take k).flatMap lineB = pre at *
      generalize ls[k] = x at *
      obtain ⟨xi, xl, xq⟩ := x
      simp only at oi0 oi1 ol0 ol1 q0 q1 c0 c1 c2
      have hwi : IntKind.u32.wrap xi = xi := by rw [IntKind.wrap_u32]; omega
      have hwl : IntKind.u32.wrap xl = xl := by rw [IntKind.wrap_u32]; omega
      have hwq : IntKind.u32.wrap xq = xq := by rw [IntKind.wrap_u32]; omega
      have s0 : (strOfNums pre).size ≤ 100 := by rw [str_size]; exact hpl
      have s1 : (strOfNums (be xi 2)).size = 2 := by rw [str_size, be_length]
      have s2 : (strOfNums (be xl 2)).size = 2 := by rw [str_size, be_length]
      have s3 : (strOfNums (be xq 2)).size = 2 := by rw [str_size, be_length]
      have hnb := Blk.new wr 51 #[.int .u16 xi, .int .u16 xl, .int .i64 xq]
      have HNB := Lib.hid hnb
      have HBK2 := Lib.hid (HBK.out.alloc (.cells #[.int .u16 xi, .int .u16 xl, .int .i64 xq] 51))
      have HF2 := Lib.hid (HF.out.alloc HF.out.size (.cells #[.int .u16 xi, .int .u16 xl, .int .i64 xq] 51))
      have t0 : Hid True := Lib.hid trivial
      clear hnb hpl HBK HF
      go_wp2_with fail
      go_region_held (fun w' => w'.cell? ⟨wr.heap.size, 0, none⟩ = some (.int .u16 xi) ∧ w'.cell? ⟨wr.heap.size, 1, none⟩ = some (.int .u16 xl) ∧ w'.cell? ⟨wr.heap.size, 2, none⟩ = some (.int .i64 xq)) ((have h9 := And.intro (HNB.out.cell 0) (And.intro (HNB.out.cell 1) (HNB.out.cell 2)); exact h9)) (first
        | (go_at_call 33; have _t := t0; refine Calls.mono (TextD xi 2 _ 2 rfl (by omega) (by omega) (by decide)) ?_; rintro e wq ⟨rfl, FQ⟩; have HNB1 := Lib.hid (HNB.out.drew.below FQ.out HNB.out.lt); have HBK1 := Lib.hid (HBK2.out.drew.below FQ.out HBK2.out.lt); have HF1 := Lib.hid ((below_dr HF2.out).trans (FQ.out.mono HF2.out.size)); have t1 := t0; clear t0 HNB HBK2 HF2; have HNB := HNB1; have HBK2 := HBK1; have HF2 := HF1; clear HNB1 HBK1 HF1)
        | (go_at_call 33; have _t := t1; refine Calls.mono (TextD xl 2 _ 2 rfl (by omega) (by omega) (by decide)) ?_; rintro e wq ⟨rfl, FQ⟩; have HNB1 := Lib.hid (HNB.out.below FQ.out HNB.out.lt); have HBK1 := Lib.hid (HBK2.out.below FQ.out HBK2.out.lt); have HF1 := Lib.hid (HF2.out.trans (FQ.out.mono HF2.out.size)); have t2 := t1; clear t1 HNB HBK2 HF2; have HNB := HNB1; have HBK2 := HBK1; have HF2 := HF1; clear HNB1 HBK1 HF1)
        | (go_at_call 33; have _t := t2; refine Calls.mono (TextD xq 2 _ 2 rfl (by omega) (by omega) (by decide)) ?_; rintro e wq ⟨rfl, FQ⟩; have HNB1 := Lib.hid (HNB.out.below FQ.out HNB.out.lt); have HBK1 := Lib.hid (HBK2.out.below FQ.out HBK2.out.lt); have HF1 := Lib.hid (HF2.out.trans (FQ.out.mono HF2.out.size)); clear t2 HNB HBK2 HF2; have HNB := HNB1; have HBK2 := HBK1; have HF2 := HF1; clear HNB1 HBK1 HF1))
      all_goals
        go_wp2
        go_roundw
        case rel => exact ⟨k + 1, by go_num, by rw [HFT.out]; simp only [str_append, lineB, List.append_assoc], by omega, HBK2.out, HF2.out⟩
        case measure => simp [intOf]; omega
    · obtain rfl : k = ls.length := by omega
      have HBO : Hid (be id 4 ++ be ls.length 1 ++ (ls.take ls.length).flatMap lineB = bytesO id ls) := Lib.hid (by rw [List.take_length]; rfl)
      rw [HBO.out]
      go_wp2
      go_ret
      exact ⟨rfl, HF⟩
end Go.Proofs.YtigknfkkegccgaaDoor.K

/- The document's Parse: a round, whatever its order. -/
namespace Go.Proofs.YtigknfkkegccgaaDoor.K
open Go.RowKit
set_option linter.unusedVariables false
set_option linter.unusedSimpArgs false
attribute [local go_sem ↓] Go.wp_at_zero Go.wp_at_succ
/-- The state: what is told (empty yet), the order so far at q. -/
structure QS (w : World) (q : Nat) (id : Int) (v : Value) (ls : List Ln) (wr : World) : Prop where
  res : Blk wr w.heap.size 25 #[.int .u32 0, .slice none 0 0]
  o : Blk wr q 25 #[.int .u32 id, v]
  hv : wr.ownsRow w.heap.size 51 3 v ls.length (ls.flatMap cL)
  hb : Below w.heap.size w wr
  hq : w.heap.size < q
theorem QS.fr0 {w wr w' : World} {q : Nat} {id : Int} {v : Value} {ls : List Ln} (h : QS w q id v ls wr) (k : Fr0 wr w') : QS w q id v ls w' :=
  ⟨h.res.fr k (fun h => h), h.o.fr k (fun h => h), own_fr h.hv k (fun _ _ h => h), h.hb.trans (k.below0.mono h.hb.size), h.hq⟩
theorem QS.app {w wr w' : World} {q : Nat} {id : Int} {v v2 : Value} {ls ls2 : List Ln} (h : QS w q id v ls wr) (h3 : w'.ownsRow w.heap.size 51 3 v2 ls2.length (ls2.flatMap cL)) (h4 : Fr (fun k => v.ownBlock = some k) wr w') :
    QS w q id v2 ls2 (w'.setCell ⟨q, 1, none⟩ v2) ∧ w'.cell? ⟨q, 1, none⟩ = some v ∧ w'.frozen? ⟨q, 1, none⟩ = false := by
  have ho := h.o.fr h4 (fun e => own_blk_ne h.hv h.o (by decide) e)
  have hr := h.res.fr h4 (fun e => own_blk_ne h.hv h.res (by decide) e)
  have hF : Fr (fun k => k = q) w' (w'.setCell ⟨q, 1, none⟩ v2) := (Fr.refl (fun k => k = q) w').setCell (p := ⟨q, 1, none⟩) (fun _ => rfl) _
  have hq := h.hq
  refine ⟨⟨hr.far (p := ⟨q, 1, none⟩) (by simp only; omega) _, by simpa using ho.set_ 1 v2, own_fr h3 hF (fun j e e' => own_blk_ne h3 ho (by decide) (e' ▸ e)), ?_, hq⟩, ho.cell 1, ho.frozen 1⟩
  exact below_fr (below_fr h.hb h4 h.hb.size (fun j e => (h.hv.lt j e).1)) hF (Nat.le_trans h.hb.size h4.size) (fun j e => by omega)
/-- The fixed things of a round. -/
structure QP where
  w : World
  q : Nat
  id : Int
  VA : Option Addr
  vc : Nat
  ls : List Ln
  b : List Int
  k : Nat
  m : List Int
def qV (p : QP) : Nat → Option Value
  | 0 => some (.pointer (some ⟨p.q, 1, none⟩))
  | 1 => some (.slice p.VA p.ls.length p.vc)
  | 2 => some (.string (strOfNums p.b))
  | 3 => some (.int .i64 p.k)
  | 4 => some (.int .i64 p.k)
  | 5 => some (.int .i64 (p.k + 2))
  | 6 => some (.string (strOfNums (p.m.take 2)))
  | 7 => some (.int .u32 (num (p.m.take 2)))
  | 8 => some (.int .u16 (num (p.m.take 2)))
  | 9 => some (.string (strOfNums p.b))
  | 10 => some (.int .i64 p.k)
  | 11 => some (.int .i64 (p.k + 2))
  | 12 => some (.int .i64 p.k)
  | 13 => some (.int .i64 (p.k + 4))
  | 14 => some (.string (strOfNums ((p.m.drop 2).take 2)))
  | 15 => some (.int .u32 (num ((p.m.drop 2).take 2)))
  | 16 => some (.int .u16 (num ((p.m.drop 2).take 2)))
  | 17 => some (.string (strOfNums p.b))
  | 18 => some (.int .i64 p.k)
  | 19 => some (.int .i64 (p.k + 4))
  | 20 => some (.int .i64 p.k)
  | 21 => some (.int .i64 (p.k + 6))
  | 22 => some (.string (strOfNums ((p.m.drop 4).take 2)))
  | 23 => some (.int .u32 (num ((p.m.drop 4).take 2)))
  | 24 => some (.int .i64 (num ((p.m.drop 4).take 2)))
  | 25 => some (.agg (lvs (lnOf p.m)))
  | 28 => some (.pointer (some ⟨p.q, 1, none⟩))
  | _ => none
def qPh (p : QP) (f : Nat → Value) (w' : World) : Nat → Prop
  | 0 => QS p.w p.q p.id (.slice p.VA p.ls.length p.vc) p.ls w'
  | 1 => ∃ W, w' = W.alloc (.cells (lvs (lnOf p.m)) 51) ∧ QS p.w p.q p.id (.slice p.VA p.ls.length p.vc) p.ls W ∧ f 26 = .slice (some ⟨W.heap.size, 0, none⟩) 1 1
  | 2 => ∃ A2 c2, f 27 = .slice A2 (p.ls ++ [lnOf p.m]).length c2 ∧ w'.cell? ⟨p.q, 1, none⟩ = some (.slice p.VA p.ls.length p.vc) ∧ w'.frozen? ⟨p.q, 1, none⟩ = false ∧ QS p.w p.q p.id (.slice A2 (p.ls ++ [lnOf p.m]).length c2) (p.ls ++ [lnOf p.m]) (w'.setCell ⟨p.q, 1, none⟩ (.slice A2 (p.ls ++ [lnOf p.m]).length c2))
  | _ => ∃ A2 c2, QS p.w p.q p.id (.slice A2 (p.ls ++ [lnOf p.m]).length c2) (p.ls ++ [lnOf p.m]) w'
def qR (p : QP) (a0 : Act) : RG := ⟨40, 29, 76, a0, qV p, [26, 27, 29], [(2, 1)], qPh p⟩
theorem qLoc (p : QP) (a0 : Act) : ∀ f g w k, (∀ j ∈ (qR p a0).tr, f j = g j) → (qR p a0).Ph f w k → (qR p a0).Ph g w k := by
  intro f g w k h hp
  have h26 := h 26 (by simp [qR])
  have h27 := h 27 (by simp [qR])
  match k, hp with
  | 0, hp => exact hp
  | 1, ⟨W, e, hp, hf⟩ => exact ⟨W, e, hp, h26 ▸ hf⟩
  | 2, ⟨A2, c2, hf, hp⟩ => exact ⟨A2, c2, h27 ▸ hf, hp⟩
  | n + 3, hp => exact hp
section
variable {ρ : Operand → Value} {W : World} {o : Oper}
theorem run_add {s : Nat} {x c : Int} (ho : o.op = .binOp .add 3 (.tmp s) (.const (.int .i64 c)) 3) (e : ρ (.tmp s) = .int .i64 x) (h0 : -9223372036854775808 ≤ x + c) (h1 : x + c < 9223372036854775808) (hc : ρ (.const (.int .i64 c)) = .int .i64 c := by rfl) : (execOp ρ o).run Tryd.prog W = .ok (.value (.int .i64 (x + c))) W := by
  have hw : IntKind.i64.wrap (x + c) = x + c := by rw [IntKind.wrap_i64]; omega
  simp [execOp, ho, e, hc, go_sem, hw]
theorem run_cutS {s t u : Nat} {b : List Int} {lo hi : Nat} {il ih : Int} (ho : o.op = .slice 9 (.tmp s) (some (.tmp t)) (some (.tmp u)) none) (e : ρ (.tmp s) = .string (strOfNums b)) (e1 : ρ (.tmp t) = .int .i64 il) (e2 : ρ (.tmp u) = .int .i64 ih) (hl : il = lo) (hh : ih = hi) (h1 : lo ≤ hi) (h2 : hi ≤ b.length) : (execOp ρ o).run Tryd.prog W = .ok (.value (.string (strOfNums ((b.take hi).drop lo)))) W := by
  subst hl hh
  have hs : (strOfNums b).size = b.length := str_size b
  have hc := str_cut b lo hi
  have := run_slice_string_if (P := Tryd.prog) (w := W) 9 (strOfNums b) .i64 .i64 (lo : Int) (hi : Int) Tryd.underlying9
  simp [execOp, ho, e, e1, e2, go_sem, hs, hc, h1, h2]
theorem enter_num (args : Array Value) (W : World) : (callFunc 44 args).run Tryd.prog W = .ok (.enter 44 args) W := rfl
theorem run_call_num {s : Nat} {v : Value} {ts : Array TypeId} (ho : o.op = .call { callee := .value (.func 44), args := #[.tmp s], argTypes := ts }) (e : ρ (.tmp s) = v) (hf : ρ (.func 44) = .func (.func 44) #[] #[] := by rfl) : (execOp ρ o).run Tryd.prog W = .ok (.enter 44 #[v]) W := by
  rw [← enter_num]
  simp [execOp, ho, e, hf, go_sem, resolve, invoke]
theorem run_c16 {s : Nat} {n : Int} (ho : o.op = .convert 22 49 (.tmp s)) (e : ρ (.tmp s) = .int .u32 n) (h0 : 0 ≤ n) (h1 : n < 65536) : (execOp ρ o).run Tryd.prog W = .ok (.value (.int .u16 n)) W := by
  have hw : IntKind.u16.wrap n = n := by rw [IntKind.wrap_u16]; omega
  simp [execOp, ho, e, go_sem, hw]
theorem run_c64 {s : Nat} {n : Int} (ho : o.op = .convert 22 3 (.tmp s)) (e : ρ (.tmp s) = .int .u32 n) (h0 : 0 ≤ n) (h1 : n < 65536) : (execOp ρ o).run Tryd.prog W = .ok (.value (.int .i64 n)) W := by
  have hw : IntKind.i64.wrap n = n := by rw [IntKind.wrap_i64]; omega
  simp [execOp, ho, e, go_sem, hw]
end
end Go.Proofs.YtigknfkkegccgaaDoor.K

/- The document's Parse. -/
namespace Go.Proofs.YtigknfkkegccgaaDoor.K
open Go.RowKit
set_option linter.unusedVariables false
set_option linter.unusedSimpArgs false
attribute [local go_sem ↓] Go.wp_at_zero Go.wp_at_succ
theorem getD_no {l : Array Bool} {j : Nat} (h : l.getD j true = false) : l.getD j false = false := by
  rw [Array.getD_eq_getD_getElem?] at h ⊢
  cases e : l[j]? with
  | none => rfl
  | some b => rw [e] at h; simpa using h
theorem qCell {p : QP} {a0 : Act} {f : Nat → Value} {w' : World} {k : Nat} (h : (qR p a0).Ph f w' k) (hk : k < 2) : w'.cell? ⟨p.q, 1, none⟩ = some (.slice p.VA p.ls.length p.vc) := by
  match k, hk, h with
  | 0, _, h => exact QS.o h |>.cell 1
  | 1, _, ⟨W, e, hp, _⟩ => subst e; exact (hp.o.alloc _).cell 1
/-- A line is appended: a step of a region that draws its order. -/
theorem QS.step1 {ops : Array Oper} {o : Oper} {a : Act} {K : Act → World → Prop} {Q : Exit → Act → World → Prop} {E : Prop} {w wr : World} {q : Nat} {id : Int} {VA : Option Addr} {vc : Nat} {ls : List Ln} (hgd : o.guard = none) (s x : Operand)
    (ho : o.op = .call { callee := .builtin .append, args := #[s, x], argTypes := #[23, 23] }) (y : Ln) (h : QS w q id (.slice VA ls.length vc) ls wr) (hl : ls.length ≤ 1000)
    (hs : a.eval s = .slice VA ls.length vc) (hx : a.eval x = .slice (some ⟨wr.heap.size, 0, none⟩) 1 1)
    (hk : ∀ A2 c2 w2, QS w q id (.slice A2 (ls ++ [y]).length c2) (ls ++ [y]) (w2.setCell ⟨q, 1, none⟩ (.slice A2 (ls ++ [y]).length c2)) → w2.cell? ⟨q, 1, none⟩ = some (.slice VA ls.length vc) → w2.frozen? ⟨q, 1, none⟩ = false → K (a.put o.dst (.slice A2 (ls ++ [y]).length c2)) w2) :
    if Region.wanted o (yielded ops a.tmps) = true then Oper.wp Tryd.prog o a (wr.alloc (.cells (lvs y) 51)) K Q else E := by
  have h' := h.fr0 ((Fr.refl (fun _ => False) wr).alloc (.cells (lvs y) 51))
  refine stepR (c := cL) hgd s x 23 ho 51 (.agg #[.int .u16 0, .int .u16 0, .int .i64 0]) 3 16 Tryd.underlying23 info_ln rfl (by omega) (by omega) (fun _ => rfl) one_ln w.heap.size (wr.heap.size + 1) (.slice VA ls.length vc) ls [y] _ _ hs hx (row_new1 y (Nat.lt_succ_self _)) h'.hv h'.hb.size (by simp; omega) ?_
  intro v2 w2 h3 h4 h5
  obtain ⟨A2, c2, rfl, hc2⟩ := own_form h3
  obtain ⟨q1, q2, q3⟩ := h'.app h3 h4
  exact hk A2 c2 w2 q1 q2 q3
end Go.Proofs.YtigknfkkegccgaaDoor.K

/- The document's Parse: its contract. -/
namespace Go.Proofs.YtigknfkkegccgaaDoor.K
open Go.RowKit
set_option linter.unusedVariables false
set_option linter.unusedSimpArgs false
attribute [local go_sem ↓] Go.wp_at_zero Go.wp_at_succ
theorem nOf_at {b : List Int} (hi : InB b) (h : 5 ≤ b.length) : ((nOf b : Nat) : Int) = b[4] ∧ nOf b < 256 := by
  have h1 : (b.drop 4).take 1 = [b[4]] := by
    rw [List.drop_eq_getElem_cons (by omega)]; rfl
  have h2 := hi _ (List.getElem_mem (show 4 < b.length by omega))
  unfold nOf
  rw [h1]
  have : num [b[4]] = b[4] := by simp [num]
  rw [this]
  omega
theorem qT (p : QP) (a0 : Act) : (qR p a0).s0 + (qR p a0).n ≤ (qR p a0).T := by show 40 + 29 ≤ 76; omega
theorem qLt (p : QP) (a0 : Act) {j : Nat} (h : j < 29) : j < (qR p a0).n := h
theorem qNo (p : QP) (a0 : Act) {j : Nat} (h : j ∉ [26, 27, 29]) : j ∉ (qR p a0).tr := h
theorem qNd (p : QP) (a0 : Act) : (qR p a0).tr.Nodup := by show [26, 27, 29].Nodup; decide
theorem qTr (p : QP) (a0 : Act) : ∀ j ∈ (qR p a0).tr, j < 30 := by show ∀ j ∈ [26, 27, 29], j < 30; decide
theorem qS (p : QP) (a0 : Act) {j : Nat} (h : 40 + j < 76) : (qR p a0).s0 + j < (qR p a0).T := h
theorem shape76 (tm : Array Value) (h : tm.size = 76) : ∃ x0 x1 x2 x3 x4 x5 x6 x7 x8 x9 x10 x11 x12 x13 x14 x15 x16 x17 x18 x19 x20 x21 x22 x23 x24 x25 x26 x27 x28 x29 x30 x31 x32 x33 x34 x35 x36 x37 x38 x39 x40 x41 x42 x43 x44 x45 x46 x47 x48 x49 x50 x51 x52 x53 x54 x55 x56 x57 x58 x59 x60 x61 x62 x63 x64 x65 x66 x67 x68 x69 x70 x71 x72 x73 x74 x75, tm = #[x0, x1, x2, x3, x4, x5, x6, x7, x8, x9, x10, x11, x12, x13, x14, x15, x16, x17, x18, x19, x20, x21, x22, x23, x24, x25, x26, x27, x28, x29, x30, x31, x32, x33, x34, x35, x36, x37, x38, x39, x40, x41, x42, x43, x44, x45, x46, x47, x48, x49, x50, x51, x52, x53, x54, x55, x56, x57, x58, x59, x60, x61, x62, x63, x64, x65, x66, x67, x68, x69, x70, x71, x72, x73, x74, x75] := by
  obtain ⟨l⟩ := tm
  have h0 : l.length = 76 := h
  clear h
  obtain ⟨x0, l0, e0, h1⟩ := cons_len h0
  obtain ⟨x1, l1, e1, h2⟩ := cons_len h1
  obtain ⟨x2, l2, e2, h3⟩ := cons_len h2
  obtain ⟨x3, l3, e3, h4⟩ := cons_len h3
  obtain ⟨x4, l4, e4, h5⟩ := cons_len h4
  obtain ⟨x5, l5, e5, h6⟩ := cons_len h5
  obtain ⟨x6, l6, e6, h7⟩ := cons_len h6
  obtain ⟨x7, l7, e7, h8⟩ := cons_len h7
  obtain ⟨x8, l8, e8, h9⟩ := cons_len h8
  obtain ⟨x9, l9, e9, h10⟩ := cons_len h9
  obtain ⟨x10, l10, e10, h11⟩ := cons_len h10
  obtain ⟨x11, l11, e11, h12⟩ := cons_len h11
  obtain ⟨x12, l12, e12, h13⟩ := cons_len h12
  obtain ⟨x13, l13, e13, h14⟩ := cons_len h13
  obtain ⟨x14, l14, e14, h15⟩ := cons_len h14
  obtain ⟨x15, l15, e15, h16⟩ := cons_len h15
  obtain ⟨x16, l16, e16, h17⟩ := cons_len h16
  obtain ⟨x17, l17, e17, h18⟩ := cons_len h17
  obtain ⟨x18, l18, e18, h19⟩ := cons_len h18
  obtain ⟨x19, l19, e19, h20⟩ := cons_len h19
  obtain ⟨x20, l20, e20, h21⟩ := cons_len h20
  obtain ⟨x21, l21, e21, h22⟩ := cons_len h21
  obtain ⟨x22, l22, e22, h23⟩ := cons_len h22
  obtain ⟨x23, l23, e23, h24⟩ := cons_len h23
  obtain ⟨x24, l24, e24, h25⟩ := cons_len h24
  obtain ⟨x25, l25, e25, h26⟩ := cons_len h25
  obtain ⟨x26, l26, e26, h27⟩ := cons_len h26
  obtain ⟨x27, l27, e27, h28⟩ := cons_len h27
  obtain ⟨x28, l28, e28, h29⟩ := cons_len h28
  obtain ⟨x29, l29, e29, h30⟩ := cons_len h29
  obtain ⟨x30, l30, e30, h31⟩ := cons_len h30
  obtain ⟨x31, l31, e31, h32⟩ := cons_len h31
  obtain ⟨x32, l32, e32, h33⟩ := cons_len h32
  obtain ⟨x33, l33, e33, h34⟩ := cons_len h33
  obtain ⟨x34, l34, e34, h35⟩ := cons_len h34
  obtain ⟨x35, l35, e35, h36⟩ := cons_len h35
  obtain ⟨x36, l36, e36, h37⟩ := cons_len h36
  obtain ⟨x37, l37, e37, h38⟩ := cons_len h37
  obtain ⟨x38, l38, e38, h39⟩ := cons_len h38
  obtain ⟨x39, l39, e39, h40⟩ := cons_len h39
  obtain ⟨x40, l40, e40, h41⟩ := cons_len h40
  obtain ⟨x41, l41, e41, h42⟩ := cons_len h41
  obtain ⟨x42, l42, e42, h43⟩ := cons_len h42
  obtain ⟨x43, l43, e43, h44⟩ := cons_len h43
  obtain ⟨x44, l44, e44, h45⟩ := cons_len h44
  obtain ⟨x45, l45, e45, h46⟩ := cons_len h45
  obtain ⟨x46, l46, e46, h47⟩ := cons_len h46
  obtain ⟨x47, l47, e47, h48⟩ := cons_len h47
  obtain ⟨x48, l48, e48, h49⟩ := cons_len h48
  obtain ⟨x49, l49, e49, h50⟩ := cons_len h49
  obtain ⟨x50, l50, e50, h51⟩ := cons_len h50
  obtain ⟨x51, l51, e51, h52⟩ := cons_len h51
  obtain ⟨x52, l52, e52, h53⟩ := cons_len h52
  obtain ⟨x53, l53, e53, h54⟩ := cons_len h53
  obtain ⟨x54, l54, e54, h55⟩ := cons_len h54
  obtain ⟨x55, l55, e55, h56⟩ := cons_len h55
  obtain ⟨x56, l56, e56, h57⟩ := cons_len h56
  obtain ⟨x57, l57, e57, h58⟩ := cons_len h57
  obtain ⟨x58, l58, e58, h59⟩ := cons_len h58
  obtain ⟨x59, l59, e59, h60⟩ := cons_len h59
  obtain ⟨x60, l60, e60, h61⟩ := cons_len h60
  obtain ⟨x61, l61, e61, h62⟩ := cons_len h61
  obtain ⟨x62, l62, e62, h63⟩ := cons_len h62
  obtain ⟨x63, l63, e63, h64⟩ := cons_len h63
  obtain ⟨x64, l64, e64, h65⟩ := cons_len h64
  obtain ⟨x65, l65, e65, h66⟩ := cons_len h65
  obtain ⟨x66, l66, e66, h67⟩ := cons_len h66
  obtain ⟨x67, l67, e67, h68⟩ := cons_len h67
  obtain ⟨x68, l68, e68, h69⟩ := cons_len h68
  obtain ⟨x69, l69, e69, h70⟩ := cons_len h69
  obtain ⟨x70, l70, e70, h71⟩ := cons_len h70
  obtain ⟨x71, l71, e71, h72⟩ := cons_len h71
  obtain ⟨x72, l72, e72, h73⟩ := cons_len h72
  obtain ⟨x73, l73, e73, h74⟩ := cons_len h73
  obtain ⟨x74, l74, e74, h75⟩ := cons_len h74
  obtain ⟨x75, l75, e75, h76⟩ := cons_len h75
  have e76 := List.eq_nil_of_length_eq_zero h76
  subst e76
  subst e75
  subst e74
  subst e73
  subst e72
  subst e71
  subst e70
  subst e69
  subst e68
  subst e67
  subst e66
  subst e65
  subst e64
  subst e63
  subst e62
  subst e61
  subst e60
  subst e59
  subst e58
  subst e57
  subst e56
  subst e55
  subst e54
  subst e53
  subst e52
  subst e51
  subst e50
  subst e49
  subst e48
  subst e47
  subst e46
  subst e45
  subst e44
  subst e43
  subst e42
  subst e41
  subst e40
  subst e39
  subst e38
  subst e37
  subst e36
  subst e35
  subst e34
  subst e33
  subst e32
  subst e31
  subst e30
  subst e29
  subst e28
  subst e27
  subst e26
  subst e25
  subst e24
  subst e23
  subst e22
  subst e21
  subst e20
  subst e19
  subst e18
  subst e17
  subst e16
  subst e15
  subst e14
  subst e13
  subst e12
  subst e11
  subst e10
  subst e9
  subst e8
  subst e7
  subst e6
  subst e5
  subst e4
  subst e3
  subst e2
  subst e1
  subst e0
  exact ⟨x0, x1, x2, x3, x4, x5, x6, x7, x8, x9, x10, x11, x12, x13, x14, x15, x16, x17, x18, x19, x20, x21, x22, x23, x24, x25, x26, x27, x28, x29, x30, x31, x32, x33, x34, x35, x36, x37, x38, x39, x40, x41, x42, x43, x44, x45, x46, x47, x48, x49, x50, x51, x52, x53, x54, x55, x56, x57, x58, x59, x60, x61, x62, x63, x64, x65, x66, x67, x68, x69, x70, x71, x72, x73, x74, x75, rfl⟩
set_option maxHeartbeats 8000000 in
set_option maxRecDepth 20000 in
theorem RParseC {b : List Int} {w : World} (hi : InB b) (hl : b.length ≤ 1000) :
    Calls Tryd.prog 16 #[.string (strOfNums b)] w fun e w' => ∃ A' c', e = .returned (.tuple #[.agg #[.int .u32 (parseO b).2.1, .slice A' (parseO b).2.2.length c'], .int .i64 (parseO b).1]) ∧ Hid (MadeL w.heap.size A' c' (parseO b).2.2 w') ∧ Hid (Below w.heap.size w w') := by
  have hsz := str_size b
  have HI := Lib.hid hi
  have hbl := Blk.new w 25 #[.int .u32 0, .slice none 0 0]
  have HBL := Lib.hid hbl
  have HD0 := Lib.hid ((Below.refl _ w).alloc (Nat.le_refl _) (.cells #[.int .u32 0, .slice none 0 0] 25))
  clear hbl hi
  have no : ∀ e0, parseO b = (e0, 0, []) → ∃ A' c', Ending.returned (Value.tuple #[.agg #[.int .u32 0, .slice none 0 0], .int .i64 e0]) = .returned (.tuple #[.agg #[.int .u32 (parseO b).2.1, .slice A' (parseO b).2.2.length c'], .int .i64 (parseO b).1]) ∧ Hid (MadeL w.heap.size A' c' (parseO b).2.2 (w.alloc (.cells #[.int .u32 0, .slice none 0 0] 25))) ∧ Hid (Below w.heap.size w (w.alloc (.cells #[.int .u32 0, .slice none 0 0] 25))) := fun e0 h => by
    rw [h]
    exact ⟨none, 0, rfl, Lib.hid (MadeL.nil_ _ _), HD0⟩
  have HNO := Lib.hid no
  clear no
  by_cases h5 : b.length < 5
  · have hp : parseO b = (2, 0, []) := by unfold parseO; rw [if_pos (.inl h5)]
    have HP := Lib.hid hp
    clear hp
    go_enter Tryd.func16, Tryd.ntmps16
    go_wp2
    refine bodyPost_ret_by (results_row_tmp rfl _ _ w.heap.size 25 _ (0, 0) _ rfl HBL.out Tryd.underlying25 rfl (by kernel_rfl)) rfl ?_
    exact HNO.out 2 HP.out
  · obtain ⟨hn4, hn256⟩ := nOf_at HI.out (by omega)
    have hx : ∀ W, (Instr.index 9 (.string (strOfNums b)) (.int .i64 4)).run Tryd.prog W = .ok (.int .u8 (nOf b)) W := fun W => by
      rw [run_index_string _ 9 _ _ _ Tryd.underlying9, dif_pos ⟨by omega, by omega⟩, hn4, ← str_at b 4 (by omega) HI.out (by omega)]
      simp
    have HNN := Lib.hid (rfl : nOf b = nOf b)
    have hm1 : IntKind.i64.wrap (6 * (nOf b : Int)) = 6 * (nOf b : Int) := by rw [IntKind.wrap_i64]; omega
    have hm2 : IntKind.i64.wrap (5 + 6 * (nOf b : Int)) = 5 + 6 * (nOf b : Int) := by rw [IntKind.wrap_i64]; omega
    rcases Nat.lt_trichotomy b.length (5 + 6 * nOf b) with h | h | h
    · have hp : parseO b = (2, 0, []) := by unfold parseO; rw [if_pos (.inr h)]
      have hI : (b.length : Int) < 5 + 6 * (nOf b : Int) := by omega
      have HP := Lib.hid hp
      clear hp
      generalize nOf b = n at *
      go_enter Tryd.func16, Tryd.ntmps16
      go_wp2
      refine bodyPost_ret_by (results_row_tmp rfl _ _ w.heap.size 25 _ (0, 0) _ rfl HBL.out Tryd.underlying25 rfl (by kernel_rfl)) rfl ?_
      exact HNO.out 2 HP.out
    · have hp := parse_full h5 h
      have HP := Lib.hid hp
      have hI1 : (b.length : Int) ≤ 5 + 6 * (nOf b : Int) := by omega
      have hI2 : 5 + 6 * (nOf b : Int) ≤ (b.length : Int) := by omega
      have hI3 : (5 : Int) ≤ (b.length : Int) := by omega
      have hI4 : (b.length : Int) ≤ 1000 := by omega
      have H5 : Hid (¬ b.length < 5) := Lib.hid h5
      have hcut : (strOfNums b).extract 0 4 = strOfNums (b.take 4) := by rw [str_cut]; rfl
      have qN := fun W => NumberC (b.take 4) W (HI.out.take_ 4) (by rw [List.length_take]; omega)
      have hbl5 : 5 ≤ b.length := by omega
      have HLN := Lib.hid h
      clear hp hn4 h5 h
      generalize nOf b = n at *
      go_enter Tryd.func16, Tryd.ntmps16
      go_wp2_with fail
      refine Calls.mono (qN _) ?_
      rintro e w1 ⟨rfl, rfl⟩
      generalize hid : num (b.take 4) = id at *
      have HID := Lib.hid hid
      clear hid qN hcut
      go_wp2
      have hq0 : QS w (w.heap.size + 1) id (.slice none 0 0) [] ((w.alloc (.cells #[.int .u32 0, .slice none 0 0] 25)).alloc (.cells #[.int .u32 id, .slice none 0 0] 25)) := ⟨HBL.out.alloc _, Blk.new_at (by simp), own_nil _ _ _ _, HD0.out.alloc (by simp) _, by omega⟩
      have HQ0 := Lib.hid hq0
      clear hq0
      go_loopw [5] (fun i wr => ∃ (k : Nat) (v : Value), i = .int .i64 ((5 + 6 * k : Nat) : Int) ∧ k ≤ n ∧ QS w (w.heap.size + 1) id v (lnsOf k (b.drop 5)) wr) (fun i _ => b.length - (intOf i).toNat)
      case atStart => exact ⟨0, _, by simp, by omega, HQ0.out⟩
      case round =>
        clear HQ0
        obtain ⟨k, v, rfl, hk, hq⟩ := hrel
        obtain ⟨VA, vc, rfl, hvc⟩ := own_form hq.hv
        have HQ := Lib.hid hq
        clear hq
        have hll : (lnsOf k (b.drop 5)).length ≤ 1000 := by rw [lnsOf_len]; omega
        have HSN := Lib.hid (lnsOf_snoc k (b.drop 5))
        have HKK : Hid (k ≤ n ∧ b.length = 5 + 6 * n) := Lib.hid ⟨hk, HLN.out⟩
        obtain ⟨at9, hat9⟩ : ∃ at9, at9 = 5 + 6 * k := ⟨_, rfl⟩
        have hdd : (b.drop 5).drop (6 * k) = b.drop at9 := by rw [List.drop_drop, hat9]
        have HDD := Lib.hid hdd
        have HAT := Lib.hid hat9
        rw [← hat9]
        by_cases hlt : k < n
        · have hat : at9 + 6 ≤ b.length := by have := HLN.out; omega
          have hatI : (at9 : Int) + 6 ≤ (b.length : Int) := by omega
          obtain ⟨m, hm⟩ : ∃ m, m = b.drop at9 := ⟨_, rfl⟩
          have hml : 6 ≤ m.length := by rw [hm, List.length_drop]; omega
          have hib : InB m := by rw [hm]; exact HI.out.drop_ at9
          have HC1 : Hid ((b.take (at9 + 2)).drop at9 = m.take 2) := Lib.hid (by rw [hm, List.drop_take]; congr 1; omega)
          have HC2 : Hid ((b.take (at9 + 4)).drop (at9 + 2) = (m.drop 2).take 2) := Lib.hid (by rw [hm, List.drop_take, List.drop_drop]; congr 1; omega)
          have HC3 : Hid ((b.take (at9 + 6)).drop (at9 + 4) = (m.drop 4).take 2) := Lib.hid (by rw [hm, List.drop_take, List.drop_drop]; congr 1; omega)
          have HIB7 : Hid (InB (m.take 2)) := Lib.hid (hib.take_ 2)
          have HIB15 : Hid (InB ((m.drop 2).take 2)) := Lib.hid ((hib.drop_ 2).take_ 2)
          have HIB23 : Hid (InB ((m.drop 4).take 2)) := Lib.hid ((hib.drop_ 4).take_ 2)
          have q2 : (256 : Int) ^ 2 = 65536 := by decide
          have HN7 : Hid (0 ≤ num (m.take 2) ∧ num (m.take 2) < 65536) := Lib.hid (by have := num_lt (k := 2) HIB7.out (by rw [List.length_take]; omega); rwa [q2] at this)
          have HN15 : Hid (0 ≤ num ((m.drop 2).take 2) ∧ num ((m.drop 2).take 2) < 65536) := Lib.hid (by have := num_lt (k := 2) HIB15.out (by rw [List.length_take]; omega); rwa [q2] at this)
          have HN23 : Hid (0 ≤ num ((m.drop 4).take 2) ∧ num ((m.drop 4).take 2) < 65536) := Lib.hid (by have := num_lt (k := 2) HIB23.out (by rw [List.length_take]; omega); rwa [q2] at this)
          have HSNM : Hid (lnsOf (k + 1) (b.drop 5) = lnsOf k (b.drop 5) ++ [lnOf m]) := Lib.hid (by rw [HSN.out, HDD.out, hm])
          clear q2 hib hdd hat9 HSN HDD
          generalize lnsOf k (b.drop 5) = ls at *
          have hq9 : ∃ q, q = w.heap.size + 1 := ⟨_, rfl⟩
          go_wp2_with fail
          refine region_inv (fun a0 => RI (qR ⟨w, w.heap.size + 1, id, VA, vc, ls, b, at9, m⟩ a0)) (by kernel_rfl) ?init ?done ?step
          case init => exact RI.init (R := qR ⟨w, w.heap.size + 1, id, VA, vc, ls, b, at9, m⟩ _) rfl (by intro p hp; simp [qR] at hp; subst hp; simp) (HQ.out.fr0 ((Fr.refl (fun _ => False) _).drew))
          case done =>
            rintro listed a w' hsz9 hI hr
            obtain ⟨tm, df⟩ := a
            obtain ⟨x0, x1, x2, x3, x4, x5, x6, x7, x8, x9, x10, x11, x12, x13, x14, x15, x16, x17, x18, x19, x20, x21, x22, x23, x24, x25, x26, x27, x28, x29, x30, x31, x32, x33, x34, x35, x36, x37, x38, x39, x40, x41, x42, x43, x44, x45, x46, x47, x48, x49, x50, x51, x52, x53, x54, x55, x56, x57, x58, x59, x60, x61, x62, x63, x64, x65, x66, x67, x68, x69, x70, x71, x72, x73, x74, x75, rfl⟩ := shape76 tm hI.size
            have hB : ∀ s, s < 40 ∨ 69 ≤ s → slot _ s = slot _ s := hI.base
            obtain ⟨A2, c2, hq2⟩ := hI.all (qTr _ _) (fun j hj => ready_nil hsz9 (by kernel_rfl) hr j hj)
            obtain rfl : df = [] := hI.defs
            obtain rfl : x0 = .string (strOfNums b) := hB 0 (by omega)
            obtain rfl : x1 = undef := hB 1 (by omega)
            obtain rfl : x2 = .pointer (some ⟨w.heap.size, 0, none⟩) := hB 2 (by omega)
            obtain rfl : x3 = .int .i64 0 := hB 3 (by omega)
            obtain rfl : x4 = .pointer (some ⟨w.heap.size + 1, 0, none⟩) := hB 4 (by omega)
            obtain rfl : x5 = .int .i64 ((at9 : Nat) : Int) := hB 5 (by omega)
            obtain rfl : x6 = undef := hB 6 (by omega)
            obtain rfl : x7 = .string (strOfNums b) := hB 7 (by omega)
            obtain rfl : x8 = .int .i64 b.length := hB 8 (by omega)
            obtain rfl : x9 = .bool (decide ((b.length : Int) < 5)) := hB 9 (by omega)
            obtain rfl : x10 = .bool (decide ((b.length : Int) < 5)) := hB 10 (by omega)
            obtain rfl : x11 = .string (strOfNums b) := hB 11 (by omega)
            obtain rfl : x12 = .int .i64 b.length := hB 12 (by omega)
            obtain rfl : x13 = .string (strOfNums b) := hB 13 (by omega)
            obtain rfl : x14 = .int .u8 n := hB 14 (by omega)
            obtain rfl : x15 = .int .i64 n := hB 15 (by omega)
            obtain rfl : x16 = .int .i64 (6 * n) := hB 16 (by omega)
            obtain rfl : x17 = .int .i64 (5 + 6 * n) := hB 17 (by omega)
            obtain rfl : x18 = .bool (decide ((b.length : Int) < 5 + 6 * n)) := hB 18 (by omega)
            obtain rfl : x19 = .bool (decide ((b.length : Int) < 5) || decide ((b.length : Int) < 5 + 6 * n)) := hB 19 (by omega)
            obtain rfl : x20 = undef := hB 20 (by omega)
            obtain rfl : x21 = .string (strOfNums b) := hB 21 (by omega)
            obtain rfl : x22 = .int .i64 b.length := hB 22 (by omega)
            obtain rfl : x23 = .string (strOfNums b) := hB 23 (by omega)
            obtain rfl : x24 = .int .u8 n := hB 24 (by omega)
            obtain rfl : x25 = .int .i64 n := hB 25 (by omega)
            obtain rfl : x26 = .int .i64 (6 * n) := hB 26 (by omega)
            obtain rfl : x27 = .int .i64 (5 + 6 * n) := hB 27 (by omega)
            obtain rfl : x28 = .bool (decide (5 + 6 * (n : Int) < (b.length : Int))) := hB 28 (by omega)
            obtain rfl : x29 = undef := hB 29 (by omega)
            obtain rfl : x30 = .string (strOfNums b) := hB 30 (by omega)
            obtain rfl : x31 = .string (strOfNums (b.take 4)) := hB 31 (by omega)
            obtain rfl : x32 = .int .u32 id := hB 32 (by omega)
            obtain rfl : x33 = .agg #[.int .u32 id, .slice none 0 0] := hB 33 (by omega)
            obtain rfl : x69 = undef := hB 69 (by omega)
            obtain rfl : x70 = undef := hB 70 (by omega)
            obtain rfl : x71 = undef := hB 71 (by omega)
            obtain rfl : x72 = undef := hB 72 (by omega)
            obtain rfl : x73 = undef := hB 73 (by omega)
            obtain rfl : x74 = undef := hB 74 (by omega)
            obtain rfl : x75 = undef := hB 75 (by omega)
            clear hI hr hsz9
            have HQ2 := Lib.hid hq2
            clear hq2
            go_wp2
            go_roundw
            case rel => exact ⟨k + 1, _, by have := HAT.out; go_num, by omega, by rw [HSNM.out]; exact HQ2.out⟩
            case measure => simp [intOf]; omega
          case step =>
            rintro listed a w' hsz9 hI j hj
            have hsz : listed.size = 30 := hsz9
            obtain ⟨hj0, o, ho, hafter⟩ := mem_ready.1 hj
            have hB : ∀ s, s < 40 ∨ 69 ≤ s → slot a s = slot _ s := hI.base
            match j, ho with
            | 0, ho =>
              obtain rfl := Option.some.inj ho
              exact stepV rfl (wanted_none rfl) (run_field1 rfl (hB 4 (by omega))) (hI.stay (qT _ _) (qLoc _ _) (j := 0) (qLt _ _ (by omega)) (qNo _ _ (by decide)) (by omega) (fun u hu => Option.some.inj hu))
            | 1, ho =>
              obtain rfl := Option.some.inj ho
              obtain ⟨k9, hk9, htr9, hneed9, hph9⟩ := hI.ph
              have hn9 : k9 < 2 := by
                rcases Nat.lt_or_ge k9 2 with h | h
                · exact h
                · exact absurd (hneed9 (2, 1) (by simp [qR]) h) (fun h => hfalse hj0 h)
              have hc9 : w'.cell? ⟨w.heap.size + 1, 1, none⟩ = some (.slice VA ls.length vc) := qCell hph9 hn9
              exact stepV rfl (wanted_none rfl) (run_loadL rfl (hI.vals 0 _ rfl (hafter ⟨0, .data⟩ (by simp) rfl)) hc9) (hI.stay (qT _ _) (qLoc _ _) (j := 1) (qLt _ _ (by omega)) (qNo _ _ (by decide)) (by omega) (fun u hu => Option.some.inj hu))
            | 2, ho =>
              obtain rfl := Option.some.inj ho
              exact stepV rfl (wanted_none rfl) (run_move rfl (hB 0 (by omega))) (hI.stay (qT _ _) (qLoc _ _) (j := 2) (qLt _ _ (by omega)) (qNo _ _ (by decide)) (by omega) (fun u hu => Option.some.inj hu))
            | 3, ho =>
              obtain rfl := Option.some.inj ho
              exact stepV rfl (wanted_none rfl) (run_move rfl (hB 5 (by omega))) (hI.stay (qT _ _) (qLoc _ _) (j := 3) (qLt _ _ (by omega)) (qNo _ _ (by decide)) (by omega) (fun u hu => Option.some.inj hu))
            | 4, ho =>
              obtain rfl := Option.some.inj ho
              exact stepV rfl (wanted_none rfl) (run_move rfl (hB 5 (by omega))) (hI.stay (qT _ _) (qLoc _ _) (j := 4) (qLt _ _ (by omega)) (qNo _ _ (by decide)) (by omega) (fun u hu => Option.some.inj hu))
            | 5, ho =>
              obtain rfl := Option.some.inj ho
              exact stepV rfl (wanted_none rfl) (run_add rfl (hI.vals 4 _ rfl (hafter ⟨4, .data⟩ (by simp) rfl)) (by simp only; omega) (by simp only; omega)) (hI.stay (qT _ _) (qLoc _ _) (j := 5) (qLt _ _ (by omega)) (qNo _ _ (by decide)) (by omega) (fun u hu => Option.some.inj hu))
            | 6, ho =>
              obtain rfl := Option.some.inj ho
              refine stepV rfl (wanted_none rfl) (run_cutS (lo := at9) (hi := (at9 + 2)) rfl (hI.vals 2 _ rfl (hafter ⟨2, .data⟩ (by simp) rfl)) (hI.vals 3 _ rfl (hafter ⟨3, .data⟩ (by simp) rfl)) (hI.vals 5 _ rfl (hafter ⟨5, .data⟩ (by simp) rfl)) (by first | rfl | (simp only; omega)) (by first | rfl | (simp only; omega)) (by omega) (by simp only; omega)) ?_
              rw [HC1.out]
              exact hI.stay (qT _ _) (qLoc _ _) (j := 6) (qLt _ _ (by omega)) (qNo _ _ (by decide)) (by omega) (fun u hu => Option.some.inj hu)
            | 7, ho =>
              obtain rfl := Option.some.inj ho
              refine stepC rfl (wanted_none rfl) (run_call_num rfl (hI.vals 6 _ rfl (hafter ⟨6, .data⟩ (by simp) rfl))) (NumberC (m.take 2) _ HIB7.out (by simp only [List.length_take, List.length_drop]; omega)) ?_
              rintro e w2 ⟨rfl, rfl⟩
              exact ⟨_, rfl, hI.stay (qT _ _) (qLoc _ _) (j := 7) (qLt _ _ (by omega)) (qNo _ _ (by decide)) (by omega) (fun u hu => Option.some.inj hu)⟩
            | 8, ho =>
              obtain rfl := Option.some.inj ho
              exact stepV rfl (wanted_none rfl) (run_c16 rfl (hI.vals 7 _ rfl (hafter ⟨7, .data⟩ (by simp) rfl)) HN7.out.1 HN7.out.2) (hI.stay (qT _ _) (qLoc _ _) (j := 8) (qLt _ _ (by omega)) (qNo _ _ (by decide)) (by omega) (fun u hu => Option.some.inj hu))
            | 9, ho =>
              obtain rfl := Option.some.inj ho
              exact stepV rfl (wanted_none rfl) (run_move rfl (hB 0 (by omega))) (hI.stay (qT _ _) (qLoc _ _) (j := 9) (qLt _ _ (by omega)) (qNo _ _ (by decide)) (by omega) (fun u hu => Option.some.inj hu))
            | 10, ho =>
              obtain rfl := Option.some.inj ho
              exact stepV rfl (wanted_none rfl) (run_move rfl (hB 5 (by omega))) (hI.stay (qT _ _) (qLoc _ _) (j := 10) (qLt _ _ (by omega)) (qNo _ _ (by decide)) (by omega) (fun u hu => Option.some.inj hu))
            | 11, ho =>
              obtain rfl := Option.some.inj ho
              exact stepV rfl (wanted_none rfl) (run_add rfl (hI.vals 10 _ rfl (hafter ⟨10, .data⟩ (by simp) rfl)) (by simp only; omega) (by simp only; omega)) (hI.stay (qT _ _) (qLoc _ _) (j := 11) (qLt _ _ (by omega)) (qNo _ _ (by decide)) (by omega) (fun u hu => Option.some.inj hu))
            | 12, ho =>
              obtain rfl := Option.some.inj ho
              exact stepV rfl (wanted_none rfl) (run_move rfl (hB 5 (by omega))) (hI.stay (qT _ _) (qLoc _ _) (j := 12) (qLt _ _ (by omega)) (qNo _ _ (by decide)) (by omega) (fun u hu => Option.some.inj hu))
            | 13, ho =>
              obtain rfl := Option.some.inj ho
              exact stepV rfl (wanted_none rfl) (run_add rfl (hI.vals 12 _ rfl (hafter ⟨12, .data⟩ (by simp) rfl)) (by simp only; omega) (by simp only; omega)) (hI.stay (qT _ _) (qLoc _ _) (j := 13) (qLt _ _ (by omega)) (qNo _ _ (by decide)) (by omega) (fun u hu => Option.some.inj hu))
            | 14, ho =>
              obtain rfl := Option.some.inj ho
              refine stepV rfl (wanted_none rfl) (run_cutS (lo := (at9 + 2)) (hi := (at9 + 4)) rfl (hI.vals 9 _ rfl (hafter ⟨9, .data⟩ (by simp) rfl)) (hI.vals 11 _ rfl (hafter ⟨11, .data⟩ (by simp) rfl)) (hI.vals 13 _ rfl (hafter ⟨13, .data⟩ (by simp) rfl)) (by first | rfl | (simp only; omega)) (by first | rfl | (simp only; omega)) (by omega) (by simp only; omega)) ?_
              rw [HC2.out]
              exact hI.stay (qT _ _) (qLoc _ _) (j := 14) (qLt _ _ (by omega)) (qNo _ _ (by decide)) (by omega) (fun u hu => Option.some.inj hu)
            | 15, ho =>
              obtain rfl := Option.some.inj ho
              refine stepC rfl (wanted_none rfl) (run_call_num rfl (hI.vals 14 _ rfl (hafter ⟨14, .data⟩ (by simp) rfl))) (NumberC ((m.drop 2).take 2) _ HIB15.out (by simp only [List.length_take, List.length_drop]; omega)) ?_
              rintro e w2 ⟨rfl, rfl⟩
              exact ⟨_, rfl, hI.stay (qT _ _) (qLoc _ _) (j := 15) (qLt _ _ (by omega)) (qNo _ _ (by decide)) (by omega) (fun u hu => Option.some.inj hu)⟩
            | 16, ho =>
              obtain rfl := Option.some.inj ho
              exact stepV rfl (wanted_none rfl) (run_c16 rfl (hI.vals 15 _ rfl (hafter ⟨15, .data⟩ (by simp) rfl)) HN15.out.1 HN15.out.2) (hI.stay (qT _ _) (qLoc _ _) (j := 16) (qLt _ _ (by omega)) (qNo _ _ (by decide)) (by omega) (fun u hu => Option.some.inj hu))
            | 17, ho =>
              obtain rfl := Option.some.inj ho
              exact stepV rfl (wanted_none rfl) (run_move rfl (hB 0 (by omega))) (hI.stay (qT _ _) (qLoc _ _) (j := 17) (qLt _ _ (by omega)) (qNo _ _ (by decide)) (by omega) (fun u hu => Option.some.inj hu))
            | 18, ho =>
              obtain rfl := Option.some.inj ho
              exact stepV rfl (wanted_none rfl) (run_move rfl (hB 5 (by omega))) (hI.stay (qT _ _) (qLoc _ _) (j := 18) (qLt _ _ (by omega)) (qNo _ _ (by decide)) (by omega) (fun u hu => Option.some.inj hu))
            | 19, ho =>
              obtain rfl := Option.some.inj ho
              exact stepV rfl (wanted_none rfl) (run_add rfl (hI.vals 18 _ rfl (hafter ⟨18, .data⟩ (by simp) rfl)) (by simp only; omega) (by simp only; omega)) (hI.stay (qT _ _) (qLoc _ _) (j := 19) (qLt _ _ (by omega)) (qNo _ _ (by decide)) (by omega) (fun u hu => Option.some.inj hu))
            | 20, ho =>
              obtain rfl := Option.some.inj ho
              exact stepV rfl (wanted_none rfl) (run_move rfl (hB 5 (by omega))) (hI.stay (qT _ _) (qLoc _ _) (j := 20) (qLt _ _ (by omega)) (qNo _ _ (by decide)) (by omega) (fun u hu => Option.some.inj hu))
            | 21, ho =>
              obtain rfl := Option.some.inj ho
              exact stepV rfl (wanted_none rfl) (run_add rfl (hI.vals 20 _ rfl (hafter ⟨20, .data⟩ (by simp) rfl)) (by simp only; omega) (by simp only; omega)) (hI.stay (qT _ _) (qLoc _ _) (j := 21) (qLt _ _ (by omega)) (qNo _ _ (by decide)) (by omega) (fun u hu => Option.some.inj hu))
            | 22, ho =>
              obtain rfl := Option.some.inj ho
              refine stepV rfl (wanted_none rfl) (run_cutS (lo := (at9 + 4)) (hi := (at9 + 6)) rfl (hI.vals 17 _ rfl (hafter ⟨17, .data⟩ (by simp) rfl)) (hI.vals 19 _ rfl (hafter ⟨19, .data⟩ (by simp) rfl)) (hI.vals 21 _ rfl (hafter ⟨21, .data⟩ (by simp) rfl)) (by first | rfl | (simp only; omega)) (by first | rfl | (simp only; omega)) (by omega) (by simp only; omega)) ?_
              rw [HC3.out]
              exact hI.stay (qT _ _) (qLoc _ _) (j := 22) (qLt _ _ (by omega)) (qNo _ _ (by decide)) (by omega) (fun u hu => Option.some.inj hu)
            | 23, ho =>
              obtain rfl := Option.some.inj ho
              refine stepC rfl (wanted_none rfl) (run_call_num rfl (hI.vals 22 _ rfl (hafter ⟨22, .data⟩ (by simp) rfl))) (NumberC ((m.drop 4).take 2) _ HIB23.out (by simp only [List.length_take, List.length_drop]; omega)) ?_
              rintro e w2 ⟨rfl, rfl⟩
              exact ⟨_, rfl, hI.stay (qT _ _) (qLoc _ _) (j := 23) (qLt _ _ (by omega)) (qNo _ _ (by decide)) (by omega) (fun u hu => Option.some.inj hu)⟩
            | 24, ho =>
              obtain rfl := Option.some.inj ho
              exact stepV rfl (wanted_none rfl) (run_c64 rfl (hI.vals 23 _ rfl (hafter ⟨23, .data⟩ (by simp) rfl)) HN23.out.1 HN23.out.2) (hI.stay (qT _ _) (qLoc _ _) (j := 24) (qLt _ _ (by omega)) (qNo _ _ (by decide)) (by omega) (fun u hu => Option.some.inj hu))
            | 25, ho =>
              obtain rfl := Option.some.inj ho
              exact stepV rfl (wanted_none rfl) (run_buildL (l := lnOf m) rfl (hI.vals 8 _ rfl (hafter ⟨8, .data⟩ (by simp) rfl)) (hI.vals 16 _ rfl (hafter ⟨16, .data⟩ (by simp) rfl)) (hI.vals 24 _ rfl (hafter ⟨24, .data⟩ (by simp) rfl))) (hI.stay (qT _ _) (qLoc _ _) (j := 25) (qLt _ _ (by omega)) (qNo _ _ (by decide)) (by omega) (fun u hu => Option.some.inj hu))
            | 26, ho =>
              obtain rfl := Option.some.inj ho
              obtain ⟨hp9, htr9, hneed9⟩ := hI.at_ (qNd _ _) (j := 26) (k := 0) rfl (getD_no hj0) (fun i h => by omega)
              refine stepV rfl (wanted_none rfl) (run_rowL (l := lnOf m) rfl (hI.vals 25 _ rfl (hafter ⟨25, .data⟩ (by simp) rfl))) ?_
              exact hI.turn (qNd _ _) (qT _ _) (k := 0) rfl (qLt _ _ (by omega)) (by omega) (fun u hu => by cases hu) htr9 hneed9 (fun p hp e => by simp [qR] at hp; subst hp; simp at e) ⟨w', rfl, hp9, slot_newR hI.size (qS _ _ (by omega))⟩
            | 27, ho =>
              obtain rfl := Option.some.inj ho
              have h26 := hafter ⟨26, .data⟩ (by simp) rfl
              have h1l := hafter ⟨1, .data⟩ (by simp) rfl
              obtain ⟨hp9, htr9, hneed9⟩ := hI.at_ (qNd _ _) (j := 27) (k := 1) rfl (getD_no hj0) (fun i h j' hj' => by obtain rfl : i = 0 := (by omega); obtain rfl := Option.some.inj hj'; exact h26)
              obtain ⟨W9, rfl, hq9, hs9⟩ := hp9
              have hv1 := hI.vals 1 _ rfl h1l
              refine stepA rfl (wanted_none rfl) (QS.step1 rfl (.tmp 41) (.tmp 66) rfl (lnOf m) hq9 hll hv1 hs9 ?_)
              intro A2 c2 w2 hq2 hk2 hf2
              exact hI.turn (qNd _ _) (qT _ _) (k := 1) rfl (qLt _ _ (by omega)) (by omega) (fun u hu => by cases hu) htr9 hneed9 (fun p hp e => by simp [qR] at hp; subst hp; exact h1l) ⟨A2, c2, slot_newR hI.size (qS _ _ (by omega)), hk2, hf2, hq2⟩
            | 28, ho =>
              obtain rfl := Option.some.inj ho
              exact stepV rfl (wanted_none rfl) (run_field1 rfl (hB 4 (by omega))) (hI.stay (qT _ _) (qLoc _ _) (j := 28) (qLt _ _ (by omega)) (qNo _ _ (by decide)) (by omega) (fun u hu => Option.some.inj hu))
            | 29, ho =>
              obtain rfl := Option.some.inj ho
              have h27 := hafter ⟨27, .data⟩ (by simp) rfl
              obtain ⟨hp9, htr9, hneed9⟩ := hI.at_ (qNd _ _) (j := 29) (k := 2) rfl (getD_no hj0) (fun i h j' hj' => by obtain rfl : i = 1 := (by omega); obtain rfl := Option.some.inj hj'; exact h27)
              obtain ⟨A2, c2, hs9, hk9, hf9, hq9⟩ := hp9
              refine stepS rfl (wanted_none rfl) rfl (run_storeL rfl (hI.vals 28 _ rfl (hafter ⟨28, .data⟩ (by simp) rfl)) hs9 hk9 hf9) ?_
              exact hI.last (qNd _ _) (k := 2) rfl rfl (by omega) htr9 hneed9 (fun p hp e => by simp [qR] at hp; subst hp; simp at e) ⟨A2, c2, hq9⟩
        · obtain rfl : n = k := by omega
          have hat : at9 = b.length := by rw [HAT.out, HLN.out]
          have hok := lnsOf_ok n (b.drop 5) (HI.out.drop_ 5)
          have HLS := Lib.hid (rfl : lnsOf n (b.drop 5) = lnsOf n (b.drop 5))
          have hpe := HP.out
          clear HSN HDD hdd hat9
          generalize hgl : lnsOf n (b.drop 5) = ls at *
          have HPE := Lib.hid hpe
          have hq1 := HQ.out
          have x0 := hq1.o.cell 0
          have x1 := hq1.o.cell 1
          have hcap : ls.length ≤ vc := hvc
          have qR := RightRC (id := id) (c := vc) (row_own (c := cL) (fun _ => rfl) hq1.hv) (by omega) hok
          have hrg := rightO_range ls
          clear hq1 hpe hgl HLS hok
          subst hat
          generalize rightO ls = rv at *
          go_wp2_with fail
          refine Calls.mono qR ?_
          clear qR
          rintro e w2 ⟨rfl, F2⟩
          have hq2 := HQ.out.fr0 (Fr.of_below F2.out)
          have y0 := hq2.o.cell 0
          have y1 := hq2.o.cell 1
          have u0 := hq2.res.cell 0
          have v0 := hq2.res.frozen 0
          have HQ2 := Lib.hid hq2
          by_cases hz : rv = 0
          · subst hz
            rw [if_pos rfl] at HPE
            have hr1 : Blk (w2.setCell ⟨w.heap.size, 0, none⟩ (.int .u32 id)) w.heap.size 25 #[.int .u32 id, .slice none 0 0] := by simpa using hq2.res.set_ 0 (.int .u32 id)
            have u1 := hr1.cell 1
            have v1 := hr1.frozen 1
            have hr2 : Blk ((w2.setCell ⟨w.heap.size, 0, none⟩ (.int .u32 id)).setCell ⟨w.heap.size, 1, none⟩ (.slice VA ls.length vc)) w.heap.size 25 #[.int .u32 id, .slice VA ls.length vc] := by simpa using hr1.set_ 1 (.slice VA ls.length vc)
            have HR2 := Lib.hid hr2
            have hF : Fr (fun j => j = w.heap.size) w2 ((w2.setCell ⟨w.heap.size, 0, none⟩ (.int .u32 id)).setCell ⟨w.heap.size, 1, none⟩ (.slice VA ls.length vc)) := ((Fr.refl (fun j => j = w.heap.size) w2).setCell (p := ⟨w.heap.size, 0, none⟩) (fun _ => rfl) _).setCell (p := ⟨w.heap.size, 1, none⟩) (fun _ => rfl) _
            have HF := Lib.hid hF
            clear hq2 hr1 hr2 hF
            go_wp2
            refine bodyPost_ret_by (results_row_tmp rfl _ _ w.heap.size 25 _ (0, 0) _ rfl HR2.out Tryd.underlying25 rfl (by kernel_rfl)) rfl ?_
            rw [HPE.out]
            have hml : MadeL w.heap.size VA vc ls w2 := ⟨HQ2.out.hv, row_own (c := cL) (fun _ => rfl) HQ2.out.hv, hcap⟩
            exact ⟨VA, vc, rfl, Lib.hid (hml.fr HF.out (fun j e e' => by subst e'; exact own_blk_ne HQ2.out.hv HQ2.out.res (by decide) e)), Lib.hid (below_fr HQ2.out.hb HF.out HQ2.out.hb.size (fun j e => by omega))⟩
          · rw [if_neg hz] at HPE
            have hz1 : (rv == 0) = false := by simpa using hz
            have hz2 : (rv != 0) = true := by simpa using hz
            have hr1 : Blk (w2.setCell ⟨w.heap.size, 0, none⟩ (.int .u32 0)) w.heap.size 25 #[.int .u32 0, .slice none 0 0] := by simpa using hq2.res.set_ 0 (.int .u32 0)
            have u1 := hr1.cell 1
            have v1 := hr1.frozen 1
            have hr2 : Blk ((w2.setCell ⟨w.heap.size, 0, none⟩ (.int .u32 0)).setCell ⟨w.heap.size, 1, none⟩ (.slice none 0 0)) w.heap.size 25 #[.int .u32 0, .slice none 0 0] := by simpa using hr1.set_ 1 (.slice none 0 0)
            have HR2 := Lib.hid hr2
            have hF : Fr (fun j => j = w.heap.size) w2 ((w2.setCell ⟨w.heap.size, 0, none⟩ (.int .u32 0)).setCell ⟨w.heap.size, 1, none⟩ (.slice none 0 0)) := ((Fr.refl (fun j => j = w.heap.size) w2).setCell (p := ⟨w.heap.size, 0, none⟩) (fun _ => rfl) _).setCell (p := ⟨w.heap.size, 1, none⟩) (fun _ => rfl) _
            have HF := Lib.hid hF
            clear hq2 hr1 hr2 hF
            go_wp2
            refine bodyPost_ret_by (results_row_tmp rfl _ _ w.heap.size 25 _ (0, 0) _ rfl HR2.out Tryd.underlying25 rfl (by kernel_rfl)) rfl ?_
            rw [HPE.out]
            exact ⟨none, 0, rfl, Lib.hid (MadeL.nil_ _ _), Lib.hid (below_fr HQ2.out.hb HF.out HQ2.out.hb.size (fun j e => by omega))⟩
    · have hp : parseO b = (3, 0, []) := by unfold parseO; rw [if_neg (by omega), if_pos h]
      have hI : 5 + 6 * (nOf b : Int) < (b.length : Int) := by omega
      have HP := Lib.hid hp
      clear hp
      generalize nOf b = n at *
      go_enter Tryd.func16, Tryd.ntmps16
      go_wp2
      refine bodyPost_ret_by (results_row_tmp rfl _ _ w.heap.size 25 _ (0, 0) _ rfl HBL.out Tryd.underlying25 rfl (by kernel_rfl)) rfl ?_
      exact HNO.out 3 HP.out
end Go.Proofs.YtigknfkkegccgaaDoor.K

/- OrderTells: a region that draws its order, by a table. -/
namespace Go.Proofs.YtigknfkkegccgaaDoor.K
open Go.RowKit
set_option linter.unusedVariables false
set_option linter.unusedSimpArgs false
attribute [local go_sem ↓] Go.wp_at_zero Go.wp_at_succ
structure TP where
  W : World
  q : Nat
  id : Int
  A : Option Addr
  m : Nat
  c : Nat
  rv : Int
  X : Option Addr
  n : Nat
  xc : Nat
  L : List Int
def tV (p : TP) : Nat → Option Value
  | 0 => some (.agg #[.int .u32 p.id, .slice p.A p.m p.c])
  | 1 => some (.int .i64 p.rv)
  | 2 => some (.int .i64 p.rv)
  | 3 => some (.bool false)
  | 4 => some (.bool false)
  | 5 => some (.int .i64 p.rv)
  | 6 => some (.int .i64 p.rv)
  | 7 => some (.bool false)
  | 8 => some (.bool false)
  | 9 => some (.bool false)
  | 10 => some (.int .i64 p.rv)
  | 11 => some (.bool (p.rv == 0))
  | 12 => some (.bool (p.rv == 0))
  | 13 => if p.rv = 0 then some (.slice p.X p.n p.xc) else none
  | 14 => if p.rv = 0 then some (.string (strOfNums p.L)) else none
  | 15 => if p.rv = 0 then some (.agg #[.int .u32 p.id, .slice p.A p.m p.c]) else none
  | 16 => if p.rv = 0 then some (.string (strOfNums p.L)) else none
  | 17 => if p.rv = 0 then some (.bool false) else none
  | 18 => some (.bool false)
  | 19 => some (.bool false)
  | 20 => some (.bool false)
  | 21 => some (.int .i64 p.rv)
  | 22 => some (.bool (p.rv != 0))
  | 23 => some (.bool (p.rv != 0))
  | 24 => if p.rv = 0 then none else some (.slice p.X p.n p.xc)
  | 25 => if p.rv = 0 then none else some (.int .i64 p.n)
  | 26 => if p.rv = 0 then none else some (.bool false)
  | 27 => some (.bool false)
  | 28 => some (.bool false)
  | _ => none
def tR (p : TP) (a0 : Act) : RG := ⟨38, 29, 101, a0, tV p, [], [], fun _ w' _ => Below p.W.heap.size p.W w'⟩
section
variable {ρ : Operand → Value} {W : World} {o : Oper}
theorem run_neqI {s t : Nat} {x y : Int} {ty tz : TypeId} (ht : Tryd.prog.underlying ty = some (.int .i64)) (ho : o.op = .binOp .neq ty (.tmp s) (.tmp t) tz) (e : ρ (.tmp s) = .int .i64 x) (e2 : ρ (.tmp t) = .int .i64 y) : (execOp ρ o).run Tryd.prog W = .ok (.value (.bool (x != y))) W := by
  simp [execOp, ho, e, e2, go_sem, ht]
theorem run_neqK {s : Nat} {x y : Int} {ty tz : TypeId} (ht : Tryd.prog.underlying ty = some (.int .i64)) (ho : o.op = .binOp .neq ty (.tmp s) (.const (.int .i64 y)) tz) (e : ρ (.tmp s) = .int .i64 x) (hc : ρ (.const (.int .i64 y)) = .int .i64 y := by rfl) : (execOp ρ o).run Tryd.prog W = .ok (.value (.bool (x != y))) W := by
  simp [execOp, ho, e, hc, go_sem, ht]
theorem run_eqK {s : Nat} {x y : Int} {ty tz : TypeId} (ht : Tryd.prog.underlying ty = some (.int .i64)) (ho : o.op = .binOp .eql ty (.tmp s) (.const (.int .i64 y)) tz) (e : ρ (.tmp s) = .int .i64 x) (hc : ρ (.const (.int .i64 y)) = .int .i64 y := by rfl) : (execOp ρ o).run Tryd.prog W = .ok (.value (.bool (x == y))) W := by
  simp [execOp, ho, e, hc, go_sem, ht]
theorem run_neqS {s t : Nat} {x : ByteArray} (ho : o.op = .binOp .neq 9 (.tmp s) (.tmp t) 9) (e : ρ (.tmp s) = .string x) (e2 : ρ (.tmp t) = .string x) : (execOp ρ o).run Tryd.prog W = .ok (.value (.bool false)) W := by
  simp [execOp, ho, e, e2, go_sem, Tryd.underlying9]
theorem run_pickT {s t : Nat} {v : Value} {b : Bool} (ho : o.op = .pick (.tmp s) (.const (.bool true)) (.tmp t)) (e : ρ (.tmp s) = .bool false) (e2 : ρ (.tmp t) = v) (hc : ρ (.const (.bool true)) = .bool true := by rfl) : (execOp ρ o).run Tryd.prog W = .ok (.value v) W := by
  simp [execOp, ho, e, e2, hc, go_sem]
theorem run_pickF {s t : Nat} {v : Value} (ho : o.op = .pick (.tmp s) (.tmp t) (.const (.bool false))) (e : ρ (.tmp s) = .bool true) (e2 : ρ (.tmp t) = v) (hc : ρ (.const (.bool false)) = .bool false := by rfl) : (execOp ρ o).run Tryd.prog W = .ok (.value v) W := by
  simp [execOp, ho, e, e2, hc, go_sem]
theorem run_pickN {s t : Nat} (ho : o.op = .pick (.tmp s) (.tmp t) (.const (.bool false))) (e : ρ (.tmp s) = .bool false) (hc : ρ (.const (.bool false)) = .bool false := by rfl) : (execOp ρ o).run Tryd.prog W = .ok (.value (.bool false)) W := by
  simp [execOp, ho, e, hc, go_sem]
theorem run_lenB {s n c : Nat} {A : Option Addr} {ts : Array TypeId} (ht : ts = #[26]) (ho : o.op = .call { callee := .builtin .len, args := #[.tmp s], argTypes := ts }) (e : ρ (.tmp s) = .slice A n c) : (execOp ρ o).run Tryd.prog W = .ok (.value (.int .i64 n)) W := by
  subst ht
  simp [execOp, ho, e, go_sem, resolve, invoke, builtin, Tryd.underlying26]
theorem run_str {s : Nat} {v u : Value} (ho : o.op = .convert 26 9 (.tmp s)) (e : ρ (.tmp s) = v) (hv : (convert 26 9 v).run Tryd.prog W = .ok u W) : (execOp ρ o).run Tryd.prog W = .ok (.value u) W := by
  simp [execOp, ho, e, hv, go_sem]
theorem run_callF {f : Nat} {s : Nat} {v : Value} {ts : Array TypeId} (hf0 : ∀ (args : Array Value) (W : World), (callFunc f args).run Tryd.prog W = .ok (.enter f args) W) (ho : o.op = .call { callee := .value (.func f), args := #[.tmp s], argTypes := ts }) (e : ρ (.tmp s) = v) (hf : ρ (.func f) = .func (.func f) #[] #[] := by rfl) : (execOp ρ o).run Tryd.prog W = .ok (.enter f #[v]) W := by
  rw [← hf0]
  simp [execOp, ho, e, hf, go_sem, resolve, invoke]
theorem run_loadOr {s p : Nat} {x y : Value} (ho : o.op = .load 25 (.tmp s)) (e : ρ (.tmp s) = .pointer (some ⟨p, 0, none⟩)) (hc : W.cell? ⟨p, 0, none⟩ = some x) (hd : W.cell? ⟨p, 1, none⟩ = some y) : (execOp ρ o).run Tryd.prog W = .ok (.value (.agg #[x, y])) W := run_loadO ho e hc hd
end
end Go.Proofs.YtigknfkkegccgaaDoor.K

/- The document's Book: Add, where it adds. -/
namespace Go.Proofs.YtigknfkkegccgaaDoor.K
open Go.RowKit
set_option linter.unusedVariables false
set_option linter.unusedSimpArgs false
attribute [local go_sem ↓] Go.wp_at_zero Go.wp_at_succ
theorem bT (p : BP) (a0 : Act) : (bR p a0).s0 + (bR p a0).n ≤ (bR p a0).T := by show 44 + 13 ≤ 68; omega
theorem bLt (p : BP) (a0 : Act) {j : Nat} (h : j < 13) : j < (bR p a0).n := h
theorem bNo (p : BP) (a0 : Act) {j : Nat} (h : j ∉ [1, 6, 8, 9, 10, 13]) : j ∉ (bR p a0).tr := h
theorem bNd (p : BP) (a0 : Act) : (bR p a0).tr.Nodup := by show [1, 6, 8, 9, 10, 13].Nodup; decide
theorem bTr (p : BP) (a0 : Act) : ∀ j ∈ (bR p a0).tr, j < 14 := by show ∀ j ∈ [1, 6, 8, 9, 10, 13], j < 14; decide
theorem bS (p : BP) (a0 : Act) {j : Nat} (h : 44 + j < 68) : (bR p a0).s0 + j < (bR p a0).T := h
theorem bKeep6 {p : BP} {a0 a : Act} {l : Array Bool} {w' : World} {j : Nat} {v : Value} (h : RI (bR p a0) l a w') (hj : j ≠ 6) (hk : j < 13) : slot (a.put (some ((bR p a0).s0 + j)) v) ((bR p a0).s0 + 6) = slot a ((bR p a0).s0 + 6) :=
  slot_keepR h.size (bS _ _ (by omega)) (fun e => hj (by have : 44 + 6 = 44 + j := e; omega))
theorem bc_of {p : BP} {v v' : Value} {w' : World} (e : v' = v) (h : BC p v w') : BC p v' w' := e ▸ h
theorem bCell {p : BP} {a0 a : Act} {l : Array Bool} {w' : World} (h : ∃ k, k ≤ (bR p a0).tr.length ∧ (∀ i j, (bR p a0).tr[i]? = some j → l.getD j false = decide (i < k)) ∧ (∀ q ∈ (bR p a0).need, q.1 ≤ k → l.getD q.2 false = true) ∧ (bR p a0).Ph (fun j => slot a ((bR p a0).s0 + j)) w' k) (hn : l.getD 5 false = true → False) : w'.cell? ⟨p.r, 0, none⟩ = some (.slice p.LA p.os.length p.lc) := by
  obtain ⟨k, _, _, h2, h3⟩ := h
  have hk : k < 2 := by
    rcases Nat.lt_or_ge k 2 with h | h
    · exact h
    · exact absurd (h2 (2, 5) (by simp [bR]) h) hn
  match k, hk, h3 with
  | 0, _, h => exact (BW.bk h).blk.cell 0
  | 1, _, ⟨W, e, hp, _⟩ => subst e; exact (hp.bk.blk.alloc _).cell 0
theorem bBox {p : BP} {a0 a : Act} {l : Array Bool} {w' : World} (h : ∃ k, k ≤ (bR p a0).tr.length ∧ (∀ i j, (bR p a0).tr[i]? = some j → l.getD j false = decide (i < k)) ∧ (∀ q ∈ (bR p a0).need, q.1 ≤ k → l.getD q.2 false = true) ∧ (bR p a0).Ph (fun j => slot a ((bR p a0).s0 + j)) w' k) (hn : l.getD 7 false = true → False) : Blk w' p.q 25 #[.int .u32 p.id, .slice p.A p.ls.length p.c] := by
  obtain ⟨k, _, _, h2, h3⟩ := h
  have hk : k < 3 := by
    rcases Nat.lt_or_ge k 3 with h | h
    · exact h
    · exact absurd (h2 (3, 7) (by simp [bR]) h) hn
  match k, hk, h3 with
  | 0, _, h => exact BW.box h
  | 1, _, ⟨W, e, hp, _⟩ => subst e; exact hp.box.alloc _
  | 2, _, h => exact (BC.b h).box
theorem info_boolr : (Tryd.prog.info? 4).map (fun i => (i.zero, i.size, i.bytes)) = some (some (.bool false), 1, 1) := by kernel_rfl
theorem run_fieldR0 {ρ : Operand → Value} {W : World} {o : Oper} {s p : Nat} (ho : o.op = .fieldAddr 46 (.tmp s) 0) (e : ρ (.tmp s) = .pointer (some ⟨p, 0, none⟩)) : (execOp ρ o).run Tryd.prog W = .ok (.value (.pointer (some ⟨p, 0, none⟩))) W := by
  simp [execOp, ho, e, go_sem]
theorem shape68 (tm : Array Value) (h : tm.size = 68) : ∃ x0 x1 x2 x3 x4 x5 x6 x7 x8 x9 x10 x11 x12 x13 x14 x15 x16 x17 x18 x19 x20 x21 x22 x23 x24 x25 x26 x27 x28 x29 x30 x31 x32 x33 x34 x35 x36 x37 x38 x39 x40 x41 x42 x43 x44 x45 x46 x47 x48 x49 x50 x51 x52 x53 x54 x55 x56 x57 x58 x59 x60 x61 x62 x63 x64 x65 x66 x67, tm = #[x0, x1, x2, x3, x4, x5, x6, x7, x8, x9, x10, x11, x12, x13, x14, x15, x16, x17, x18, x19, x20, x21, x22, x23, x24, x25, x26, x27, x28, x29, x30, x31, x32, x33, x34, x35, x36, x37, x38, x39, x40, x41, x42, x43, x44, x45, x46, x47, x48, x49, x50, x51, x52, x53, x54, x55, x56, x57, x58, x59, x60, x61, x62, x63, x64, x65, x66, x67] := by
  obtain ⟨l⟩ := tm
  have h0 : l.length = 68 := h
  clear h
  obtain ⟨x0, l0, e0, h1⟩ := cons_len h0
  obtain ⟨x1, l1, e1, h2⟩ := cons_len h1
  obtain ⟨x2, l2, e2, h3⟩ := cons_len h2
  obtain ⟨x3, l3, e3, h4⟩ := cons_len h3
  obtain ⟨x4, l4, e4, h5⟩ := cons_len h4
  obtain ⟨x5, l5, e5, h6⟩ := cons_len h5
  obtain ⟨x6, l6, e6, h7⟩ := cons_len h6
  obtain ⟨x7, l7, e7, h8⟩ := cons_len h7
  obtain ⟨x8, l8, e8, h9⟩ := cons_len h8
  obtain ⟨x9, l9, e9, h10⟩ := cons_len h9
  obtain ⟨x10, l10, e10, h11⟩ := cons_len h10
  obtain ⟨x11, l11, e11, h12⟩ := cons_len h11
  obtain ⟨x12, l12, e12, h13⟩ := cons_len h12
  obtain ⟨x13, l13, e13, h14⟩ := cons_len h13
  obtain ⟨x14, l14, e14, h15⟩ := cons_len h14
  obtain ⟨x15, l15, e15, h16⟩ := cons_len h15
  obtain ⟨x16, l16, e16, h17⟩ := cons_len h16
  obtain ⟨x17, l17, e17, h18⟩ := cons_len h17
  obtain ⟨x18, l18, e18, h19⟩ := cons_len h18
  obtain ⟨x19, l19, e19, h20⟩ := cons_len h19
  obtain ⟨x20, l20, e20, h21⟩ := cons_len h20
  obtain ⟨x21, l21, e21, h22⟩ := cons_len h21
  obtain ⟨x22, l22, e22, h23⟩ := cons_len h22
  obtain ⟨x23, l23, e23, h24⟩ := cons_len h23
  obtain ⟨x24, l24, e24, h25⟩ := cons_len h24
  obtain ⟨x25, l25, e25, h26⟩ := cons_len h25
  obtain ⟨x26, l26, e26, h27⟩ := cons_len h26
  obtain ⟨x27, l27, e27, h28⟩ := cons_len h27
  obtain ⟨x28, l28, e28, h29⟩ := cons_len h28
  obtain ⟨x29, l29, e29, h30⟩ := cons_len h29
  obtain ⟨x30, l30, e30, h31⟩ := cons_len h30
  obtain ⟨x31, l31, e31, h32⟩ := cons_len h31
  obtain ⟨x32, l32, e32, h33⟩ := cons_len h32
  obtain ⟨x33, l33, e33, h34⟩ := cons_len h33
  obtain ⟨x34, l34, e34, h35⟩ := cons_len h34
  obtain ⟨x35, l35, e35, h36⟩ := cons_len h35
  obtain ⟨x36, l36, e36, h37⟩ := cons_len h36
  obtain ⟨x37, l37, e37, h38⟩ := cons_len h37
  obtain ⟨x38, l38, e38, h39⟩ := cons_len h38
  obtain ⟨x39, l39, e39, h40⟩ := cons_len h39
  obtain ⟨x40, l40, e40, h41⟩ := cons_len h40
  obtain ⟨x41, l41, e41, h42⟩ := cons_len h41
  obtain ⟨x42, l42, e42, h43⟩ := cons_len h42
  obtain ⟨x43, l43, e43, h44⟩ := cons_len h43
  obtain ⟨x44, l44, e44, h45⟩ := cons_len h44
  obtain ⟨x45, l45, e45, h46⟩ := cons_len h45
  obtain ⟨x46, l46, e46, h47⟩ := cons_len h46
  obtain ⟨x47, l47, e47, h48⟩ := cons_len h47
  obtain ⟨x48, l48, e48, h49⟩ := cons_len h48
  obtain ⟨x49, l49, e49, h50⟩ := cons_len h49
  obtain ⟨x50, l50, e50, h51⟩ := cons_len h50
  obtain ⟨x51, l51, e51, h52⟩ := cons_len h51
  obtain ⟨x52, l52, e52, h53⟩ := cons_len h52
  obtain ⟨x53, l53, e53, h54⟩ := cons_len h53
  obtain ⟨x54, l54, e54, h55⟩ := cons_len h54
  obtain ⟨x55, l55, e55, h56⟩ := cons_len h55
  obtain ⟨x56, l56, e56, h57⟩ := cons_len h56
  obtain ⟨x57, l57, e57, h58⟩ := cons_len h57
  obtain ⟨x58, l58, e58, h59⟩ := cons_len h58
  obtain ⟨x59, l59, e59, h60⟩ := cons_len h59
  obtain ⟨x60, l60, e60, h61⟩ := cons_len h60
  obtain ⟨x61, l61, e61, h62⟩ := cons_len h61
  obtain ⟨x62, l62, e62, h63⟩ := cons_len h62
  obtain ⟨x63, l63, e63, h64⟩ := cons_len h63
  obtain ⟨x64, l64, e64, h65⟩ := cons_len h64
  obtain ⟨x65, l65, e65, h66⟩ := cons_len h65
  obtain ⟨x66, l66, e66, h67⟩ := cons_len h66
  obtain ⟨x67, l67, e67, h68⟩ := cons_len h67
  have e68 := List.eq_nil_of_length_eq_zero h68
  subst e68
  subst e67
  subst e66
  subst e65
  subst e64
  subst e63
  subst e62
  subst e61
  subst e60
  subst e59
  subst e58
  subst e57
  subst e56
  subst e55
  subst e54
  subst e53
  subst e52
  subst e51
  subst e50
  subst e49
  subst e48
  subst e47
  subst e46
  subst e45
  subst e44
  subst e43
  subst e42
  subst e41
  subst e40
  subst e39
  subst e38
  subst e37
  subst e36
  subst e35
  subst e34
  subst e33
  subst e32
  subst e31
  subst e30
  subst e29
  subst e28
  subst e27
  subst e26
  subst e25
  subst e24
  subst e23
  subst e22
  subst e21
  subst e20
  subst e19
  subst e18
  subst e17
  subst e16
  subst e15
  subst e14
  subst e13
  subst e12
  subst e11
  subst e10
  subst e9
  subst e8
  subst e7
  subst e6
  subst e5
  subst e4
  subst e3
  subst e2
  subst e1
  subst e0
  exact ⟨x0, x1, x2, x3, x4, x5, x6, x7, x8, x9, x10, x11, x12, x13, x14, x15, x16, x17, x18, x19, x20, x21, x22, x23, x24, x25, x26, x27, x28, x29, x30, x31, x32, x33, x34, x35, x36, x37, x38, x39, x40, x41, x42, x43, x44, x45, x46, x47, x48, x49, x50, x51, x52, x53, x54, x55, x56, x57, x58, x59, x60, x61, x62, x63, x64, x65, x66, x67, rfl⟩
set_option maxHeartbeats 8000000 in
set_option maxRecDepth 20000 in
theorem AddRC {B r c : Nat} {vL vO : Value} {os : List So} {fl : List Bool} {id : Int} {A : Option Addr} {ls : List Ln} {w : World} (h : RBk B r vL vO os fl w) (hol : os.length ≤ 100000) (hr : RowOf cL 3 w w.heap.size A ls) (hl : ls.length ≤ 1000) (ho : ∀ l ∈ ls, l.ok) (hn : rightO ls = 0) (hm : ∀ o ∈ os, o.id ≠ id) (hfree : (idsR os fl).length < 16 ∧ os.length < 1024) :
    Calls Tryd.prog 19 #[.pointer (some ⟨r, 0, none⟩), .agg #[.int .u32 id, .slice A ls.length c]] w fun e w' => e = .returned (.int .i64 0) ∧ ∃ A' c' vL' vO', Hid (MadeL w.heap.size A' c' ls w') ∧ Hid (RBk B r vL' vO' (os ++ [⟨id, A', c', ls⟩]) (fl ++ [true]) w') ∧ Hid (Fr (fun j => j = r) w w') ∧ Hid (∀ k, vL'.ownBlock = some k → w.heap.size ≤ k) := by
  obtain ⟨OA, oc, rfl, hoc⟩ := own_form h.rowO
  have HH := Lib.hid h
  have HR0 := Lib.hid hr
  have HNM := Lib.hid hm
  have HB0 := Lib.hid (Nat.le_trans h.low (Nat.le_of_lt h.blk.lt))
  have hbl : Below w.heap.size w (w.alloc (.cells #[.int .u32 id, .slice A ls.length c] 25)) := (Below.refl _ w).alloc (Nat.le_refl _) _
  have HBL := Lib.hid hbl
  have HN := Lib.hid (Blk.new w 25 #[.int .u32 id, .slice A ls.length c])
  have HK := Lib.hid (h.fr ((Fr.refl (fun _ => False) w).alloc (.cells #[.int .u32 id, .slice A ls.length c] 25)) (fun _ _ _ h => h))
  have HC := Lib.hid (RightRC (id := id) (c := c) (hr.now hbl) (by omega) ho)
  rw [hn] at HC
  obtain ⟨LA, lc, rfl, hlc⟩ := own_form h.rowL
  have HM := Lib.hid hm
  clear hbl hr ho hn h hm
  go_enter Tryd.func19, Tryd.ntmps19
  go_wp2_with fail
  refine Calls.mono HC.out ?_
  rintro e w1 ⟨rfl, F1⟩
  have HK1 := Lib.hid (HK.out.fr (Fr.of_below F1.out) (fun _ _ _ h => h))
  have HN1 := Lib.hid (HN.out.below F1.out HN.out.lt)
  have D1 := Lib.hid (HBL.out.trans (F1.out.mono HBL.out.size))
  clear HK HN HBL F1
  go_wp2
  go_loopw [6] (fun i wr => ∃ k : Nat, i = .int .i64 k ∧ k ≤ os.length ∧ (∀ j (hj : j < os.length), j < k → (os[j]).id ≠ id) ∧ Below w.heap.size w wr ∧ Blk wr w.heap.size 25 #[.int .u32 id, .slice A ls.length c] ∧ RBk B r (.slice LA os.length lc) (.slice OA fl.length oc) os fl wr) (fun i _ => os.length - (intOf i).toNat)
  case atStart => exact ⟨0, rfl, by omega, fun j _ h => by omega, D1.out, HN1.out, HK1.out⟩
  case round =>
    clear D1 HN1 HK1
    obtain ⟨k, rfl, hk, hno, hf, hbx, hbk⟩ := hrel
    have HNO := Lib.hid hno
    have HF := Lib.hid hf
    have HX := Lib.hid hbx
    have HK := Lib.hid hbk
    have x0 := hbx.cell 0
    have x1 := hbx.cell 1
    have c0 := hbk.blk.cell 0
    clear hno hf hbx
    by_cases hlt : k < os.length
    · obtain ⟨ad, rfl, _, d0, d1⟩ := (row_own (c := cO) (fun _ => rfl) hbk.rowL).so hlt
      have HI2 : Hid ((os[k]).id ≠ id → ∀ j (hj : j < os.length), j < k + 1 → (os[j]).id ≠ id) := Lib.hid (fun h j hj hjk => by
        by_cases e : j = k
        · subst e; exact h
        · exact HNO.out j hj (by omega))
      have HMM : Hid ((os[k]).id = id → ∃ o ∈ os, o.id = id) := Lib.hid (fun h => ⟨_, List.getElem_mem hlt, h⟩)
      clear d1 hbk
      generalize (os[k]).id = x at *
      by_cases hx : x = id
      · exact absurd hx (fun e => by
          obtain ⟨o, ho, e'⟩ := HMM.out e
          exact HM.out o ho e')
      · have hxb : (x == id) = false := by simpa using hx
        have HI3 := Lib.hid (HI2.out hx)
        clear hx HI2 HMM
        go_wp2_with fail
        go_region
        go_wp2
        go_roundw
        case rel => exact ⟨k + 1, by go_num, by omega, HI3.out, below_dr HF.out, HX.out, HK.out.fr ((Fr.refl (fun _ => False) _).drew) (fun _ _ _ h => h)⟩
        case measure => simp [intOf]; omega
    · obtain rfl : k = os.length := by omega
      have hil := idsR_len os fl
      have qI := IDsC hbk (by omega)
      have hlen := hbk.len
      have HNI : Hid (idsR os fl = idsR os fl) := Lib.hid rfl
      have hlt16 := hfree.1
      have i1024 : (os.length : Int) < 1024 := by omega
      clear hbk hfree
      generalize idsR os fl = L at *
      have i16 : (L.length : Int) < 16 := by omega
      go_wp2_with fail
      refine Calls.mono qI ?_
      clear qI
      rintro e w2 ⟨v2, rfl, HO2, F2⟩
      obtain ⟨A2, c2, rfl, -⟩ := own_form HO2.out
      have y0 := (HK.out.fr (Fr.of_below F2.out) (fun _ _ _ h => h)).blk.cell 0
      have hbw : ∀ P : World → Prop, True := fun _ => trivial
      have HW2 : Hid (BW ⟨w, B, r, LA, lc, .slice OA fl.length oc, os, fl, id, A, c, ls, w.heap.size⟩ w2) := Lib.hid ⟨HH.out, HR0.out, HX.out.fr (Fr.of_below F2.out) (fun h => h), Fr.of_below (HF.out.trans (F2.out.mono HF.out.size)), Nat.le_refl _⟩
      clear hbw HO2
      go_wp2_with fail
      refine region_inv (fun a0 => RI (bR ⟨w, B, r, LA, lc, .slice OA fl.length oc, os, fl, id, A, c, ls, w.heap.size⟩ a0)) (by kernel_rfl) ?init ?done ?step
      case init => exact RI.init (R := bR ⟨w, B, r, LA, lc, .slice OA fl.length oc, os, fl, id, A, c, ls, w.heap.size⟩ _) rfl (by intro p hp; simp [bR] at hp; rcases hp with rfl | rfl <;> simp) (HW2.out.next (((Fr.refl (fun _ => False) _).drew)))
      case done =>
        rintro listed a w' hsz9 hI hr9
        obtain ⟨tm, df⟩ := a
        obtain ⟨x0, x1, x2, x3, x4, x5, x6, x7, x8, x9, x10, x11, x12, x13, x14, x15, x16, x17, x18, x19, x20, x21, x22, x23, x24, x25, x26, x27, x28, x29, x30, x31, x32, x33, x34, x35, x36, x37, x38, x39, x40, x41, x42, x43, x44, x45, x46, x47, x48, x49, x50, x51, x52, x53, x54, x55, x56, x57, x58, x59, x60, x61, x62, x63, x64, x65, x66, x67, rfl⟩ := shape68 tm hI.size
        obtain ⟨W, A', c', A3, c3, hw, hb, hm, ho⟩ := hI.all (bTr _ _) (fun j hj => ready_nil hsz9 (by kernel_rfl) hr9 j hj)
        have hB : ∀ s, s < 44 ∨ 57 ≤ s → slot _ s = slot _ s := hI.base
        have hw2 : w' = W.setCell ⟨r, 0, none⟩ (.slice A3 (os.length + 1) c3) := hw
        have hm2 : MadeL w.heap.size A' c' ls W := hm
        have ho2 : W.ownsRow w.heap.size 25 2 (.slice A3 (os.length + 1) c3) (os.length + 1) ((os ++ [(⟨id, A', c', ls⟩ : So)]).flatMap cO) := ho
        have hbk : RBk B r (.slice LA os.length lc) (.slice OA fl.length oc) os fl W := hb.bk
        have hf0 : Fr0 w W := hb.fr
        clear hw hb hm ho
        subst hw2
        obtain rfl : df = [] := hI.defs
        obtain rfl : x0 = .pointer (some ⟨r, 0, none⟩) := hB 0 (by omega)
        clear hI hr9 hsz9 hB
        have hs0 : Blk (W.setCell ⟨r, 0, none⟩ (.slice A3 (os.length + 1) c3)) r 46 #[.slice A3 (os.length + 1) c3, .slice OA fl.length oc] := by simpa using hbk.blk.set_ 0 (.slice A3 (os.length + 1) c3)
        have hFs : Fr (fun j => j = r) W (W.setCell ⟨r, 0, none⟩ (.slice A3 (os.length + 1) c3)) := (Fr.refl (fun j => j = r) W).setCell (p := ⟨r, 0, none⟩) (fun _ => rfl) _
        have hml : ∀ {o : So} {Bx : Nat}, MadeL Bx o.A o.c o.ls W → MadeL Bx o.A o.c o.ls (W.setCell ⟨r, 0, none⟩ (.slice A3 (os.length + 1) c3)) := fun {o Bx} h => h.fr hFs (fun j e e' => own_blk_ne h.1 hbk.blk (by decide) (e' ▸ e))
        have HM := Lib.hid (hml (o := ⟨id, A', c', ls⟩) hm2)
        have HEA := Lib.hid (fun o h => hml (hbk.each o h))
        have HO := Lib.hid (own_fr ho2 hFs (fun j e e' => own_blk_ne ho2 hbk.blk (by decide) (e' ▸ e)))
        have HRO := Lib.hid (own_fr hbk.rowO hFs (fun j e e' => own_blk_ne hbk.rowO hbk.blk (by decide) (e' ▸ e)))
        have HS0 := Lib.hid hs0
        have HF0 := Lib.hid ((hf0.mono (fun _ _ h => h.elim)).trans hFs (fun _ _ e => e))
        have HLEN := Lib.hid hbk.len
        have hlw := hf0.size
        have hflen : fl.length ≤ 100000 := by rw [hbk.len]; exact hol
        have hrlow := hbk.low
        clear hbk hm2 ho2 hf0 hFs hml hs0 hlen
        generalize W.setCell ⟨r, 0, none⟩ (.slice A3 (os.length + 1) c3) = W0 at *
        have hA0 : Fr0 W0 (W0.alloc (.cells #[] 4)) := (Fr.refl (fun _ => False) W0).alloc _
        have z1 := (HS0.out.fr hA0 (fun h => h)).cell 1
        have HRO1 := Lib.hid (row_own (c := cB) (fun _ => rfl) (own_fr HRO.out hA0 (fun _ _ h => h)))
        have HOL : Hid ((W0.alloc (.cells #[] 4)).ownsRow W0.heap.size 4 1 (.slice (some ⟨W0.heap.size, 0, none⟩) 0 0) 0 ([] : List Value)) := Lib.hid (World.ownsRow_lit W0 #[] 0 (Nat.le_refl _) (by decide) rfl)
        go_wp2_with (at_builtin; go_loud (first
          | (refine appR (c := cB) rfl _ _ _ rfl 4 (.bool false) 1 1 Tryd.underlying44 info_boolr rfl (by omega) (by omega) (fun _ => rfl) (fun y u hu => by simp at hu; subst hu; rfl) W0.heap.size (W0.alloc (.cells #[] 4)).heap.size (.slice (some ⟨W0.heap.size, 0, none⟩) 0 0) [] fl OA oc rfl rfl HRO1.out HOL.out (by simp) (by simp only [List.length_nil]; omega) ?_; intro v5 w5 h3 h4 h5; rw [List.nil_append] at h3; have F5 := Lib.hid (hA0.trans h4 (fun j hj e => by simp [Value.ownBlock] at e; omega)); have H5 := Lib.hid h3; clear h3 h4 h5)
          | (refine app1g rfl _ _ _ rfl 4 (.bool false) 1 1 Tryd.underlying44 info_boolr rfl (by omega) (by omega) W0.heap.size w5.heap.size rfl v5 fl.length _ [.bool true] rfl rfl rfl (fun u hu => by simp at hu; subst hu; rfl) H5.out F5.out.size (by omega) ?_; intro v6 w6 h3 h4 h5; have F6 := Lib.hid (F5.out.trans h4 (fun j hj e => by have := (H5.out.lt j e).1; omega)); have hk6 := HS0.out.fr F6.out (fun h => h); obtain ⟨A6, c6, rfl, hc6⟩ := own_form h3; have H6 := Lib.hid h3; have y1 := hk6.cell 1; have y2 := hk6.frozen 1; have HK6 := Lib.hid hk6; clear h3 h4 h5 hk6)))
        have hk7 : Blk (w6.setCell ⟨r, 1, none⟩ (.slice A6 (fl.length + 1) c6)) r 46 #[.slice A3 (os.length + 1) c3, .slice A6 (fl.length + 1) c6] := by simpa using HK6.out.set_ 1 (.slice A6 (fl.length + 1) c6)
        have hF7 : Fr (fun j => j = r) w6 (w6.setCell ⟨r, 1, none⟩ (.slice A6 (fl.length + 1) c6)) := (Fr.refl (fun j => j = r) w6).setCell (p := ⟨r, 1, none⟩) (fun _ => rfl) _
        have hF67 : Fr (fun j => j = r) W0 (w6.setCell ⟨r, 1, none⟩ (.slice A6 (fl.length + 1) c6)) := (F6.out.mono (fun _ _ h => h.elim)).trans hF7 (fun _ _ e => e)
        have hm7 : ∀ {o : So} {Bx : Nat}, MadeL Bx o.A o.c o.ls W0 → MadeL Bx o.A o.c o.ls (w6.setCell ⟨r, 1, none⟩ (.slice A6 (fl.length + 1) c6)) := fun {o Bx} h => h.fr hF67 (fun j e e' => own_blk_ne h.1 HS0.out (by decide) (e' ▸ e))
        have hrow7 := own_fr HO.out hF67 (fun j e e' => own_blk_ne HO.out HS0.out (by decide) (e' ▸ e))
        have hfl7 := own_fr H6.out hF7 (fun j e e' => own_blk_ne H6.out HK6.out (by decide) (e' ▸ e))
        have hB0 := HB0.out
        have hsz0 := HF0.out.size
        have hres : RBk B r (.slice A3 (os.length + 1) c3) (.slice A6 (fl.length + 1) c6) (os ++ [⟨id, A', c', ls⟩]) (fl ++ [true]) (w6.setCell ⟨r, 1, none⟩ (.slice A6 (fl.length + 1) c6)) := by
          refine ⟨hk7, ?_, ?_, fun o ho => ?_, hrlow, ?_⟩
          · rw [List.length_append, List.length_singleton]; exact own_weak hrow7 hB0
          · rw [List.length_append, List.length_singleton, List.flatMap_append]; exact own_weak hfl7 (by omega)
          · rcases List.mem_append.1 ho with ho | ho
            · exact hm7 (HEA.out o ho)
            · rw [List.mem_singleton] at ho
              subst ho
              exact (hm7 (o := ⟨id, A', c', ls⟩) HM.out).low hB0
          · rw [List.length_append, List.length_append, HLEN.out]; rfl
        have HRES := Lib.hid hres
        have HFF := Lib.hid (HF0.out.trans hF67 (fun _ _ e => e))
        have HMM := Lib.hid (hm7 (o := ⟨id, A', c', ls⟩) HM.out)
        have HOW := Lib.hid (fun k e => (HO.out.lt k e).1)
        clear hk7 hF7 hF67 hm7 hrow7 hfl7 hres
        go_ret
        exact ⟨rfl, A', c', HMM, _, ⟨_, HRES⟩, HFF, HOW⟩
      case step =>
        rintro listed a w' hsz9 hI j hj
        have hsz : listed.size = 14 := hsz9
        obtain ⟨hj0, o, ho, hafter⟩ := mem_ready.1 hj
        have hB : ∀ s, s < 44 ∨ 57 ≤ s → slot a s = slot _ s := hI.base
        match j, ho with
        | 0, ho =>
          obtain rfl := Option.some.inj ho
          exact stepV rfl (wanted_none rfl) (run_move rfl (hB 0 (by omega))) (hI.stay (bT _ _) (bLoc _ _) (j := 0) (bLt _ _ (by omega)) (bNo _ _ (by decide)) (by omega) (fun u hu => Option.some.inj hu))
        | 1, ho =>
          obtain rfl := Option.some.inj ho
          obtain ⟨hp9, htr9, hneed9⟩ := hI.at_ (bNd _ _) (j := 1) (k := 0) rfl (getD_no hj0) (fun i h => by omega)
          refine stepV rfl (wanted_none rfl) (run_row0 rfl) ?_
          exact hI.turn (bNd _ _) (bT _ _) (k := 0) rfl (bLt _ _ (by omega)) (by omega) (fun u hu => by cases hu) htr9 hneed9 (fun p hp e => by simp [bR] at hp; rcases hp with rfl | rfl <;> simp at e) ⟨w', rfl, hp9, slot_newR (j := 1) hI.size (bS _ _ (by omega))⟩
        | 2, ho =>
          obtain rfl := Option.some.inj ho
          exact stepV rfl (wanted_none rfl) (run_move rfl (hB 0 (by omega))) (hI.stay (bT _ _) (bLoc _ _) (j := 2) (bLt _ _ (by omega)) (bNo _ _ (by decide)) (by omega) (fun u hu => Option.some.inj hu))
        | 3, ho =>
          obtain rfl := Option.some.inj ho
          exact stepV rfl (wanted_none rfl) (run_nilp rfl (hI.vals 2 _ rfl (hafter ⟨2, .data⟩ (by simp) rfl))) (hI.stay (bT _ _) (bLoc _ _) (j := 3) (bLt _ _ (by omega)) (bNo _ _ (by decide)) (by omega) (fun u hu => Option.some.inj hu))
        | 4, ho =>
          obtain rfl := Option.some.inj ho
          exact stepV rfl (wanted_none rfl) (run_fieldR0 rfl (hI.vals 3 _ rfl (hafter ⟨3, .data⟩ (by simp) rfl))) (hI.stay (bT _ _) (bLoc _ _) (j := 4) (bLt _ _ (by omega)) (bNo _ _ (by decide)) (by omega) (fun u hu => Option.some.inj hu))
        | 5, ho =>
          obtain rfl := Option.some.inj ho
          have hc9 : w'.cell? ⟨r, 0, none⟩ = some (.slice LA os.length lc) := bCell hI.ph (fun h => hfalse hj0 h)
          exact stepV rfl (wanted_none rfl) (run_loadOs rfl (hI.vals 4 _ rfl (hafter ⟨4, .data⟩ (by simp) rfl)) hc9) (hI.stay (bT _ _) (bLoc _ _) (j := 5) (bLt _ _ (by omega)) (bNo _ _ (by decide)) (by omega) (fun u hu => Option.some.inj hu))
        | 6, ho =>
          obtain rfl := Option.some.inj ho
          have hprev := hafter ⟨1, .data⟩ (by simp) rfl
          obtain ⟨hp9, htr9, hneed9⟩ := hI.at_ (bNd _ _) (j := 6) (k := 1) rfl (getD_no hj0) (fun i h j' hj' => by obtain rfl : i = 0 := (by omega); obtain rfl := Option.some.inj hj'; exact hprev)
          obtain ⟨W9, rfl, hq9, hs9⟩ := hp9
          have h5l := hafter ⟨5, .data⟩ (by simp) rfl
          have hv5 := hI.vals 5 _ rfl h5l
          refine stepA rfl (wanted_none rfl) (BW.copy rfl (.tmp 45) (.tmp 49) rfl hq9 hol hs9 hv5 ?_)
          intro v2 w2 hc2
          exact hI.turn (bNd _ _) (bT _ _) (k := 1) rfl (bLt _ _ (by omega)) (by omega) (fun u hu => by cases hu) htr9 hneed9 (fun p hp e => by simp [bR] at hp; rcases hp with rfl | rfl; exact h5l; simp at e) (bc_of (slot_newR (j := 6) hI.size (bS _ _ (by omega))) hc2)
        | 7, ho =>
          obtain rfl := Option.some.inj ho
          have hc9 := bBox hI.ph (fun h => hfalse hj0 h)
          exact stepV rfl (wanted_none rfl) (run_loadO rfl (hB 3 (by omega)) (hc9.cell 0) (hc9.cell 1)) (hI.stay (bT _ _) (bLoc _ _) (j := 7) (bLt _ _ (by omega)) (bNo _ _ (by decide)) (by omega) (fun u hu => Option.some.inj hu))
        | 8, ho =>
          obtain rfl := Option.some.inj ho
          have hprev := hafter ⟨6, .chain⟩ (by simp) rfl
          have h7l := hafter ⟨7, .data⟩ (by simp) rfl
          obtain ⟨hp9, htr9, hneed9⟩ := hI.at_ (bNd _ _) (j := 8) (k := 2) rfl (getD_no hj0) (fun i h j' hj' => by obtain rfl : i = 1 := (by omega); obtain rfl := Option.some.inj hj'; exact hprev)
          have hv7 := hI.vals 7 _ rfl h7l
          refine stepC rfl (wanted_none rfl) (run_callF (fun _ _ => rfl) rfl hv7) (OwnRC hl hp9.b.row) ?_
          rintro e w2 ⟨A', c', rfl, H2, H3⟩
          refine ⟨_, rfl, ?_⟩
          exact hI.turn (bNd _ _) (bT _ _) (k := 2) rfl (bLt _ _ (by omega)) (by omega) (fun u hu => by cases hu) htr9 hneed9 (fun p hp e => by simp [bR] at hp; rcases hp with rfl | rfl; simp at e; exact h7l) ⟨bc_of (bKeep6 (j := 8) hI (by decide) (by decide)) (hp9.next H3.out), A', c', slot_newR (j := 8) hI.size (bS _ _ (by omega)), H2.out.low hp9.b.fr.size⟩
        | 9, ho =>
          obtain rfl := Option.some.inj ho
          have hprev := hafter ⟨8, .data⟩ (by simp) rfl
          obtain ⟨hp9, htr9, hneed9⟩ := hI.at_ (bNd _ _) (j := 9) (k := 3) rfl (getD_no hj0) (fun i h j' hj' => by obtain rfl : i = 2 := (by omega); obtain rfl := Option.some.inj hj'; exact hprev)
          obtain ⟨hc9, A', c', hs9, hm9⟩ := hp9
          refine stepV rfl (wanted_none rfl) (run_rowO rfl hs9) ?_
          exact hI.turn (bNd _ _) (bT _ _) (k := 3) rfl (bLt _ _ (by omega)) (by omega) (fun u hu => by cases hu) htr9 hneed9 (fun p hp e => by simp [bR] at hp; rcases hp with rfl | rfl <;> simp at e) ⟨w', A', c', rfl, bc_of (bKeep6 (j := 9) hI (by decide) (by decide)) (hc9), hm9, slot_newR (j := 9) hI.size (bS _ _ (by omega))⟩
        | 10, ho =>
          obtain rfl := Option.some.inj ho
          have hprev := hafter ⟨9, .data⟩ (by simp) rfl
          obtain ⟨hp9, htr9, hneed9⟩ := hI.at_ (bNd _ _) (j := 10) (k := 4) rfl (getD_no hj0) (fun i h j' hj' => by obtain rfl : i = 3 := (by omega); obtain rfl := Option.some.inj hj'; exact hprev)
          obtain ⟨W9, A', c', rfl, hc9, hm9, hs9⟩ := hp9
          refine stepA rfl (wanted_none rfl) (BC.step rfl (.tmp 50) (.tmp 53) rfl hc9 hm9 hol rfl hs9 ?_)
          intro A2 c2 w2 hw2 hm2 ho2
          exact hI.turn (bNd _ _) (bT _ _) (k := 4) rfl (bLt _ _ (by omega)) (by omega) (fun u hu => by cases hu) htr9 hneed9 (fun p hp e => by simp [bR] at hp; rcases hp with rfl | rfl <;> simp at e) ⟨A', c', A2, c2, slot_newR (j := 10) hI.size (bS _ _ (by omega)), hw2, hm2, ho2⟩
        | 11, ho =>
          obtain rfl := Option.some.inj ho
          exact stepV rfl (wanted_none rfl) (run_nilp rfl (hI.vals 0 _ rfl (hafter ⟨0, .data⟩ (by simp) rfl))) (hI.stay (bT _ _) (bLoc _ _) (j := 11) (bLt _ _ (by omega)) (bNo _ _ (by decide)) (by omega) (fun u hu => Option.some.inj hu))
        | 12, ho =>
          obtain rfl := Option.some.inj ho
          exact stepV rfl (wanted_none rfl) (run_fieldR0 rfl (hI.vals 11 _ rfl (hafter ⟨11, .data⟩ (by simp) rfl))) (hI.stay (bT _ _) (bLoc _ _) (j := 12) (bLt _ _ (by omega)) (bNo _ _ (by decide)) (by omega) (fun u hu => Option.some.inj hu))
        | 13, ho =>
          obtain rfl := Option.some.inj ho
          have hprev := hafter ⟨10, .data⟩ (by simp) rfl
          obtain ⟨hp9, htr9, hneed9⟩ := hI.at_ (bNd _ _) (j := 13) (k := 5) rfl (getD_no hj0) (fun i h j' hj' => by obtain rfl : i = 4 := (by omega); obtain rfl := Option.some.inj hj'; exact hprev)
          obtain ⟨A', c', A2, c2, hs9, hb9, hm9, ho9⟩ := hp9
          refine stepS rfl (wanted_none rfl) rfl (run_storeOs rfl (hI.vals 12 _ rfl (hafter ⟨12, .data⟩ (by simp) rfl)) hs9 (hb9.bk.blk.cell 0) (hb9.bk.blk.frozen 0)) ?_
          exact hI.last (bNd _ _) (k := 5) rfl rfl (by omega) htr9 hneed9 (fun p hp e => by simp [bR] at hp; rcases hp with rfl | rfl <;> simp at e) ⟨w', A', c', A2, c2, rfl, hb9, hm9, ho9⟩
end Go.Proofs.YtigknfkkegccgaaDoor.K

/- OrderPlays: the two books agree (plain Lean). -/
namespace Go.Proofs.YtigknfkkegccgaaDoor.K
open Go.RowKit
set_option linter.unusedVariables false
set_option linter.unusedSimpArgs false
/-- The open ones of the document's book. -/
def openR : List So → List Bool → List So
  | o :: os, f :: fl => if f = true then o :: openR os fl else openR os fl
  | _, _ => []
theorem idsR_open : ∀ (rs : List So) (fl : List Bool), idsR rs fl = (openR rs fl).map So.id
  | [], _ => by simp [idsR, openR]
  | _ :: _, [] => by simp [idsR, openR]
  | o :: rs, f :: fl => by
    have h := idsR_open rs fl
    cases f <;> simp [idsR, openR, h]
theorem openR_app : ∀ (rs : List So) (fl : List Bool) (o : So), rs.length = fl.length → openR (rs ++ [o]) (fl ++ [true]) = openR rs fl ++ [o]
  | [], [], o, _ => by simp [openR]
  | [], _ :: _, o, h => by simp at h
  | _ :: _, [], o, h => by simp at h
  | a :: rs, f :: fl, o, h => by
    have h2 := openR_app rs fl o (by simpa using h)
    cases f <;> simp [openR, h2]
theorem findR_open {id : Int} : ∀ (rs : List So) (fl : List Bool) (n k : Nat), findR id rs fl n = some k → n ≤ k ∧ ∃ j, (openR rs fl).findIdx? (fun o => decide (o.id = id)) = some j ∧ (openR rs fl)[j]? = rs[k - n]? ∧ openR rs (fl.set (k - n) false) = (openR rs fl).eraseIdx j
  | [], _, n, k, h => by simp [findR] at h
  | _ :: _, [], n, k, h => by simp [findR] at h
  | o :: rs, f :: fl, n, k, h => by
    unfold findR at h
    by_cases hc : o.id = id ∧ f = true
    · rw [if_pos hc] at h
      obtain rfl := Option.some.inj h
      obtain ⟨h1, rfl⟩ := hc
      refine ⟨Nat.le_refl _, 0, ?_⟩
      simp [openR, List.findIdx?_cons, h1]
    · rw [if_neg hc] at h
      obtain ⟨h1, j, h2, h3, h4⟩ := findR_open rs fl (n + 1) k h
      have hk : k - n = (k - (n + 1)) + 1 := by omega
      rw [hk]
      cases f
      · refine ⟨by omega, j, ?_⟩
        simp [openR, h2, h3, h4]
      · have hne : o.id ≠ id := fun e => hc ⟨e, rfl⟩
        refine ⟨by omega, j + 1, ?_⟩
        simp [openR, List.findIdx?_cons, h2, h3, h4, hne]
theorem findR_open_none {id : Int} : ∀ (rs : List So) (fl : List Bool) (n : Nat), findR id rs fl n = none → (openR rs fl).findIdx? (fun o => decide (o.id = id)) = none
  | [], _, n, h => by simp [openR]
  | _ :: _, [], n, h => by simp [openR]
  | o :: rs, f :: fl, n, h => by
    unfold findR at h
    by_cases hc : o.id = id ∧ f = true
    · rw [if_pos hc] at h; cases h
    · rw [if_neg hc] at h
      have h2 := findR_open_none rs fl (n + 1) h
      cases f
      · simpa [openR] using h2
      · have hne : o.id ≠ id := fun e => hc ⟨e, rfl⟩
        simp [openR, List.findIdx?_cons, hne]
        simpa using h2
abbrev keyS (o : So) : Int × List Ln := (o.id, o.ls)
structure Agree (os : List So) (ids : List Int) (rs : List So) (fl : List Bool) : Prop where
  len : fl.length = rs.length
  ids : ids = rs.map So.id
  keys : os.map keyS = (openR rs fl).map keyS
theorem erase_mapA {α β : Type} (f : α → β) : ∀ (l : List α) (k : Nat), (l.eraseIdx k).map f = (l.map f).eraseIdx k
  | [], k => by simp
  | a :: l, 0 => by simp
  | a :: l, k + 1 => by simp [erase_mapA f l k]
theorem Agree.nil : Agree [] [] [] [] := ⟨rfl, rfl, rfl⟩
section
variable {os rs : List So} {ids : List Int} {fl : List Bool} {id : Int}
theorem Agree.mem (h : Agree os ids rs fl) : id ∈ ids ↔ ∃ o ∈ rs, o.id = id := by
  rw [h.ids, List.mem_map]
theorem Agree.idsR_ (h : Agree os ids rs fl) : idsR rs fl = os.map So.id := by
  have := congrArg (List.map Prod.fst) h.keys
  rw [List.map_map, List.map_map] at this
  rw [idsR_open]
  exact this.symm
theorem Agree.lens (h : Agree os ids rs fl) : ids.length = rs.length ∧ (idsR rs fl).length = os.length := ⟨by rw [h.ids, List.length_map], by rw [h.idsR_, List.length_map]⟩
theorem Agree.add (h : Agree os ids rs fl) (A A' : Option Addr) (c c' : Nat) (ls : List Ln) : Agree (os ++ [⟨id, A, c, ls⟩]) (ids ++ [id]) (rs ++ [⟨id, A', c', ls⟩]) (fl ++ [true]) :=
  ⟨by rw [List.length_append, List.length_append, h.len]; rfl, by rw [h.ids, List.map_append]; rfl, by rw [openR_app _ _ _ h.len.symm, List.map_append, List.map_append, h.keys]; rfl⟩
theorem idx_keys (l : List So) : idxO id l = (l.map keyS).findIdx? (fun x => decide (x.1 = id)) := by
  rw [List.findIdx?_map]
  rfl
theorem Agree.idx (h : Agree os ids rs fl) : idxO id os = (openR rs fl).findIdx? (fun o => decide (o.id = id)) := by
  rw [idx_keys, h.keys, ← idx_keys]
  rfl
theorem Agree.none_ (h : Agree os ids rs fl) (hf : findR id rs fl 0 = none) : idxO id os = none := by
  rw [h.idx]
  exact findR_open_none _ _ _ hf
theorem Agree.some_ (h : Agree os ids rs fl) {k : Nat} (hf : findR id rs fl 0 = some k) : ∃ j, idxO id os = some j ∧ (os[j]?).map keyS = (rs[k]?).map keyS ∧ Agree (os.eraseIdx j) ids rs (fl.set k false) := by
  obtain ⟨_, j, h2, h3, h4⟩ := findR_open _ _ _ _ hf
  rw [Nat.sub_zero] at h3 h4
  refine ⟨j, by rw [h.idx]; exact h2, ?_, by rw [List.length_set]; exact h.len, h.ids, ?_⟩
  · rw [← h3, ← List.getElem?_map, ← List.getElem?_map, h.keys]
  · rw [h4, erase_mapA, erase_mapA, h.keys]
end
end Go.Proofs.YtigknfkkegccgaaDoor.K

/- OrderPlays: Add, Close and Get of the document's book, whatever they answer. -/
namespace Go.Proofs.YtigknfkkegccgaaDoor.K
open Go.RowKit
set_option linter.unusedVariables false
set_option linter.unusedSimpArgs false
/-- What the document's Add answers. -/
def addRN (rs : List So) (fl : List Bool) (id : Int) (ls : List Ln) : Int := if rightO ls ≠ 0 then rightO ls else if ∃ o ∈ rs, o.id = id then 8 else if 16 ≤ (idsR rs fl).length ∨ 1024 ≤ rs.length then 5 else 0
def AddRR (H : Nat) (rs : List So) (fl : List Bool) (id : Int) (ls : List Ln) (n : Int) (rs' : List So) (fl' : List Bool) : Prop :=
  n = addRN rs fl id ls ∧ ((n ≠ 0 ∧ rs' = rs ∧ fl' = fl) ∨ (n = 0 ∧ ∃ A' c', rs' = rs ++ [⟨id, A', c', ls⟩] ∧ fl' = fl ++ [true] ∧ ∀ k, (Value.slice A' ls.length c').ownBlock = some k → H ≤ k))
theorem AddRAny {B r c : Nat} {vL vO : Value} {rs : List So} {fl : List Bool} {id : Int} {A : Option Addr} {ls : List Ln} {w : World} (h : RBk B r vL vO rs fl w) (hol : rs.length ≤ 100000) (hr : RowOf cL 3 w w.heap.size A ls) (hl : ls.length ≤ 1000) (ho : ∀ l ∈ ls, l.ok) :
    Calls Tryd.prog 19 #[.pointer (some ⟨r, 0, none⟩), .agg #[.int .u32 id, .slice A ls.length c]] w fun e w' => ∃ n vL' vO' rs' fl', e = .returned (.int .i64 n) ∧ AddRR w.heap.size rs fl id ls n rs' fl' ∧ Hid (RBk B r vL' vO' rs' fl' w') ∧ Hid (Fr (fun j => j = r) w w') ∧ Hid (∀ k, vL'.ownBlock = some k → vL.ownBlock = some k ∨ w.heap.size ≤ k) := by
  by_cases hn : rightO ls = 0
  · by_cases hm : ∃ o ∈ rs, o.id = id
    · refine (AddRTwice h hol hr hl ho hn hm).mono ?_
      rintro e w' ⟨rfl, F⟩
      exact ⟨_, vL, vO, rs, fl, rfl, ⟨by unfold addRN; rw [if_neg (by simp [hn]), if_pos hm], .inl ⟨by decide, rfl, rfl⟩⟩, Lib.hid (h.fr (Fr.of_below F.out) (fun _ _ _ h => h)), Lib.hid ((Fr.of_below F.out).mono (fun _ _ h => h.elim)), Lib.hid (fun k e => .inl e)⟩
    · by_cases hf : 16 ≤ (idsR rs fl).length ∨ 1024 ≤ rs.length
      · refine (AddRFull h hol hr hl ho hn (fun o ho e => hm ⟨o, ho, e⟩) hf).mono ?_
        rintro e w' ⟨rfl, F⟩
        exact ⟨_, vL, vO, rs, fl, rfl, ⟨by unfold addRN; rw [if_neg (by simp [hn]), if_neg hm, if_pos hf], .inl ⟨by decide, rfl, rfl⟩⟩, Lib.hid (h.fr (Fr.of_below F.out) (fun _ _ _ h => h)), Lib.hid ((Fr.of_below F.out).mono (fun _ _ h => h.elim)), Lib.hid (fun k e => .inl e)⟩
      · refine (AddRC h hol hr hl ho hn (fun o ho e => hm ⟨o, ho, e⟩) (by omega)).mono ?_
        rintro e w' ⟨rfl, A', c', vL', vO', HM, HB, HF, HV⟩
        exact ⟨_, vL', vO', _, _, rfl, ⟨by unfold addRN; rw [if_neg (by simp [hn]), if_neg hm, if_neg hf], .inr ⟨rfl, A', c', rfl, rfl, fun k e => (HM.out.1.lt k e).1⟩⟩, HB, HF, Lib.hid (fun k e => .inr (HV.out k e))⟩
  · refine (AddRNo hr hl ho hn).mono ?_
    rintro e w' ⟨rfl, F⟩
    exact ⟨_, vL, vO, rs, fl, rfl, ⟨by unfold addRN; rw [if_pos hn], .inl ⟨hn, rfl, rfl⟩⟩, Lib.hid (h.fr (Fr.of_below F.out) (fun _ _ _ h => h)), Lib.hid ((Fr.of_below F.out).mono (fun _ _ h => h.elim)), Lib.hid (fun k e => .inl e)⟩
def closeRN (rs : List So) (fl : List Bool) (id : Int) : Int := if findR id rs fl 0 = none then 6 else 0
def closeF (rs : List So) (fl : List Bool) (id : Int) : List Bool := match findR id rs fl 0 with
  | some k => fl.set k false
  | none => fl
theorem CloseRAny {B r : Nat} {vL vO : Value} {rs : List So} {fl : List Bool} {id : Int} {w : World} (h : RBk B r vL vO rs fl w) (hl : rs.length ≤ 100000) :
    Calls Tryd.prog 21 #[.pointer (some ⟨r, 0, none⟩), .int .u32 id] w fun e w' => e = .returned (.int .i64 (closeRN rs fl id)) ∧ Hid (RBk B r vL vO rs (closeF rs fl id) w') ∧ Hid (Fr (fun j => vO.ownBlock = some j) w w') := by
  unfold closeRN closeF
  cases hi : findR id rs fl 0 with
  | none =>
    refine (CloseRNo h hl hi).mono ?_
    rintro e w' ⟨rfl, rfl⟩
    exact ⟨rfl, Lib.hid h, Lib.hid (Fr.refl _ _)⟩
  | some k => exact CloseRC h hl hi
/-- What Get tells, in each book. -/
def getK (os : List So) (id : Int) : Int × List Ln × Bool := match idxO id os with
  | none => (0, [], false)
  | some k => match os[k]? with
    | none => (0, [], false)
    | some o => (o.id, o.ls, true)
def getRK (rs : List So) (fl : List Bool) (id : Int) : Int × List Ln × Bool := match findR id rs fl 0 with
  | none => (0, [], false)
  | some k => match rs[k]? with
    | none => (0, [], false)
    | some o => (o.id, o.ls, true)
theorem GetAny {B b g : Nat} {v : Value} {os : List So} {ids : List Int} {id i : Int} {ls : List Ln} {bb : Bool} {w : World} (h : Bk B b g v os ids w) (hl : os.length ≤ 1000) (hll : ∀ o ∈ os, o.ls.length ≤ 12) (hg : getK os id = (i, ls, bb)) :
    Calls Tryd.prog 24 #[.pointer (some ⟨b, 0, none⟩), .int .u32 id] w fun e w' => ∃ A' c', e = .returned (.tuple #[.agg #[.int .u32 i, .slice A' ls.length c'], .bool bb]) ∧ Hid (MadeL w.heap.size A' c' ls w') ∧ Hid (Below w.heap.size w w') := by
  unfold getK at hg
  cases hi : idxO id os with
  | none =>
    rw [hi] at hg
    simp only [Prod.mk.injEq] at hg
    obtain ⟨rfl, rfl, rfl⟩ := hg
    refine (GetNo h hl hi).mono ?_
    rintro e w' ⟨rfl, F⟩
    exact ⟨none, 0, rfl, Lib.hid (MadeL.nil_ _ _), F⟩
  | some k =>
    obtain ⟨hk, _⟩ := idxO_some hi
    have ho : os[k]? = some os[k] := List.getElem?_eq_getElem hk
    rw [hi] at hg
    simp only [ho, Prod.mk.injEq] at hg
    obtain ⟨rfl, rfl, rfl⟩ := hg
    exact GetC h hl ho hi (Nat.le_trans (hll _ (List.getElem_mem hk)) (by decide))
theorem GetRAny {B r : Nat} {vL vO : Value} {rs : List So} {fl : List Bool} {id i : Int} {ls : List Ln} {bb : Bool} {w : World} (h : RBk B r vL vO rs fl w) (hl : rs.length ≤ 100000) (hg : getRK rs fl id = (i, ls, bb)) :
    Calls Tryd.prog 25 #[.pointer (some ⟨r, 0, none⟩), .int .u32 id] w fun e w' => ∃ A' c', e = .returned (.tuple #[.agg #[.int .u32 i, .slice A' ls.length c'], .bool bb]) ∧ Hid (RowOf cL 3 w w.heap.size A' ls) ∧ Hid (Below w.heap.size w w') := by
  unfold getRK at hg
  cases hi : findR id rs fl 0 with
  | none =>
    rw [hi] at hg
    simp only [Prod.mk.injEq] at hg
    obtain ⟨rfl, rfl, rfl⟩ := hg
    refine (GetRNo h hl hi).mono ?_
    rintro e w' ⟨rfl, F⟩
    exact ⟨none, 0, rfl, Lib.hid (MadeL.nil_ 0 _).2.1, F⟩
  | some k =>
    obtain ⟨_, hk, _⟩ := findR_lt rs fl 0 k hi
    have hk : k < rs.length := by omega
    have ho : rs[k]? = some rs[k] := List.getElem?_eq_getElem hk
    rw [hi] at hg
    simp only [ho, Prod.mk.injEq] at hg
    obtain ⟨rfl, rfl, rfl⟩ := hg
    refine (GetRC h hl hi ho).mono ?_
    rintro e w' ⟨rfl, F⟩
    exact ⟨_, _, rfl, Lib.hid (h.each _ (List.getElem_mem hk)).2.1, F⟩
section
variable {os rs : List So} {ids : List Int} {fl : List Bool} {id : Int}
theorem Agree.addN_ (h : Agree os ids rs fl) (ls : List Ln) : addN os ids id ls = addRN rs fl id ls := by
  unfold addN addRN
  obtain ⟨h1, h2⟩ := h.lens
  by_cases hn : rightO ls ≠ 0
  · rw [if_pos hn, if_pos hn]
  · rw [if_neg hn, if_neg hn]
    by_cases hm : id ∈ ids
    · rw [if_pos hm, if_pos (h.mem.1 hm)]
    · rw [if_neg hm, if_neg (fun e => hm (h.mem.2 e)), h1, h2]
/-- Both books behind Add. -/
theorem Agree.both {H H' : Nat} {ls : List Ln} {n n' : Int} {os' rs' : List So} {ids' : List Int} {fl' : List Bool} (h : Agree os ids rs fl) (h1 : AddR H os ids id ls n os' ids') (h2 : AddRR H' rs fl id ls n' rs' fl') (hf : ∀ o ∈ os, o.ls.length ≤ 12) (hl : ls.length ≤ 12) (ho : os.length ≤ 16) : n' = n ∧ Agree os' ids' rs' fl' ∧ rs'.length ≤ rs.length + 1 ∧ os'.length ≤ 16 ∧ (∀ o ∈ os', o.ls.length ≤ 12) ∧ (∀ o ∈ os', o ∈ os ∨ ∀ k, (Value.slice o.A o.ls.length o.c).ownBlock = some k → H ≤ k) ∧ (∀ o ∈ rs', o ∈ rs ∨ ∀ k, (Value.slice o.A o.ls.length o.c).ownBlock = some k → H' ≤ k) := by
  obtain ⟨e1, h1⟩ := h1
  obtain ⟨e2, h2⟩ := h2
  have hnn : n' = n := by rw [e1, e2, h.addN_]
  refine ⟨hnn, ?_⟩
  subst hnn
  rcases h1 with ⟨z1, rfl, rfl⟩ | ⟨z1, A1, c1, rfl, rfl, k1⟩
  · rcases h2 with ⟨_, rfl, rfl⟩ | ⟨z2, _⟩
    · exact ⟨h, by omega, ho, hf, fun o h => .inl h, fun o h => .inl h⟩
    · exact absurd z2 z1
  · rcases h2 with ⟨z2, _⟩ | ⟨_, A2, c2, rfl, rfl, k2⟩
    · exact absurd z1 z2
    · refine ⟨h.add A1 A2 c1 c2 ls, by simp, ?_, fun o ho => ?_, fun o ho => ?_, fun o ho => ?_⟩
      · have : ¬ 16 ≤ os.length := fun h => by
          have : addN os ids id ls ≠ 0 := by
            unfold addN
            split
            · assumption
            · split
              · decide
              · rw [if_pos (.inl h)]; decide
          omega
        rw [List.length_append, List.length_singleton]
        omega
      · rcases List.mem_append.1 ho with ho | ho
        · exact hf o ho
        · rw [List.mem_singleton] at ho; subst ho; exact hl
      · rcases List.mem_append.1 ho with ho | ho
        · exact .inl ho
        · rw [List.mem_singleton] at ho; subst ho; exact .inr k1
      · rcases List.mem_append.1 ho with ho | ho
        · exact .inl ho
        · rw [List.mem_singleton] at ho; subst ho; exact .inr k2
theorem Agree.close (h : Agree os ids rs fl) : closeN os id = closeRN rs fl id ∧ Agree (closeO os id) ids rs (closeF rs fl id) := by
  unfold closeN closeRN closeO closeF
  cases hi : findR id rs fl 0 with
  | none =>
    have := h.none_ hi
    rw [this]
    exact ⟨by simp, h⟩
  | some k =>
    obtain ⟨j, h1, _, h3⟩ := h.some_ hi
    rw [h1]
    exact ⟨by simp, h3⟩
theorem closeO_sub : (closeO os id).length ≤ os.length ∧ ∀ o ∈ closeO os id, o ∈ os := by
  unfold closeO
  split
  · exact ⟨by rw [List.length_eraseIdx]; split <;> omega, fun o h => List.mem_of_mem_eraseIdx h⟩
  · exact ⟨Nat.le_refl _, fun o h => h⟩
theorem Agree.get (h : Agree os ids rs fl) : getK os id = getRK rs fl id := by
  unfold getK getRK
  cases hi : findR id rs fl 0 with
  | none => rw [h.none_ hi]
  | some k =>
    obtain ⟨j, h1, h2, _⟩ := h.some_ hi
    rw [h1]
    simp only
    cases e1 : os[j]? with
    | none =>
      rw [e1] at h2
      cases e2 : rs[k]? with
      | none => rfl
      | some o => rw [e2] at h2; cases h2
    | some o =>
      rw [e1] at h2
      cases e2 : rs[k]? with
      | none => rw [e2] at h2; cases h2
      | some o' =>
        rw [e2] at h2
        simp only [Option.map_some, keyS, Option.some.injEq, Prod.mk.injEq] at h2
        simp only [h2.1, h2.2]
theorem getK_len {i : Int} {ls : List Ln} {bb : Bool} (hf : ∀ o ∈ os, o.ls.length ≤ 12) (h : getK os id = (i, ls, bb)) : ls.length ≤ 12 := by
  unfold getK at h
  split at h
  · simp only [Prod.mk.injEq] at h; rw [← h.2.1]; simp
  · split at h
    · simp only [Prod.mk.injEq] at h; rw [← h.2.1]; simp
    · rename_i o ho
      simp only [Prod.mk.injEq] at h; rw [← h.2.1]
      exact hf o (List.mem_of_getElem? ho)
end
end Go.Proofs.YtigknfkkegccgaaDoor.K

/- OrderPlays: both books in one heap. -/
namespace Go.Proofs.YtigknfkkegccgaaDoor.K
open Go.RowKit
set_option linter.unusedVariables false
set_option linter.unusedSimpArgs false
structure Two (B b g r : Nat) (v vL vO : Value) (os rs : List So) (ids : List Int) (fl : List Bool) (w : World) : Prop where
  bk : Bk B b g v os ids w
  rk : RBk B r vL vO rs fl w
  ap : ∀ k, v.ownBlock = some k → vL.ownBlock ≠ some k
  ag : Agree os ids rs fl
  few : ∀ o ∈ os, o.ls.length ≤ 12
  le : os.length ≤ 16
section
variable {B b g r : Nat} {v vL vO : Value} {os rs : List So} {ids : List Int} {fl : List Bool} {w w' : World}
theorem Two.fr0 (h : Two B b g r v vL vO os rs ids fl w) (k : Fr0 w w') : Two B b g r v vL vO os rs ids fl w' :=
  ⟨h.bk.fr k (fun _ _ _ h => h), h.rk.fr k (fun _ _ _ h => h), h.ap, h.ag, h.few, h.le⟩
theorem Two.lt (h : Two B b g r v vL vO os rs ids fl w) : B ≤ w.heap.size := h.bk.lt
/-- A row that is no book's is written: of which type it is not. -/
theorem Two.put {B' size n q : Nat} {e : TypeId} {u : Value} {xs : List Value} (h : Two B b g r v vL vO os rs ids fl w) (k : Fr (fun j => j = q) w w') (hm : w.ownsRow B' e size u n xs) (hq : u.ownBlock = some q) (e1 : e ≠ 25) (e2 : e ≠ 95) (e3 : e ≠ 46) (e4 : e ≠ 4)
    (ho : ∀ o ∈ os, (Value.slice o.A o.ls.length o.c).ownBlock ≠ some q) (hr : ∀ o ∈ rs, (Value.slice o.A o.ls.length o.c).ownBlock ≠ some q) : Two B b g r v vL vO os rs ids fl w' :=
  ⟨⟨h.bk.blk.fr k (fun e => own_blk_ne hm h.bk.blk e2 (e ▸ hq)), own_fr h.bk.row k (fun j e e' => own_ne hm h.bk.row e1 q hq (e' ▸ e)), fun o hmo => (h.bk.each o hmo).fr k (fun j e e' => ho o hmo (e' ▸ e)), h.bk.ever.fr k (fun e => ever_own_ne h.bk.ever hm (e ▸ hq)), h.bk.low⟩,
   ⟨h.rk.blk.fr k (fun e => own_blk_ne hm h.rk.blk e3 (e ▸ hq)), own_fr h.rk.rowL k (fun j e e' => own_ne hm h.rk.rowL e1 q hq (e' ▸ e)), own_fr h.rk.rowO k (fun j e e' => own_ne hm h.rk.rowO e4 q hq (e' ▸ e)), fun o hmo => (h.rk.each o hmo).fr k (fun j e e' => hr o hmo (e' ▸ e)), h.rk.low, h.rk.len⟩, h.ap, h.ag, h.few, h.le⟩
/-- The blocks of the lines that are kept lie below the heap's end. -/
theorem Two.each_lt (h : Two B b g r v vL vO os rs ids fl w) : (∀ o ∈ os, ∀ k, (Value.slice o.A o.ls.length o.c).ownBlock = some k → k < w.heap.size) ∧ (∀ o ∈ rs, ∀ k, (Value.slice o.A o.ls.length o.c).ownBlock = some k → k < w.heap.size) :=
  ⟨fun o ho k e => ((h.bk.each o ho).1.lt k e).2, fun o ho k e => ((h.rk.each o ho).1.lt k e).2⟩
/-- The program's book turns, the document's stays. -/
theorem RBk.beside {b g : Nat} {v : Value} {os : List So} {ids : List Int} (h : RBk B r vL vO rs fl w) (hb : Bk B b g v os ids w) (k : Fr (fun j => j = b ∨ j = g ∨ v.ownBlock = some j) w w') (ap : ∀ k, v.ownBlock = some k → vL.ownBlock ≠ some k) : RBk B r vL vO rs fl w' := by
  have hbl := hb.blk
  refine ⟨h.blk.fr k ?_, own_fr h.rowL k ?_, own_fr h.rowO k ?_, fun o ho => hb.keepL k (h.each o ho), h.low, h.len⟩
  · rintro (e | e | e)
    · exact Blk.ne_ h.blk hb.blk (by decide) e
    · obtain ⟨D, ⟨es, clock, hh, _⟩, _⟩ := hb.ever
      have h2 : w.heap[g]? = some (.cells #[vL, vO] 46 (0, 0)) := by rw [← e]; exact h.blk
      rw [hh] at h2
      cases h2
    · exact own_blk_ne hb.row h.blk (by decide) e
  · rintro j e (e' | e' | e')
    · subst e'; exact own_blk_ne h.rowL hb.blk (by decide) e
    · subst e'; exact ever_own_ne hb.ever h.rowL e
    · exact ap j e' e
  · rintro j e (e' | e' | e')
    · subst e'; exact own_blk_ne h.rowO hb.blk (by decide) e
    · subst e'; exact ever_own_ne hb.ever h.rowO e
    · exact own_ne h.rowO hb.row (by decide) j e e'
/-- The document's book turns at r alone. -/
theorem Bk.besideR {S : Nat → Prop} (hb : Bk B b g v os ids w) (h : RBk B r vL vO rs fl w) (k : Fr (fun j => j = r) w w') : Bk B b g v os ids w' := by
  refine ⟨hb.blk.fr k ?_, own_fr hb.row k ?_, fun o ho => (hb.each o ho).fr k ?_, hb.ever.fr k ?_, hb.low⟩
  · exact fun e => Blk.ne_ hb.blk h.blk (by decide) e
  · exact fun j e e' => own_blk_ne hb.row h.blk (by decide) (e' ▸ e)
  · exact fun j e e' => own_blk_ne (hb.each o ho).1 h.blk (by decide) (e' ▸ e)
  · intro e
    obtain ⟨D, ⟨es, clock, hh, _⟩, _⟩ := hb.ever
    have h2 : w.heap[g]? = some (.cells #[vL, vO] 46 (0, 0)) := by rw [e]; exact h.blk
    rw [hh] at h2
    cases h2
/-- The document's book turns in its row of flags. -/
theorem Bk.besideO (hb : Bk B b g v os ids w) (h : RBk B r vL vO rs fl w) (k : Fr (fun j => vO.ownBlock = some j) w w') : Bk B b g v os ids w' := by
  refine ⟨hb.blk.fr k ?_, own_fr hb.row k ?_, fun o ho => (hb.each o ho).fr k ?_, hb.ever.fr k ?_, hb.low⟩
  · exact fun e => own_blk_ne h.rowO hb.blk (by decide) e
  · exact fun j e e' => own_ne h.rowO hb.row (by decide) j e' e
  · exact fun j e e' => own_ne h.rowO (hb.each o ho).1 (by decide) j e' e
  · exact fun e => ever_own_ne hb.ever h.rowO e
end
/-- A line of a row is written over: three stores. -/
theorem MadeL.zero {B c k : Nat} {A : Option Addr} {l : List Ln} {w : World} (h : MadeL B A c l w) (hk : k < l.length) :
    ∃ g, A = some ⟨g, 0, none⟩ ∧ B ≤ g ∧ g < w.heap.size ∧ (Value.slice A l.length c).ownBlock = some g ∧ w.cell? ⟨g, k * 3, none⟩ = some (.int .u16 (l[k]).item) ∧ w.frozen? ⟨g, k * 3, none⟩ = false ∧
      (w.setCell ⟨g, k * 3, none⟩ (.int .u16 0)).cell? ⟨g, k * 3 + 1, none⟩ = some (.int .u16 (l[k]).loc) ∧ (w.setCell ⟨g, k * 3, none⟩ (.int .u16 0)).frozen? ⟨g, k * 3 + 1, none⟩ = false ∧
      ((w.setCell ⟨g, k * 3, none⟩ (.int .u16 0)).setCell ⟨g, k * 3 + 1, none⟩ (.int .u16 0)).cell? ⟨g, k * 3 + 2, none⟩ = some (.int .i64 (l[k]).qty) ∧ ((w.setCell ⟨g, k * 3, none⟩ (.int .u16 0)).setCell ⟨g, k * 3 + 1, none⟩ (.int .u16 0)).frozen? ⟨g, k * 3 + 2, none⟩ = false ∧
      MadeL B (some ⟨g, 0, none⟩) c (l.set k ⟨0, 0, 0⟩) (((w.setCell ⟨g, k * 3, none⟩ (.int .u16 0)).setCell ⟨g, k * 3 + 1, none⟩ (.int .u16 0)).setCell ⟨g, k * 3 + 2, none⟩ (.int .i64 0)) ∧
      Fr (fun j => j = g) w (((w.setCell ⟨g, k * 3, none⟩ (.int .u16 0)).setCell ⟨g, k * 3 + 1, none⟩ (.int .u16 0)).setCell ⟨g, k * 3 + 2, none⟩ (.int .i64 0)) := by
  obtain ⟨g, rfl, hB, hlt, hc0, hf0, hs0⟩ := h.set hk (f := 0) (by omega)
  have h1 := hs0 ⟨0, (l[k]).loc, (l[k]).qty⟩ (.int .u16 0) rfl
  have hl1 : k < (l.set k ⟨0, (l[k]).loc, (l[k]).qty⟩).length := by rw [List.length_set]; exact hk
  obtain ⟨g1, e1, _, _, hc1, hf1, hs1⟩ := h1.set hl1 (f := 1) (by omega)
  obtain rfl : g = g1 := by injection e1 with e1; injection e1
  rw [List.getElem_set_self] at hc1 hs1
  have h2 := hs1 ⟨0, 0, (l[k]).qty⟩ (.int .u16 0) rfl
  rw [List.set_set] at h2
  have hl2 : k < (l.set k ⟨0, 0, (l[k]).qty⟩).length := by rw [List.length_set]; exact hk
  obtain ⟨g2, e2, _, _, hc2, hf2, hs2⟩ := h2.set hl2 (f := 2) (by omega)
  obtain rfl : g = g2 := by injection e2 with e2; injection e2
  rw [List.getElem_set_self] at hc2 hs2
  have h3 := hs2 ⟨0, 0, 0⟩ (.int .i64 0) rfl
  rw [List.set_set] at h3
  refine ⟨g, rfl, hB, hlt, rfl, hc0, hf0, hc1, hf1, hc2, hf2, h3, ?_⟩
  exact (((Fr.refl (fun j => j = g) w).setCell (p := ⟨g, k * 3 + 0, none⟩) (fun _ => rfl) _).setCell (p := ⟨g, k * 3 + 1, none⟩) (fun _ => rfl) _).setCell (p := ⟨g, k * 3 + 2, none⟩) (fun _ => rfl) _
/-- A number of a row of the call's own: read, and written over. -/
theorem num_at {B n c k : Nat} {A : Option Addr} {L : List Int} {w : World} (h : w.ownsRow B 22 1 (.slice A n c) n (nums .u32 L)) (hk : k < L.length) (hn : L.length = n) :
    ∃ g, A = some ⟨g, 0, none⟩ ∧ B ≤ g ∧ g < w.heap.size ∧ (Value.slice A n c).ownBlock = some g ∧ w.cell? ⟨g, k, none⟩ = some (.int .u32 (L.getD k 0)) ∧ w.frozen? ⟨g, k, none⟩ = false ∧
      (w.setCell ⟨g, k, none⟩ (.int .u32 0)).ownsRow B 22 1 (.slice (some ⟨g, 0, none⟩) n c) n (nums .u32 (L.set k 0)) ∧ Fr (fun j => j = g) w (w.setCell ⟨g, k, none⟩ (.int .u32 0)) := by
  obtain ⟨g, cap, hv, hb, hlt⟩ := h.form (by omega)
  have hA : A = some ⟨g, 0, none⟩ := by injection hv
  subst hA
  have h4 := (h.stored k (.int .u32 0)).1
  refine ⟨g, rfl, hb, hlt, rfl, (h.cellAt k (by omega)).trans ?_, h.frozenAt k, ?_, (Fr.refl (fun j => j = g) w).setCell (p := ⟨g, k, none⟩) (fun _ => rfl) _⟩
  · simp [nums, List.getD_eq_getElem?_getD, List.getElem?_eq_getElem hk]
  · have : (nums .u32 L).set k (.int .u32 0) = nums .u32 (L.set k 0) := by simp [nums, List.map_set]
    rw [← this]; exact h4
end Go.Proofs.YtigknfkkegccgaaDoor.K

/- OrderPlays: its walk. -/
namespace Go.Proofs.YtigknfkkegccgaaDoor.K
open Go.RowKit
set_option linter.unusedVariables false
set_option linter.unusedSimpArgs false
attribute [local go_sem ↓] Go.wp_at_zero Go.wp_at_succ
set_option maxHeartbeats 16000000 in
set_option maxRecDepth 20000 in
theorem oplays_walk (Q : Option Addr) (q : Nat) (l : List Sp) (w : World) (hQ : RowOf cS 4 w w.heap.size Q l) (hs : ∀ s ∈ l, SpOk w s) :
    Calls Tryd.prog 4 #[.slice Q l.length q] w fun e w' => e = .returned (.bool true) ∧ Below w.heap.size w w' := by
  have HQ := Lib.hid hQ
  have HS := Lib.hid hs
  clear hQ hs
  go_enter Tryd.func4, Tryd.ntmps4
  go_wp2_with fail
  refine Calls.mono shown14_walk ?_
  rintro e w1 ⟨rfl, F1⟩
  go_wp2_with fail
  refine Calls.mono (NewBookC w1) ?_
  rintro e w2 ⟨b, g, rfl, HK2, HF2⟩
  have hs1 := F1.out.size
  have hs2 := HF2.out.size
  have HT3 : Hid (Two w1.heap.size b g w2.heap.size (.slice none 0 0) (.slice none 0 0) (.slice none 0 0) [] [] [] [] (w2.alloc (.cells #[.slice none 0 0, .slice none 0 0] 46))) := Lib.hid ⟨HK2.out.fr ((Fr.refl (fun _ => False) w2).alloc _) (fun _ _ _ h => h), ⟨Blk.new w2 _ _, own_nil _ _ _ _, own_nil _ _ _ _, (fun o ho => by cases ho), hs2, rfl⟩, (fun k e => by simp [Value.ownBlock] at e), Agree.nil, (fun o ho => by cases ho), by simp⟩
  have D3 : Hid (Below w.heap.size w (w2.alloc (.cells #[.slice none 0 0, .slice none 0 0] 46))) := Lib.hid ((F1.out.trans (HF2.out.below0.mono hs1)).alloc (Nat.le_trans hs1 hs2) _)
  clear HK2 HF2
  go_wp2_with fail
  generalize w2.alloc (.cells #[.slice none 0 0, .slice none 0 0] 46) = w3 at *
  generalize w2.heap.size = r at *
  generalize w1.heap.size = B0 at *
  clear hs2 F1
  go_loopw [6] (fun i wr => ∃ (k : Nat) (v vL vO : Value) (os rs : List So) (ids : List Int) (fl : List Bool), i = .int .i64 k ∧ k ≤ l.length ∧ k ≤ 100 ∧ rs.length ≤ k ∧ Two B0 b g r v vL vO os rs ids fl wr ∧ Below w.heap.size w wr) (fun i _ => 100 - (intOf i).toNat)
  case atStart => exact ⟨0, _, _, _, _, _, _, _, rfl, by omega, by omega, by simp, HT3.out, D3.out⟩
  case round =>
    clear HT3 D3
    obtain ⟨k, v, vL, vO, os, rs, ids, fl, rfl, hkl, hk100, hrk, ht, hf⟩ := hrel
    have HT := Lib.hid ht
    have HF := Lib.hid hf
    clear ht hf
    by_cases hgo : k < l.length ∧ k < 100
    · obtain ⟨hlt, h100⟩ := hgo
      obtain ⟨ad, rfl, _, c0, c1, c2', c3⟩ := (RowOf.below HQ.out HF.out).sp hlt
      have hsp := HS.out _ (List.getElem_mem hlt)
      generalize l[k] = s at *
      obtain ⟨sk, so, sA, sc, sl, si⟩ := s
      simp only at c0 c1 c2' c3
      obtain ⟨⟨q1, q2⟩, hso, hsi, hsr, hsc, hsok⟩ := hsp
      simp only at q1 q2 hso hsi hsr hsc hsok
      have HSR := Lib.hid hsr
      have HSOK := Lib.hid hsok
      clear hsr hsok
      have F1 : Fr0 wr (wr.alloc (.cells #[.int .i64 sk, .int .u32 so, .slice sA sl.length sc, .int .u32 si] 48)) := (Fr.refl (fun _ => False) wr).alloc _
      have hnb := Blk.new wr 48 #[.int .i64 sk, .int .u32 so, .slice sA sl.length sc, .int .u32 si]
      have n0 := hnb.cell 0
      have n1 := hnb.cell 1
      have n2 := hnb.cell 2
      have n3 := hnb.cell 3
      have HT1 := Lib.hid (HT.out.fr0 F1)
      have HF1 := Lib.hid (HF.out.alloc HF.out.size (.cells #[.int .i64 sk, .int .u32 so, .slice sA sl.length sc, .int .u32 si] 48))
      have HVB : Hid (∀ j, v.ownBlock = some j → j < wr.heap.size) := Lib.hid (fun j e => (HT.out.bk.row.lt j e).2)
      clear F1 hnb HT
      go_upto_block 2 with (fail)
      go_cut [8, 9, 10, 11] from 27 to 156 (fun s8 s9 _ _ wx => ∃ (id : Int) (v vL vO : Value) (os rs : List So) (ids : List Int) (fl : List Bool), s8 = .bool true ∧ s9 = .int .u32 id ∧ rs.length ≤ k + 1 ∧ Two B0 b g r v vL vO os rs ids fl wx ∧ Below w.heap.size w wx)
      case first =>
        rcases (by omega : sk = 1 ∨ sk = 2 ∨ sk = 3 ∨ sk = 4 ∨ (sk ≠ 1 ∧ sk ≠ 2 ∧ sk ≠ 3 ∧ sk ≠ 4)) with hk | hk | hk | hk | ⟨z1, z2, z3, z4⟩
        · subst hk
          have qF := FewC (id := so) hsc (HSR.out.now HF1.out)
          go_wp2_with fail
          refine Calls.mono qF ?_
          clear qF
          rintro e w5 ⟨A5, c5, rfl, HM5, HF5⟩
          have ht12 : (sl.take 12).length ≤ 12 := by rw [List.length_take]; omega
          have HOK5 : Hid (∀ x ∈ sl.take 12, x.ok) := Lib.hid (fun x hx => HSOK.out x (List.mem_of_mem_take hx))
          generalize sl.take 12 = st at *
          have HEL := Lib.hid HT1.out.each_lt
          have hw1 := HF1.out.size
          have hwr : wr.heap.size < (wr.alloc (.cells #[.int .i64 1, .int .u32 so, .slice sA sl.length sc, .int .u32 si] 48)).heap.size := by simp
          generalize wr.alloc (.cells #[.int .i64 1, .int .u32 so, .slice sA sl.length sc, .int .u32 si] 48) = W1 at *
          have F6 : Fr0 w5 (w5.alloc (.cells #[.int .u32 so, .slice A5 st.length c5] 25)) := (Fr.refl (fun _ => False) w5).alloc _
          have HT6 := Lib.hid ((HT1.out.fr0 HF5.out).fr0 F6)
          have HM6 := Lib.hid (HM5.out.fr F6 (fun _ _ h => h))
          have hx6 := Blk.new w5 25 #[.int .u32 so, .slice A5 st.length c5]
          have x0 := hx6.cell 0
          have x1 := hx6.cell 1
          have HX6 := Lib.hid hx6
          have D6 := Lib.hid ((HF1.out.trans (HF5.out.below0.mono HF1.out.size)).alloc (Nat.le_trans HF1.out.size HF5.out.size) (.cells #[.int .u32 so, .slice A5 st.length c5] 25))
          have hsz5 := HF5.out.size
          have hsz6 : w5.heap.size < (w5.alloc (.cells #[.int .u32 so, .slice A5 st.length c5] 25)).heap.size := by simp
          have HLT5 : Hid (∀ j, (Value.slice A5 st.length c5).ownBlock = some j → W1.heap.size ≤ j ∧ j < w5.heap.size) := Lib.hid (fun j e => HM5.out.1.lt j e)
          have hcap5 := HM5.out.2.2
          clear F6 hx6 HM5 HT1 HF1 HF5 HSR HSOK n0 n1 n2 n3
          go_wp2_with fail
          generalize w5.alloc (.cells #[.int .u32 so, .slice A5 st.length c5] 25) = W6 at *
          generalize w5.heap.size = q5 at *
          have hqv : ∀ j, v.ownBlock = some j → j ≠ q5 := fun j e => by have := HVB.out j e; omega
          have HQV := Lib.hid hqv
          have qA : ∀ W, Fr0 W6 W → Calls Tryd.prog 19 #[.pointer (some ⟨r, 0, none⟩), .agg #[.int .u32 so, .slice A5 st.length c5]] W fun e w7 => ∃ n7 vL7 vO7 rs7 fl7, e = .returned (.int .i64 n7) ∧ Hid (AddRR W.heap.size rs fl so st n7 rs7 fl7) ∧ Hid (RBk B0 r vL7 vO7 rs7 fl7 w7) ∧ Hid (Bk B0 b g v os ids w7) ∧ Hid (∀ j, v.ownBlock = some j → vL7.ownBlock ≠ some j) ∧ Hid (MadeL W1.heap.size A5 c5 st w7) ∧ Hid (Blk w7 q5 25 #[.int .u32 so, .slice A5 st.length c5]) ∧ Hid (Below w.heap.size w w7) ∧ Hid (W6.heap.size ≤ w7.heap.size) := fun W hW => by
            have t := HT6.out.fr0 hW
            have m := HM6.out.fr hW (fun _ _ h => h)
            have x := HX6.out.fr hW (fun h => h)
            refine (AddRAny (id := so) (c := c5) t.rk (by omega) m.2.1 (by omega) HOK5.out).mono ?_
            rintro e w7 ⟨n7, vL7, vO7, rs7, fl7, rfl, HA7, HR7, HF7, HL7⟩
            refine ⟨n7, vL7, vO7, rs7, fl7, rfl, Lib.hid HA7, HR7, Lib.hid (t.bk.besideR (S := fun _ => False) t.rk HF7.out), Lib.hid (fun j e e' => ?_), Lib.hid (m.fr HF7.out (fun j e e' => own_blk_ne m.1 t.rk.blk (by decide) (e' ▸ e))), Lib.hid (x.fr HF7.out (fun e => Blk.ne_ x t.rk.blk (by decide) e)), Lib.hid ?_, Lib.hid (Nat.le_trans hW.size HF7.out.size)⟩
            · rcases HL7.out j e' with h | h
              · exact t.ap j e h
              · have := (t.bk.row.lt j e).2; omega
            · exact (D6.out.trans (hW.below0.mono D6.out.size)).trans (HF7.out.below (fun j _ e => by have := t.rk.low; omega) (Nat.le_trans D6.out.size hW.size))
          have qB : ∀ W w7 vL7 vO7 rs7 fl7, Bk B0 b g v os ids w7 → RBk B0 r vL7 vO7 rs7 fl7 w7 → (∀ j, v.ownBlock = some j → vL7.ownBlock ≠ some j) → MadeL W1.heap.size A5 c5 st w7 → Blk w7 q5 25 #[.int .u32 so, .slice A5 st.length c5] → Below w.heap.size w w7 → W6.heap.size ≤ w7.heap.size → Fr0 w7 W → Calls Tryd.prog 20 #[.pointer (some ⟨b, 0, none⟩), .agg #[.int .u32 so, .slice A5 st.length c5]] W fun e w8 => ∃ n8 v8 os8 ids8, e = .returned (.int .i64 n8) ∧ Hid (AddR w7.heap.size os ids so st n8 os8 ids8) ∧ Hid (Bk B0 b g v8 os8 ids8 w8) ∧ Hid (RBk B0 r vL7 vO7 rs7 fl7 w8) ∧ Hid (∀ j, v8.ownBlock = some j → vL7.ownBlock ≠ some j) ∧ Hid (MadeL W1.heap.size A5 c5 st w8) ∧ Hid (Blk w8 q5 25 #[.int .u32 so, .slice A5 st.length c5]) ∧ Hid (Below w.heap.size w w8) := fun W w7 vL7 vO7 rs7 fl7 h1 h2 h3 h4 h5 h6 h7 hW => by
            have k1 := h1.fr hW (fun _ _ _ h => h)
            have k2 := h2.fr hW (fun _ _ _ h => h)
            have k4 := h4.fr hW (fun _ _ h => h)
            have k5 := h5.fr hW (fun h => h)
            refine (AddAny (id := so) (c := c5) k1 hso k4.2.1 (by omega) hcap5 HOK5.out (by have := HT6.out.le; omega) (by rw [HT6.out.ag.lens.1]; omega)).mono ?_
            rintro e w8 ⟨n8, v8, os8, ids8, rfl, HA8, HK8, HF8, HV8⟩
            refine ⟨n8, v8, os8, ids8, rfl, Lib.hid ?_, HK8, Lib.hid (k2.beside k1 HF8.out h3), Lib.hid (fun j e e' => ?_), Lib.hid (k1.keepL HF8.out k4), Lib.hid (k5.fr HF8.out ?_), Lib.hid (k1.keepD HF8.out (h6.trans (hW.below0.mono h6.size)) hs1 (Nat.le_refl _))⟩
            · obtain ⟨a1, a2⟩ := HA8
              refine ⟨a1, a2.imp id ?_⟩
              rintro ⟨z, A', c', z1, z2, z3⟩
              exact ⟨z, A', c', z1, z2, fun k e => Nat.le_trans hW.size (z3 k e)⟩
            · rcases HV8.out j e with h | h
              · exact h3 j h e'
              · have := (k2.rowL.lt j e').2; omega
            · rintro (e | e | e)
              · exact Blk.ne_ k5 k1.blk (by decide) e
              · obtain ⟨D, ⟨es, clock, hh, _⟩, _⟩ := k1.ever
                have h2 : W.heap[g]? = some (.cells #[.int .u32 so, .slice A5 st.length c5] 25 (0, 0)) := by rw [← e]; exact k5
                rw [hh] at h2
                cases h2
              · exact HQV.out _ e rfl
          have QA := Lib.hid qA
          have QB := Lib.hid qB
          clear qA qB hqv
          go_region_held_law (fun w' => w'.cell? ⟨q5, 0, none⟩ = some (.int .u32 so) ∧ w'.cell? ⟨q5, 1, none⟩ = some (.slice A5 st.length c5)) (first | go_keep | exact ⟨y0, y1⟩ | exact ⟨z0, z1⟩) (first
            | (go_simp; go_at_call 19; refine Calls.mono (QA.out _ (by exact (Fr.refl (fun _ => False) _).drew)) ?_; rintro e w7 ⟨n7, vL7, vO7, rs7, fl7, rfl, HA7, HR7, HB7, HAP7, HM7, HX7, D7, HS7⟩; have y0 := HX7.out.cell 0; have y1 := HX7.out.cell 1)
            | (go_simp; go_at_call 20; refine Calls.mono (QB.out _ _ _ _ _ _ HB7.out HR7.out HAP7.out HM7.out HX7.out D7.out HS7.out (Fr.refl (fun _ => False) _)) ?_; rintro e w8 ⟨n8, v8, os8, ids8, rfl, HA8, HB8, HR8, HAP8, HM8, HX8, D8⟩; have z0 := HX8.out.cell 0; have z1 := HX8.out.cell 1))
          obtain ⟨hnn, hag8, hrl8, hol8, hfew8, hos8, hrs8⟩ := HT6.out.ag.both HA8.out HA7.out HT6.out.few ht12 HT6.out.le
          obtain rfl := hnn
          have HT8 : Hid (Two B0 b g r v8 vL7 vO7 os8 rs7 ids8 fl7 w8) := Lib.hid ⟨HB8.out, HR8.out, HAP8.out, hag8, hfew8, hol8⟩
          have hs7 := HS7.out
          have HAP : Hid (∀ j, (Value.slice A5 st.length c5).ownBlock = some j → (∀ o ∈ os8, (Value.slice o.A o.ls.length o.c).ownBlock ≠ some j) ∧ (∀ o ∈ rs7, (Value.slice o.A o.ls.length o.c).ownBlock ≠ some j)) := Lib.hid (fun j e => by
            have hj := HLT5.out j e
            refine ⟨fun o ho eo => ?_, fun o ho eo => ?_⟩
            · rcases hos8 o ho with h | h
              · have := HEL.out.1 o h j eo; omega
              · have := h j eo; omega
            · rcases hrs8 o ho with h | h
              · have := HEL.out.2 o h j eo; omega
              · have h9 : W6.heap.size ≤ j := h j eo
                omega)
          obtain ⟨n5, hn5⟩ : ∃ n, n = st.length := ⟨_, rfl⟩
          rw [← hn5] at HX8 HAP
          have HN5 := Lib.hid hn5.symm
          have hn12 : n5 ≤ 12 := by omega
          rename_i hHeld
          clear hHeld y0 y1 z0 z1 x0 x1 QA QB HA7 HA8 HR7 HB7 HAP7 HM7 HX7 D7 HS7 HB8 HR8 HAP8 hag8 hfew8 hol8 hos8 hrs8 hs7 HEL HLT5 HT6 HM6 HX6 D6 HOK5 HQV
          try rw [← hn5]
          clear hn5
          go_wp2_with fail
          go_loopw [11] (fun j wz => ∃ (m : Nat) (st' : List Ln), j = .int .i64 m ∧ m ≤ n5 ∧ st'.length = n5 ∧ MadeL W1.heap.size A5 c5 st' wz ∧ Two B0 b g r v8 vL7 vO7 os8 rs7 ids8 fl7 wz ∧ Blk wz q5 25 #[.int .u32 so, .slice A5 n5 c5] ∧ Below w.heap.size w wz) (fun j _ => n5 - (intOf j).toNat)
          case atStart => exact ⟨0, st, rfl, by omega, HN5.out, HM8.out, HT8.out, HX8.out, D8.out⟩
          case round =>
            clear HM8 HT8 HX8 D8
            obtain ⟨m, st', rfl, hm, hsl, hml, htw, hbx, hdd⟩ := hrel
            have HSL := Lib.hid hsl
            have HTW := Lib.hid htw
            have HDD := Lib.hid hdd
            have xb1 := hbx.cell 1
            by_cases hlt2 : m < n5
            · have hmst : m < st'.length := by omega
              obtain ⟨gz, hA, hg1, hg2, hown, d0, f0, d1, f1, d2, f2, hml2, hF2⟩ := hml.zero (k := m) hmst
              have hap := HAP.out gz (hsl ▸ hown)
              have HT2 := Lib.hid (htw.put hF2 hml.1 hown (by decide) (by decide) (by decide) (by decide) hap.1 hap.2)
              have HX2 := Lib.hid (hbx.fr hF2 (fun e => own_blk_ne hml.1 hbx (by decide) (e ▸ hown)))
              have D2 := Lib.hid (hdd.trans (hF2.below (fun j _ e => by omega) hdd.size))
              have HML2 := Lib.hid hml2
              have HSL2 : Hid ((st'.set m ⟨0, 0, 0⟩).length = n5) := Lib.hid (by rw [List.length_set]; exact hsl)
              subst hA
              have hix := fun W => idx_ln (g := gz) (c := c5) hlt2 W
              clear hsl hml htw hbx hdd hown hap hml2 hF2 HTW HDD HSL
              go_wp2
              go_roundw
              case rel => exact ⟨m + 1, st'.set m ⟨0, 0, 0⟩, by go_num, by omega, HSL2.out, HML2.out, HT2.out, HX2.out, D2.out⟩
              case measure => simp [intOf]; omega
            · obtain rfl : m = n5 := by omega
              clear hsl hml htw hbx hdd
              go_wp2_with fail
              go_meet
              exact ⟨so, v8, vL7, vO7, os8, rs7, ids8, fl7, by simp, rfl, by omega, HTW.out, HDD.out⟩
        · subst hk
          have qF := FewC (id := so) hsc (HSR.out.now HF1.out)
          go_wp2_with fail
          refine Calls.mono qF ?_
          clear qF
          rintro e w5 ⟨A5, c5, rfl, HM5, HF5⟩
          have ht12 : (sl.take 12).length ≤ 12 := by rw [List.length_take]; omega
          have HOK5 : Hid (∀ x ∈ sl.take 12, x.ok) := Lib.hid (fun x hx => HSOK.out x (List.mem_of_mem_take hx))
          generalize sl.take 12 = st at *
          have HEL := Lib.hid HT1.out.each_lt
          have hw1 := HF1.out.size
          have hwr : wr.heap.size < (wr.alloc (.cells #[.int .i64 2, .int .u32 so, .slice sA sl.length sc, .int .u32 si] 48)).heap.size := by simp
          generalize wr.alloc (.cells #[.int .i64 2, .int .u32 so, .slice sA sl.length sc, .int .u32 si] 48) = W1 at *
          have F6 : Fr0 w5 (w5.alloc (.cells #[.int .u32 so, .slice A5 st.length c5] 25)) := (Fr.refl (fun _ => False) w5).alloc _
          have HT6 := Lib.hid ((HT1.out.fr0 HF5.out).fr0 F6)
          have HM6 := Lib.hid (HM5.out.fr F6 (fun _ _ h => h))
          have hx6 := Blk.new w5 25 #[.int .u32 so, .slice A5 st.length c5]
          have x0 := hx6.cell 0
          have x1 := hx6.cell 1
          have HX6 := Lib.hid hx6
          have D6 := Lib.hid ((HF1.out.trans (HF5.out.below0.mono HF1.out.size)).alloc (Nat.le_trans HF1.out.size HF5.out.size) (.cells #[.int .u32 so, .slice A5 st.length c5] 25))
          have hsz5 := HF5.out.size
          have hsz6 : w5.heap.size < (w5.alloc (.cells #[.int .u32 so, .slice A5 st.length c5] 25)).heap.size := by simp
          have HLT5 : Hid (∀ j, (Value.slice A5 st.length c5).ownBlock = some j → W1.heap.size ≤ j ∧ j < w5.heap.size) := Lib.hid (fun j e => HM5.out.1.lt j e)
          have hcap5 := HM5.out.2.2
          clear F6 hx6 HM5 HT1 HF1 HF5 HSR HSOK n0 n1 n2 n3
          go_wp2_with fail
          generalize w5.alloc (.cells #[.int .u32 so, .slice A5 st.length c5] 25) = W6 at *
          generalize w5.heap.size = q5 at *
          have hqv : ∀ j, v.ownBlock = some j → j ≠ q5 := fun j e => by have := HVB.out j e; omega
          have HQV := Lib.hid hqv
          have qA : ∀ W, Fr0 W6 W → Calls Tryd.prog 19 #[.pointer (some ⟨r, 0, none⟩), .agg #[.int .u32 so, .slice A5 st.length c5]] W fun e w7 => ∃ n7 vL7 vO7 rs7 fl7, e = .returned (.int .i64 n7) ∧ Hid (AddRR W.heap.size rs fl so st n7 rs7 fl7) ∧ Hid (RBk B0 r vL7 vO7 rs7 fl7 w7) ∧ Hid (Bk B0 b g v os ids w7) ∧ Hid (∀ j, v.ownBlock = some j → vL7.ownBlock ≠ some j) ∧ Hid (MadeL W1.heap.size A5 c5 st w7) ∧ Hid (Blk w7 q5 25 #[.int .u32 so, .slice A5 st.length c5]) ∧ Hid (Below w.heap.size w w7) ∧ Hid (W6.heap.size ≤ w7.heap.size) := fun W hW => by
            have t := HT6.out.fr0 hW
            have m := HM6.out.fr hW (fun _ _ h => h)
            have x := HX6.out.fr hW (fun h => h)
            refine (AddRAny (id := so) (c := c5) t.rk (by omega) m.2.1 (by omega) HOK5.out).mono ?_
            rintro e w7 ⟨n7, vL7, vO7, rs7, fl7, rfl, HA7, HR7, HF7, HL7⟩
            refine ⟨n7, vL7, vO7, rs7, fl7, rfl, Lib.hid HA7, HR7, Lib.hid (t.bk.besideR (S := fun _ => False) t.rk HF7.out), Lib.hid (fun j e e' => ?_), Lib.hid (m.fr HF7.out (fun j e e' => own_blk_ne m.1 t.rk.blk (by decide) (e' ▸ e))), Lib.hid (x.fr HF7.out (fun e => Blk.ne_ x t.rk.blk (by decide) e)), Lib.hid ?_, Lib.hid (Nat.le_trans hW.size HF7.out.size)⟩
            · rcases HL7.out j e' with h | h
              · exact t.ap j e h
              · have := (t.bk.row.lt j e).2; omega
            · exact (D6.out.trans (hW.below0.mono D6.out.size)).trans (HF7.out.below (fun j _ e => by have := t.rk.low; omega) (Nat.le_trans D6.out.size hW.size))
          have qB : ∀ W w7 vL7 vO7 rs7 fl7, Bk B0 b g v os ids w7 → RBk B0 r vL7 vO7 rs7 fl7 w7 → (∀ j, v.ownBlock = some j → vL7.ownBlock ≠ some j) → MadeL W1.heap.size A5 c5 st w7 → Blk w7 q5 25 #[.int .u32 so, .slice A5 st.length c5] → Below w.heap.size w w7 → W6.heap.size ≤ w7.heap.size → Fr0 w7 W → Calls Tryd.prog 20 #[.pointer (some ⟨b, 0, none⟩), .agg #[.int .u32 so, .slice A5 st.length c5]] W fun e w8 => ∃ n8 v8 os8 ids8, e = .returned (.int .i64 n8) ∧ Hid (AddR w7.heap.size os ids so st n8 os8 ids8) ∧ Hid (Bk B0 b g v8 os8 ids8 w8) ∧ Hid (RBk B0 r vL7 vO7 rs7 fl7 w8) ∧ Hid (∀ j, v8.ownBlock = some j → vL7.ownBlock ≠ some j) ∧ Hid (MadeL W1.heap.size A5 c5 st w8) ∧ Hid (Blk w8 q5 25 #[.int .u32 so, .slice A5 st.length c5]) ∧ Hid (Below w.heap.size w w8) := fun W w7 vL7 vO7 rs7 fl7 h1 h2 h3 h4 h5 h6 h7 hW => by
            have k1 := h1.fr hW (fun _ _ _ h => h)
            have k2 := h2.fr hW (fun _ _ _ h => h)
            have k4 := h4.fr hW (fun _ _ h => h)
            have k5 := h5.fr hW (fun h => h)
            refine (AddAny (id := so) (c := c5) k1 hso k4.2.1 (by omega) hcap5 HOK5.out (by have := HT6.out.le; omega) (by rw [HT6.out.ag.lens.1]; omega)).mono ?_
            rintro e w8 ⟨n8, v8, os8, ids8, rfl, HA8, HK8, HF8, HV8⟩
            refine ⟨n8, v8, os8, ids8, rfl, Lib.hid ?_, HK8, Lib.hid (k2.beside k1 HF8.out h3), Lib.hid (fun j e e' => ?_), Lib.hid (k1.keepL HF8.out k4), Lib.hid (k5.fr HF8.out ?_), Lib.hid (k1.keepD HF8.out (h6.trans (hW.below0.mono h6.size)) hs1 (Nat.le_refl _))⟩
            · obtain ⟨a1, a2⟩ := HA8
              refine ⟨a1, a2.imp id ?_⟩
              rintro ⟨z, A', c', z1, z2, z3⟩
              exact ⟨z, A', c', z1, z2, fun k e => Nat.le_trans hW.size (z3 k e)⟩
            · rcases HV8.out j e with h | h
              · exact h3 j h e'
              · have := (k2.rowL.lt j e').2; omega
            · rintro (e | e | e)
              · exact Blk.ne_ k5 k1.blk (by decide) e
              · obtain ⟨D, ⟨es, clock, hh, _⟩, _⟩ := k1.ever
                have h2 : W.heap[g]? = some (.cells #[.int .u32 so, .slice A5 st.length c5] 25 (0, 0)) := by rw [← e]; exact k5
                rw [hh] at h2
                cases h2
              · exact HQV.out _ e rfl
          have QA := Lib.hid qA
          have QB := Lib.hid qB
          clear qA qB hqv
          go_region_held_law (fun w' => w'.cell? ⟨q5, 0, none⟩ = some (.int .u32 so) ∧ w'.cell? ⟨q5, 1, none⟩ = some (.slice A5 st.length c5)) (first | go_keep | exact ⟨y0, y1⟩ | exact ⟨z0, z1⟩) (first
            | (go_simp; go_at_call 19; refine Calls.mono (QA.out _ (by exact (Fr.refl (fun _ => False) _).drew)) ?_; rintro e w7 ⟨n7, vL7, vO7, rs7, fl7, rfl, HA7, HR7, HB7, HAP7, HM7, HX7, D7, HS7⟩; have y0 := HX7.out.cell 0; have y1 := HX7.out.cell 1)
            | (go_simp; go_at_call 20; refine Calls.mono (QB.out _ _ _ _ _ _ HB7.out HR7.out HAP7.out HM7.out HX7.out D7.out HS7.out (Fr.refl (fun _ => False) _)) ?_; rintro e w8 ⟨n8, v8, os8, ids8, rfl, HA8, HB8, HR8, HAP8, HM8, HX8, D8⟩; have z0 := HX8.out.cell 0; have z1 := HX8.out.cell 1))
          obtain ⟨hnn, hag8, hrl8, hol8, hfew8, hos8, hrs8⟩ := HT6.out.ag.both HA8.out HA7.out HT6.out.few ht12 HT6.out.le
          obtain rfl := hnn
          have HT8 : Hid (Two B0 b g r v8 vL7 vO7 os8 rs7 ids8 fl7 w8) := Lib.hid ⟨HB8.out, HR8.out, HAP8.out, hag8, hfew8, hol8⟩
          have hs7 := HS7.out
          have HAP : Hid (∀ j, (Value.slice A5 st.length c5).ownBlock = some j → (∀ o ∈ os8, (Value.slice o.A o.ls.length o.c).ownBlock ≠ some j) ∧ (∀ o ∈ rs7, (Value.slice o.A o.ls.length o.c).ownBlock ≠ some j)) := Lib.hid (fun j e => by
            have hj := HLT5.out j e
            refine ⟨fun o ho eo => ?_, fun o ho eo => ?_⟩
            · rcases hos8 o ho with h | h
              · have := HEL.out.1 o h j eo; omega
              · have := h j eo; omega
            · rcases hrs8 o ho with h | h
              · have := HEL.out.2 o h j eo; omega
              · have h9 : W6.heap.size ≤ j := h j eo
                omega)
          obtain ⟨n5, hn5⟩ : ∃ n, n = st.length := ⟨_, rfl⟩
          rw [← hn5] at HX8 HAP
          have HN5 := Lib.hid hn5.symm
          have hn12 : n5 ≤ 12 := by omega
          rename_i hHeld
          clear hHeld y0 y1 z0 z1 x0 x1 QA QB HA7 HA8 HR7 HB7 HAP7 HM7 HX7 D7 HS7 HB8 HR8 HAP8 hag8 hfew8 hol8 hos8 hrs8 hs7 HEL HLT5 HT6 HM6 HX6 D6 HOK5 HQV
          try rw [← hn5]
          clear hn5
          go_wp2_with fail
          go_loopw [11] (fun j wz => ∃ (m : Nat) (st' : List Ln), j = .int .i64 m ∧ m ≤ n5 ∧ st'.length = n5 ∧ MadeL W1.heap.size A5 c5 st' wz ∧ Two B0 b g r v8 vL7 vO7 os8 rs7 ids8 fl7 wz ∧ Blk wz q5 25 #[.int .u32 so, .slice A5 n5 c5] ∧ Below w.heap.size w wz) (fun j _ => n5 - (intOf j).toNat)
          case atStart => exact ⟨0, st, rfl, by omega, HN5.out, HM8.out, HT8.out, HX8.out, D8.out⟩
          case round =>
            clear HM8 HT8 HX8 D8
            obtain ⟨m, st', rfl, hm, hsl, hml, htw, hbx, hdd⟩ := hrel
            have HSL := Lib.hid hsl
            have HTW := Lib.hid htw
            have HDD := Lib.hid hdd
            have xb1 := hbx.cell 1
            by_cases hlt2 : m < n5
            · have hmst : m < st'.length := by omega
              obtain ⟨gz, hA, hg1, hg2, hown, d0, f0, d1, f1, d2, f2, hml2, hF2⟩ := hml.zero (k := m) hmst
              have hap := HAP.out gz (hsl ▸ hown)
              have HT2 := Lib.hid (htw.put hF2 hml.1 hown (by decide) (by decide) (by decide) (by decide) hap.1 hap.2)
              have HX2 := Lib.hid (hbx.fr hF2 (fun e => own_blk_ne hml.1 hbx (by decide) (e ▸ hown)))
              have D2 := Lib.hid (hdd.trans (hF2.below (fun j _ e => by omega) hdd.size))
              have HML2 := Lib.hid hml2
              have HSL2 : Hid ((st'.set m ⟨0, 0, 0⟩).length = n5) := Lib.hid (by rw [List.length_set]; exact hsl)
              subst hA
              have hix := fun W => idx_ln (g := gz) (c := c5) hlt2 W
              clear hsl hml htw hbx hdd hown hap hml2 hF2 HTW HDD HSL
              go_wp2
              go_roundw
              case rel => exact ⟨m + 1, st'.set m ⟨0, 0, 0⟩, by go_num, by omega, HSL2.out, HML2.out, HT2.out, HX2.out, D2.out⟩
              case measure => simp [intOf]; omega
            · obtain rfl : m = n5 := by omega
              clear hsl hml htw hbx hdd
              go_wp2_with fail
              go_meet
              exact ⟨so, v8, vL7, vO7, os8, rs7, ids8, fl7, by simp, rfl, by omega, HTW.out, HDD.out⟩
        · subst hk
          have qR := CloseRAny (id := si) HT1.out.rk (by omega)
          go_wp2_with fail
          refine Calls.mono qR ?_
          clear qR
          rintro e w5 ⟨rfl, HR5, HF5⟩
          have hb5 := HT1.out.bk.besideO HT1.out.rk HF5.out
          have qC := CloseAny (id := si) hb5 (by have := HT1.out.le; omega)
          have qD := qC
          clear qC
          go_wp2_with fail
          refine Calls.mono qD ?_
          clear qD
          rintro e w6 ⟨rfl, v6, hv6, HK6, HF6⟩
          obtain ⟨hn6, ha6⟩ := HT1.out.ag.close (id := si)
          have hap6 : ∀ k, v6.ownBlock = some k → vL.ownBlock ≠ some k := fun j e => HT1.out.ap j (hv6 ▸ e)
          have HT6 : Hid (Two B0 b g r v6 vL vO (closeO os si) rs ids (closeF rs fl si) w6) := Lib.hid ⟨HK6.out, HR5.out.beside hb5 (Fr.cl (v' := v) (g := g) HF6.out) HT1.out.ap, hap6, ha6, fun o ho => HT1.out.few o (closeO_sub.2 o ho), Nat.le_trans closeO_sub.1 HT1.out.le⟩
          have D5 := Lib.hid (HF1.out.trans (HF5.out.below (fun j _ e => Nat.le_trans hs1 (HT1.out.rk.rowO.lt j e).1) HF1.out.size))
          have D6 := Lib.hid (hb5.keepD (Fr.cl (v' := v) (g := g) HF6.out) D5.out hs1 (Nat.le_refl _))
          have hnb6 : (closeRN rs fl si == closeN os si) = true := by rw [hn6]; simp
          clear hb5 hn6 ha6 hap6 hv6
          go_wp2_with fail
          go_meet
          exact ⟨si, v6, vL, vO, _, rs, ids, _, rfl, rfl, by omega, HT6.out, D6.out⟩
        · subst hk
          have qR := CloseRAny (id := si) HT1.out.rk (by omega)
          go_wp2_with fail
          refine Calls.mono qR ?_
          clear qR
          rintro e w5 ⟨rfl, HR5, HF5⟩
          have hb5 := HT1.out.bk.besideO HT1.out.rk HF5.out
          have qC := CloseAny (id := si) hb5 (by have := HT1.out.le; omega)
          have qD := CancelE qC
          clear qC
          go_wp2_with fail
          refine Calls.mono qD ?_
          clear qD
          rintro e w6 ⟨rfl, v6, hv6, HK6, HF6⟩
          obtain ⟨hn6, ha6⟩ := HT1.out.ag.close (id := si)
          have hap6 : ∀ k, v6.ownBlock = some k → vL.ownBlock ≠ some k := fun j e => HT1.out.ap j (hv6 ▸ e)
          have HT6 : Hid (Two B0 b g r v6 vL vO (closeO os si) rs ids (closeF rs fl si) w6) := Lib.hid ⟨HK6.out, HR5.out.beside hb5 (Fr.cl (v' := v) (g := g) HF6.out) HT1.out.ap, hap6, ha6, fun o ho => HT1.out.few o (closeO_sub.2 o ho), Nat.le_trans closeO_sub.1 HT1.out.le⟩
          have D5 := Lib.hid (HF1.out.trans (HF5.out.below (fun j _ e => Nat.le_trans hs1 (HT1.out.rk.rowO.lt j e).1) HF1.out.size))
          have D6 := Lib.hid (hb5.keepD (Fr.cl (v' := v) (g := g) HF6.out) D5.out hs1 (Nat.le_refl _))
          have hnb6 : (closeRN rs fl si == closeN os si) = true := by rw [hn6]; simp
          clear hb5 hn6 ha6 hap6 hv6
          go_wp2_with fail
          go_meet
          exact ⟨si, v6, vL, vO, _, rs, ids, _, rfl, rfl, by omega, HT6.out, D6.out⟩
        · have b1 : (sk == 1) = false := by simp [z1]
          have b2 : (sk == 2) = false := by simp [z2]
          have b3 : (sk == 3) = false := by simp [z3]
          have b4 : (sk == 4) = false := by simp [z4]
          go_wp2_with fail
          go_meet
          exact ⟨si, v, vL, vO, os, rs, ids, fl, rfl, rfl, by omega, HT1.out, HF1.out⟩
      case rest =>
        obtain ⟨id9, v9, vL9, vO9, os9, rs9, ids9, fl9, rfl, rfl, hrk9, ht9, hf9⟩ := hcut
        clear HT1 HF1 HVB n0 n1 n2 n3 c0 c1 c2' c3 hsc HSR HSOK hso hsi q1 q2
        clear hrk HF
        have hs9 := ht9.lt
        have hwc := hf9.size
        have HT9 := Lib.hid ht9
        have HF9 := Lib.hid hf9
        have hag := ht9.ag.get (id := id9)
        obtain ⟨xi, xls, xb, hx⟩ : ∃ a b c, getK os9 id9 = (a, b, c) := ⟨_, _, _, rfl⟩
        have hy : getRK rs9 fl9 id9 = (xi, xls, xb) := by rw [← hag]; exact hx
        have hxl := getK_len ht9.few hx
        have hos9 := ht9.le
        have qX := GetAny (id := id9) ht9.bk (by omega) ht9.few hx
        have HY := Lib.hid hy
        have HEL := Lib.hid ht9.each_lt
        clear ht9 hf9 hag hx hy
        go_wp2_with fail
        refine Calls.mono qX ?_
        clear qX
        rintro e w5 ⟨A5, c5, rfl, HM5, HF5⟩
        have F6 : Fr0 w5 (w5.alloc (.cells #[.int .u32 xi, .slice A5 xls.length c5] 25)) := (Fr.refl (fun _ => False) w5).alloc _
        have HT6 := Lib.hid ((HT9.out.fr0 (Fr.of_below HF5.out)).fr0 F6)
        have HM6 := Lib.hid (HM5.out.fr F6 (fun _ _ h => h))
        have HX6 := Lib.hid (Blk.new w5 25 #[.int .u32 xi, .slice A5 xls.length c5])
        have D6 := Lib.hid ((HF9.out.trans (HF5.out.mono HF9.out.size)).alloc (Nat.le_trans HF9.out.size HF5.out.size) (.cells #[.int .u32 xi, .slice A5 xls.length c5] 25))
        have qY := GetRAny (id := id9) HT6.out.rk (by omega) HY.out
        clear F6 HM5 HT9 HF9 HF5 HY
        go_wp2_with fail
        generalize w5.alloc (.cells #[.int .u32 xi, .slice A5 xls.length c5] 25) = W6 at *
        generalize w5.heap.size = q5 at *
        refine Calls.mono qY ?_
        clear qY
        rintro e w7 ⟨A7, c7, rfl, HR7, HF7⟩
        have F8 : Fr0 W6 (w7.alloc (.cells #[.int .u32 xi, .slice A7 xls.length c7] 25)) := (Fr.of_below HF7.out).alloc _
        have HT8 := Lib.hid (HT6.out.fr0 F8)
        have HM8 := Lib.hid (HM6.out.fr F8 (fun _ _ h => h))
        have hx8 := HX6.out.fr F8 (fun h => h)
        have hy8 := Blk.new w7 25 #[.int .u32 xi, .slice A7 xls.length c7]
        have x0 := hx8.cell 0
        have x1 := hx8.cell 1
        have y0 := hy8.cell 0
        have y1 := hy8.cell 1
        have HX8 := Lib.hid hx8
        have D8 := Lib.hid (D6.out.trans (F8.below0.mono D6.out.size))
        have qS := SameC (c := c5) (d := c7) (i := xi) (j := xi) HM8.out.2.1 (RowOf.now HR7.out F8.below0) (by omega)
        rw [show decide (xi = xi ∧ xls = xls) = true by simp] at qS
        clear F8 hx8 hy8 HM6 HT6 HX6 D6 HR7 HF7
        go_wp2_with fail
        generalize w7.alloc (.cells #[.int .u32 xi, .slice A7 xls.length c7] 25) = W8 at *
        refine Calls.mono qS ?_
        clear qS
        rintro e w9 ⟨rfl, F9⟩
        have HT10 := Lib.hid (HT8.out.fr0 (Fr.of_below F9.out))
        have qO := OpenC HT10.out.bk (by omega)
        go_wp2_with fail
        refine Calls.mono qO ?_
        clear qO
        rintro e w10 ⟨vp, rfl, HP10, F10⟩
        obtain ⟨PA, pc, rfl, hpc⟩ := own_form HP10.out
        have F10' := Lib.hid ((Fr.of_below F9.out).trans (Fr.of_below F10.out) (fun _ _ h => h))
        have HT11 := Lib.hid (HT8.out.fr0 F10'.out)
        have qI := IDsC HT11.out.rk (by omega)
        rw [HT11.out.ag.idsR_] at qI
        go_wp2_with fail
        refine Calls.mono qI ?_
        clear qI
        rintro e w11 ⟨vq, rfl, HQ11, F11⟩
        obtain ⟨QA, qc, rfl, hqc⟩ := own_form HQ11.out
        have F12 := F10'.out.trans (Fr.of_below F11.out) (fun _ _ h => h)
        have HT12 := Lib.hid (HT8.out.fr0 F12)
        have HM12 := Lib.hid (HM8.out.fr F12 (fun _ _ h => h))
        have HX12 := Lib.hid (HX8.out.fr F12 (fun h => h))
        have D12 := Lib.hid (D8.out.trans (F12.below0.mono D8.out.size))
        have HP12 := Lib.hid (own_fr HP10.out (Fr.of_below F11.out) (fun _ _ h => h))
        have HQ12 := Lib.hid HQ11.out
        have hbq : w9.heap.size ≤ w10.heap.size := F10.out.size
        have hb8 : W8.heap.size ≤ w9.heap.size := F9.out.size
        have hb8w := D8.out.size
        have HPLT : Hid (∀ j, (Value.slice PA os9.length pc).ownBlock = some j → j < w10.heap.size) := Lib.hid (fun j e => (HP10.out.lt j e).2)
        have hln : (os9.map So.id).length = os9.length := List.length_map ..
        generalize os9.map So.id = L at *
        have hos9' : L.length ≤ 16 := by omega
        rw [← hln] at HP12 HPLT
        rw [← hln]
        clear hln hos9 HP10 HQ11 HT8 HM8 HX8 D8 HT10 HT11 F9 F10 F10' F11 F12 x0 x1 y0 y1
        have hbb : (xb != xb) = false := by simp
        go_wp2_with fail
        have HAP : Hid (∀ j, (Value.slice A5 xls.length c5).ownBlock = some j → (∀ o ∈ os9, (Value.slice o.A o.ls.length o.c).ownBlock ≠ some j) ∧ (∀ o ∈ rs9, (Value.slice o.A o.ls.length o.c).ownBlock ≠ some j)) := Lib.hid (fun j e => by
          have hj := (HM12.out.1.lt j e).1
          exact ⟨fun o ho eo => by have := HEL.out.1 o ho j eo; omega, fun o ho eo => by have := HEL.out.2 o ho j eo; omega⟩)
        obtain ⟨n5, hn5⟩ : ∃ n, n = xls.length := ⟨_, rfl⟩
        obtain ⟨nL, hnL⟩ : ∃ n, n = L.length := ⟨_, rfl⟩
        rw [← hn5] at HX12 HAP
        rw [← hnL] at HP12 HQ12 HPLT
        have HN5 := Lib.hid hn5.symm
        have HNL := Lib.hid hnL.symm
        have hn12 : n5 ≤ 12 := by omega
        have hnL16 : nL ≤ 16 := by omega
        try rw [← hn5]
        try rw [← hnL]
        have hb9 : w.heap.size ≤ w9.heap.size := by omega
        clear hn5 hnL HEL
        go_loopw [19] (fun j wz => ∃ (m : Nat) (st' : List Ln), j = .int .i64 m ∧ m ≤ n5 ∧ st'.length = n5 ∧ MadeL wc.heap.size A5 c5 st' wz ∧ Two B0 b g r v9 vL9 vO9 os9 rs9 ids9 fl9 wz ∧ Blk wz q5 25 #[.int .u32 xi, .slice A5 n5 c5] ∧ wz.ownsRow w9.heap.size 22 1 (.slice PA nL pc) nL (nums .u32 L) ∧ wz.ownsRow w10.heap.size 22 1 (.slice QA nL qc) nL (nums .u32 L) ∧ Below w.heap.size w wz) (fun j _ => n5 - (intOf j).toNat)
        case atStart => exact ⟨0, xls, rfl, by omega, HN5.out, HM12.out, HT12.out, HX12.out, HP12.out, HQ12.out, D12.out⟩
        case round =>
          clear HM12 HT12 HX12 HP12 HQ12 D12
          obtain ⟨m, st', rfl, hm, hsl, hml, htw, hbx, hp, hq, hdd⟩ := hrel
          have HSL := Lib.hid hsl
          have HTW := Lib.hid htw
          have HDD := Lib.hid hdd
          have HP := Lib.hid hp
          have HQQ := Lib.hid hq
          have xb1 := hbx.cell 1
          by_cases hlt2 : m < n5
          · have hmst : m < st'.length := by omega
            obtain ⟨gz, hA, hg1, hg2, hown, d0, f0, d1, f1, d2, f2, hml2, hF2⟩ := hml.zero (k := m) hmst
            have hap := HAP.out gz (hsl ▸ hown)
            have HT2 := Lib.hid (htw.put hF2 hml.1 hown (by decide) (by decide) (by decide) (by decide) hap.1 hap.2)
            have HX2 := Lib.hid (hbx.fr hF2 (fun e => own_blk_ne hml.1 hbx (by decide) (e ▸ hown)))
            have HP2 := Lib.hid (own_fr hp hF2 (fun j e e' => own_ne hml.1 hp (by decide) gz hown (e' ▸ e)))
            have HQ2 := Lib.hid (own_fr hq hF2 (fun j e e' => own_ne hml.1 hq (by decide) gz hown (e' ▸ e)))
            have D2 := Lib.hid (hdd.trans (hF2.below (fun j _ e => by omega) hdd.size))
            have HML2 := Lib.hid hml2
            have HSL2 : Hid ((st'.set m ⟨0, 0, 0⟩).length = n5) := Lib.hid (by rw [List.length_set]; exact hsl)
            subst hA
            have hix := fun W => idx_ln (g := gz) (c := c5) hlt2 W
            clear hsl hml htw hbx hdd hp hq hown hap hml2 hF2 HTW HDD HSL HP HQQ
            go_wp2
            go_roundw
            case rel => exact ⟨m + 1, st'.set m ⟨0, 0, 0⟩, by go_num, by omega, HSL2.out, HML2.out, HT2.out, HX2.out, HP2.out, HQ2.out, D2.out⟩
            case measure => simp [intOf]; omega
          · obtain rfl : m = n5 := by omega
            clear hsl hml htw hbx hdd hp hq HSL HAP HN5
            go_wp2_with fail
            go_loopw [20] (fun j wz => ∃ (m2 : Nat) (L' : List Int), j = .int .i64 m2 ∧ m2 ≤ nL ∧ L'.length = nL ∧ (∀ i, m2 ≤ i → L'.getD i 0 = L.getD i 0) ∧ wz.ownsRow w9.heap.size 22 1 (.slice PA nL pc) nL (nums .u32 L') ∧ wz.ownsRow w10.heap.size 22 1 (.slice QA nL qc) nL (nums .u32 L) ∧ Two B0 b g r v9 vL9 vO9 os9 rs9 ids9 fl9 wz ∧ Below w.heap.size w wz) (fun j _ => nL - (intOf j).toNat)
            case atStart => exact ⟨0, L, rfl, by omega, HNL.out, fun _ _ => rfl, HP.out, HQQ.out, HTW.out, HDD.out⟩
            case round =>
              clear HP HQQ HTW HDD
              obtain ⟨m2, L', rfl, hm2, hsl, hsame, hp, hq, htw, hdd⟩ := hrel
              have HTW := Lib.hid htw
              have HDD := Lib.hid hdd
              by_cases hlt2 : m2 < nL
              · obtain ⟨gp, hA, hg1, hg2, hown, d0, f0, hp2, hF2⟩ := num_at hp (k := m2) (by omega) hsl
                obtain ⟨gq, hA2, hg3, hg4, hown2, e0, _, _, _⟩ := num_at hq (k := m2) (by have := HNL.out; omega) HNL.out
                rw [hsame m2 (Nat.le_refl _)] at d0
                have hpq : gq ≠ gp := fun e => by have := HPLT.out gp hown; omega
                have HT2 := Lib.hid (htw.put hF2 hp hown (by decide) (by decide) (by decide) (by decide) (fun o ho e => own_ne (htw.bk.each o ho).1 hp (by decide) gp e hown) (fun o ho e => own_ne (htw.rk.each o ho).1 hp (by decide) gp e hown))
                have HQ2 := Lib.hid (own_fr hq hF2 (fun j e e' => by rw [hown2] at e; exact hpq ((Option.some.inj e).trans e')))
                have D2 := Lib.hid (hdd.trans (hF2.below (fun j _ e => by omega) hdd.size))
                have HP2 := Lib.hid hp2
                have HSL2 : Hid ((L'.set m2 0).length = nL) := Lib.hid (by rw [List.length_set]; exact hsl)
                have HSM2 : Hid (∀ i, m2 + 1 ≤ i → (L'.set m2 0).getD i 0 = L.getD i 0) := Lib.hid (fun i hi => by
                  rw [← hsame i (by omega), List.getD_eq_getElem?_getD, List.getD_eq_getElem?_getD, List.getElem?_set_ne (by omega)])
                subst hA hA2
                generalize L.getD m2 0 = xv at *
                have hx1 : (xv != xv) = false := by simp
                clear hsl htw hdd hp hq hown hown2 hp2 hF2 HTW HDD hsame hpq
                go_wp2_with fail
                go_region
                go_wp2
                go_roundw
                case rel => exact ⟨m2 + 1, L'.set m2 0, by go_num, by omega, HSL2.out, HSM2.out, HP2.out, HQ2.out, HT2.out.fr0 ((Fr.refl (fun _ => False) _).drew), below_dr D2.out⟩
                case measure => simp [intOf]; omega
              · obtain rfl : m2 = nL := by omega
                clear hsl hsame hp hq htw hdd
                go_wp2_with fail
                go_roundw
                case rel => exact ⟨k + 1, v9, vL9, vO9, os9, rs9, ids9, fl9, by go_num, by omega, by omega, by omega, HTW.out, HDD.out⟩
                case measure => simp [intOf]; omega
    · have hgb : (decide ((k : Int) < (l.length : Int)) && decide ((k : Int) < 100)) = false := by
        simp only [Bool.and_eq_false_iff, decide_eq_false_iff_not]; omega
      by_cases hlt : k < l.length
      · obtain rfl : k = 100 := by omega
        go_wp2
        go_ret
        exact ⟨rfl, HF.out⟩
      · go_wp2
        go_ret
        exact ⟨rfl, HF.out⟩
end Go.Proofs.YtigknfkkegccgaaDoor.K
