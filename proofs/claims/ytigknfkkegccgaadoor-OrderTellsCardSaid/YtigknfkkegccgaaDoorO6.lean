/- Orders: a round of Parse, whatever its order, by an invariant. -/
import Derived.Test.YtigknfkkegccgaaDoorO4
import Derived.Test.YtigknfkkegccgaaDoorRi
namespace Go.Proofs.YtigknfkkegccgaaDoor.K
open Go.RowKit
set_option linter.unusedVariables false
set_option linter.unusedSimpArgs false
attribute [local go_sem ↓] Go.wp_at_zero Go.wp_at_succ
def xo (m : List Int) : Int := if 2 ≤ m.length then num (m.take 2) else 0
def eo (m : List Int) : Int := if 2 ≤ m.length then 0 else 2
def ro (m : List Int) : List Int := if 2 ≤ m.length then m.drop 2 else m
theorem ro_inB {m : List Int} (h : InB m) : InB (ro m) := by unfold ro; split <;> first | exact h.drop_ 2 | exact h
theorem xo_lt {m : List Int} (h : InB m) : 0 ≤ xo m ∧ xo m < 65536 := by
  unfold xo
  split
  · have := num_lt (k := 2) (h.take_ 2) (by rw [List.length_take]; omega)
    have q : (256 : Int) ^ 2 = 65536 := by decide
    omega
  · omega
def yO (m : List Int) : Ln := ⟨xo m, xo (ro m), xo (ro (ro m))⟩
theorem PS.u16g {w w' : World} {r : Nat} {G : Option Nat} {id : Int} {v : Value} {ls : List Ln} {m : List Int} (h : PS w r G id v ls m w') (hb : InB m) :
    Calls Tryd.prog 41 #[.pointer (some ⟨r, 0, none⟩)] w' fun e w2 => e = .returned (.tuple #[.int .u16 (xo m), .int .i64 (eo m)]) ∧ PS w r G id v ls (ro m) w2 := by
  by_cases h2 : 2 ≤ m.length
  · refine (PS.u16 (Same.refl _) h h2 hb rfl).mono ?_
    rintro e w2 ⟨rfl, H⟩
    unfold xo eo ro
    rw [if_pos h2, if_pos h2, if_pos h2]
    exact ⟨rfl, H.out⟩
  · refine (PS.u16s (Same.refl _) h (by omega)).mono ?_
    rintro e w2 ⟨rfl, H⟩
    unfold xo eo ro
    rw [if_neg h2, if_neg h2, if_neg h2]
    exact ⟨rfl, H.out⟩
/-- What the operations yield. -/
def valP (p r : Nat) (VA : Option Addr) (n vc : Nat) (m : List Int) : Nat → Option Value
  | 0 => some (.pointer (some ⟨p, 1, none⟩))
  | 1 => some (.slice VA n vc)
  | 2 => some (.pointer (some ⟨r, 0, none⟩))
  | 3 => some (.tuple #[.int .u16 (xo m), .int .i64 (eo m)])
  | 4 => some (.int .u16 (xo m))
  | 5 => some (.int .i64 (eo m))
  | 6 => some (.int .u16 (xo m))
  | 7 => some (.pointer (some ⟨r, 0, none⟩))
  | 8 => some (.tuple #[.int .u16 (xo (ro m)), .int .i64 (eo (ro m))])
  | 9 => some (.int .u16 (xo (ro m)))
  | 10 => some (.int .i64 (eo (ro m)))
  | 11 => some (.int .u16 (xo (ro m)))
  | 12 => some (.pointer (some ⟨r, 0, none⟩))
  | 13 => some (.tuple #[.int .u16 (xo (ro (ro m))), .int .i64 (eo (ro (ro m)))])
  | 14 => some (.int .u16 (xo (ro (ro m))))
  | 15 => some (.int .i64 (eo (ro (ro m))))
  | 16 => some (.int .u16 (xo (ro (ro m))))
  | 17 => some (.int .i64 (xo (ro (ro m))))
  | 18 => some (.agg (lvs (yO m)))
  | 21 => some (.pointer (some ⟨p, 1, none⟩))
  | _ => none
/-- The fixed things of a round. -/
structure RP where
  w : World
  r : Nat
  G : Option Nat
  id : Int
  VA : Option Addr
  vc : Nat
  ls : List Ln
  m : List Int
  a0 : Act
/-- How the world stands, by how far the region has come. -/
def PhW (c : RP) (a : Act) (w' : World) : Nat → Prop
  | 0 => PS c.w c.r c.G c.id (.slice c.VA c.ls.length c.vc) c.ls c.m w'
  | 1 => PS c.w c.r c.G c.id (.slice c.VA c.ls.length c.vc) c.ls (ro c.m) w'
  | 2 => PS c.w c.r c.G c.id (.slice c.VA c.ls.length c.vc) c.ls (ro (ro c.m)) w'
  | 3 => PS c.w c.r c.G c.id (.slice c.VA c.ls.length c.vc) c.ls (ro (ro (ro c.m))) w'
  | 4 => ∃ W, w' = W.alloc (.cells (lvs (yO c.m)) 51) ∧ PS c.w c.r c.G c.id (.slice c.VA c.ls.length c.vc) c.ls (ro (ro (ro c.m))) W ∧ slot a 40 = .slice (some ⟨W.heap.size, 0, none⟩) 1 1
  | 5 => ∃ A2 c2, slot a 41 = .slice A2 (c.ls ++ [yO c.m]).length c2 ∧ w'.cell? ⟨c.w.heap.size, 1, none⟩ = some (.slice c.VA c.ls.length c.vc) ∧ w'.frozen? ⟨c.w.heap.size, 1, none⟩ = false ∧ PS c.w c.r c.G c.id (.slice A2 (c.ls ++ [yO c.m]).length c2) (c.ls ++ [yO c.m]) (ro (ro (ro c.m))) (w'.setCell ⟨c.w.heap.size, 1, none⟩ (.slice A2 (c.ls ++ [yO c.m]).length c2))
  | _ => ∃ A2 c2, PS c.w c.r c.G c.id (.slice A2 (c.ls ++ [yO c.m]).length c2) (c.ls ++ [yO c.m]) (ro (ro (ro c.m))) w'
/-- Which operations have come up, by how far the region has come. -/
structure PhL (l : Array Bool) (ph : Nat) : Prop where
  le : ph ≤ 6
  u1 : l.getD 3 false = decide (1 ≤ ph)
  u2 : l.getD 8 false = decide (2 ≤ ph)
  u3 : l.getD 13 false = decide (3 ≤ ph)
  b : l.getD 19 false = decide (4 ≤ ph)
  p : l.getD 20 false = decide (5 ≤ ph)
  s : l.getD 22 false = decide (6 ≤ ph)
  l1 : 5 ≤ ph → l.getD 1 false = true
  l6 : 2 ≤ ph → l.getD 6 false = true
  l11 : 3 ≤ ph → l.getD 11 false = true
  l16 : 4 ≤ ph → l.getD 16 false = true
  d6 : l.getD 6 false = true → 1 ≤ ph
  d11 : l.getD 11 false = true → 2 ≤ ph
  d16 : l.getD 16 false = true → 3 ≤ ph
  d17 : l.getD 17 false = true → l.getD 16 false = true
  d18 : l.getD 18 false = true → l.getD 17 false = true
structure ParI (c : RP) (l : Array Bool) (a : Act) (w' : World) : Prop where
  size : a.tmps.size = 51
  defs : a.defers = c.a0.defers
  base : ∀ s, s < 21 ∨ 44 ≤ s → slot a s = slot c.a0 s
  vals : ∀ j v, valP c.w.heap.size c.r c.VA c.ls.length c.vc c.m j = some v → l.getD j false = true → slot a (21 + j) = v
  e6 : l.getD 6 false = true → eo c.m = 0
  e11 : l.getD 11 false = true → eo (ro c.m) = 0
  e16 : l.getD 16 false = true → eo (ro (ro c.m)) = 0
  ph : ∃ n, PhL l n ∧ PhW c a w' n
theorem gset {l : Array Bool} {j : Nat} (hj : j < l.size) (k : Nat) : (l.setIfInBounds j true).getD k false = if k = j then true else l.getD k false := by
  by_cases h : k = j
  · subst h; simp [Array.getD, hj]
  · rw [if_neg h, Array.getD_eq_getD_getElem?, Array.getD_eq_getD_getElem?, Array.getElem?_setIfInBounds_ne (Ne.symm h)]
theorem gset_ne {l : Array Bool} {j : Nat} {k : Nat} (h : k ≠ j) : (l.setIfInBounds j true).getD k false = l.getD k false := by
  rw [Array.getD_eq_getD_getElem?, Array.getD_eq_getD_getElem?, Array.getElem?_setIfInBounds_ne (Ne.symm h)]
section
variable {c : RP} {l : Array Bool} {a : Act} {w' w2 : World} {j : Nat} {v : Value}
theorem slot_keep (hs : a.tmps.size = 51) (hj : j < 23) {s : Nat} (h : s ≠ 21 + j) : slot (a.put (some (21 + j)) v) s = slot a s := by
  rw [put_at (by omega), if_neg h]
theorem PhW.put (hs : a.tmps.size = 51) (hj : j < 23) (h19 : j ≠ 19) (h20 : j ≠ 20) {n : Nat} (h : PhW c a w' n) : PhW c (a.put (some (21 + j)) v) w' n := by
  match n with
  | 0 => exact h
  | 1 => exact h
  | 2 => exact h
  | 3 => exact h
  | 4 =>
    obtain ⟨W, e, hp, hs4⟩ := h
    exact ⟨W, e, hp, (slot_keep hs hj (by omega)).trans hs4⟩
  | 5 =>
    obtain ⟨A2, c2, e, hp⟩ := h
    exact ⟨A2, c2, (slot_keep hs hj (by omega)).trans e, hp⟩
  | n + 6 => exact h
/-- The parts of the invariant that hang on slots and listed operations, behind operation j. -/
theorem ParI.slots (h : ParI c l a w') (hj : j < 23) (hsz : l.size = 23) (hv : ∀ u, valP c.w.heap.size c.r c.VA c.ls.length c.vc c.m j = some u → v = u)
    (k6 : j = 6 → eo c.m = 0) (k11 : j = 11 → eo (ro c.m) = 0) (k16 : j = 16 → eo (ro (ro c.m)) = 0)
    (hp : ∃ n, PhL (l.setIfInBounds j true) n ∧ PhW c (a.put (some (21 + j)) v) w2 n) : ParI c (l.setIfInBounds j true) (a.put (some (21 + j)) v) w2 := by
  have hjs : j < l.size := by omega
  refine ⟨put_size.trans h.size, put_defers.trans h.defs, fun s hs => (slot_keep h.size hj (by omega)).trans (h.base s hs), fun k u hk hl => ?_, fun hl => ?_, fun hl => ?_, fun hl => ?_, hp⟩
  · by_cases e : k = j
    · subst e
      rw [put_at (by rw [h.size]; omega), if_pos rfl]
      exact hv u hk
    · rw [gset_ne e] at hl
      by_cases e2 : 21 + k = 21 + j
      · omega
      · exact (slot_keep h.size hj e2).trans (h.vals k u hk hl)
  all_goals
    rw [gset hjs] at hl
    split at hl
    · rename_i e; first | exact k6 e.symm | exact k11 e.symm | exact k16 e.symm
    · first | exact h.e6 hl | exact h.e11 hl | exact h.e16 hl
/-- Operation j, which does not turn how far the region has come. -/
theorem ParI.stay (h : ParI c l a w') (hj : j < 23) (hsz : l.size = 23) (hv : ∀ u, valP c.w.heap.size c.r c.VA c.ls.length c.vc c.m j = some u → v = u)
    (hn : j ≠ 3 ∧ j ≠ 8 ∧ j ≠ 13 ∧ j ≠ 19 ∧ j ≠ 20 ∧ j ≠ 22)
    (k6 : j = 6 → eo c.m = 0 ∧ l.getD 3 false = true) (k11 : j = 11 → eo (ro c.m) = 0 ∧ l.getD 8 false = true) (k16 : j = 16 → eo (ro (ro c.m)) = 0 ∧ l.getD 13 false = true) (k17 : j = 17 → l.getD 16 false = true) (k18 : j = 18 → l.getD 17 false = true) : ParI c (l.setIfInBounds j true) (a.put (some (21 + j)) v) w' := by
  have hjs : j < l.size := by omega
  obtain ⟨n, hl, hw⟩ := h.ph
  refine h.slots hj hsz hv (fun e => (k6 e).1) (fun e => (k11 e).1) (fun e => (k16 e).1) ⟨n, ?_, hw.put h.size hj hn.2.2.2.1 hn.2.2.2.2.1⟩
  have up : ∀ {k}, l.getD k false = true → (l.setIfInBounds j true).getD k false = true := fun {k} e => by rw [gset hjs]; split <;> first | rfl | exact e
  refine ⟨hl.le, ?_, ?_, ?_, ?_, ?_, ?_, fun e => up (hl.l1 e), fun e => up (hl.l6 e), fun e => up (hl.l11 e), fun e => up (hl.l16 e), fun e => ?_, fun e => ?_, fun e => ?_, fun e => ?_, fun e => ?_⟩
  · rw [gset_ne (by omega)]; exact hl.u1
  · rw [gset_ne (by omega)]; exact hl.u2
  · rw [gset_ne (by omega)]; exact hl.u3
  · rw [gset_ne (by omega)]; exact hl.b
  · rw [gset_ne (by omega)]; exact hl.p
  · rw [gset_ne (by omega)]; exact hl.s
  · rw [gset hjs] at e
    split at e
    · rename_i e2; have := (k6 e2.symm).2; rw [hl.u1] at this; simpa using this
    · exact hl.d6 e
  · rw [gset hjs] at e
    split at e
    · rename_i e2; have := (k11 e2.symm).2; rw [hl.u2] at this; simpa using this
    · exact hl.d11 e
  · rw [gset hjs] at e
    split at e
    · rename_i e2; have := (k16 e2.symm).2; rw [hl.u3] at this; simpa using this
    · exact hl.d16 e
  · rw [gset hjs] at e
    split at e
    · rename_i e2; exact up (k17 e2.symm)
    · exact up (hl.d17 e)
  · rw [gset hjs] at e
    split at e
    · rename_i e2; exact up (k18 e2.symm)
    · exact up (hl.d18 e)
theorem PhL.step {n : Nat} (h : PhL l n) (hsz : l.size = 23) (hc : (n = 0 ∧ j = 3) ∨ (n = 1 ∧ j = 8) ∨ (n = 2 ∧ j = 13) ∨ (n = 3 ∧ j = 19) ∨ (n = 4 ∧ j = 20) ∨ (n = 5 ∧ j = 22))
    (k1 : n = 1 → l.getD 6 false = true) (k2 : n = 2 → l.getD 11 false = true) (k3 : n = 3 → l.getD 16 false = true) (k4 : n = 4 → l.getD 1 false = true) : PhL (l.setIfInBounds j true) (n + 1) := by
  have hjs : j < l.size := by omega
  have h6 := h.l6
  have h11 := h.l11
  have h16 := h.l16
  have h1 := h.l1
  have g6 := h.d6
  have g11 := h.d11
  have g16 := h.d16
  have g17 := h.d17
  have g18 := h.d18
  refine ⟨by omega, ?_, ?_, ?_, ?_, ?_, ?_, ?_, ?_, ?_, ?_, ?_, ?_, ?_, ?_, ?_⟩
  all_goals
    rcases hc with ⟨rfl, rfl⟩ | ⟨rfl, rfl⟩ | ⟨rfl, rfl⟩ | ⟨rfl, rfl⟩ | ⟨rfl, rfl⟩ | ⟨rfl, rfl⟩
    all_goals
      (try simp only [gset hjs, h.u1, h.u2, h.u3, h.b, h.p, h.s, ↓reduceIte])
      first
        | decide
        | (intro e; omega)
        | (intro e; first | exact k1 rfl | exact k2 rfl | exact k3 rfl | exact k4 rfl)
        | (intro e; exact h6 (by omega))
        | (intro e; exact h11 (by omega))
        | (intro e; exact h16 (by omega))
        | (intro e; exact h1 (by omega))
        | (intro e; exact g17 e)
        | (intro e; exact g18 e)
        | (intro e; have := g6 e; omega)
        | (intro e; have := g11 e; omega)
        | (intro e; have := g16 e; omega)
/-- The state of Parse ahead of the append. -/
theorem PhW.cell {n : Nat} (h : PhW c a w' n) (hn : n < 5) : w'.cell? ⟨c.w.heap.size, 1, none⟩ = some (.slice c.VA c.ls.length c.vc) := by
  match n, hn with
  | 0, _ => exact PS.cell h
  | 1, _ => exact PS.cell h
  | 2, _ => exact PS.cell h
  | 3, _ => exact PS.cell h
  | 4, _ =>
    obtain ⟨W, rfl, hp, _⟩ := h
    exact (hp.alloc _).cell
theorem PhW.door {n : Nat} (h : PhW c a w' n) (hn : n < 4) : ∃ x y z, Blk w' c.w.heap.size 25 #[x, y] ∧ Blk w' (c.w.heap.size + 1) 29 #[z] ∧ Below c.w.heap.size c.w w' := by
  match n, hn with
  | 0, _ => exact ⟨_, _, _, PS.hp h, PS.hq h, PS.hb h⟩
  | 1, _ => exact ⟨_, _, _, PS.hp h, PS.hq h, PS.hb h⟩
  | 2, _ => exact ⟨_, _, _, PS.hp h, PS.hq h, PS.hb h⟩
  | 3, _ => exact ⟨_, _, _, PS.hp h, PS.hq h, PS.hb h⟩
end
section
variable {ρ : Operand → Value} {W : World} {o : Oper}
theorem run_field1 {s : Nat} {p : Nat} (ho : o.op = .fieldAddr 25 (.tmp s) 1) (e : ρ (.tmp s) = .pointer (some ⟨p, 0, none⟩)) : (execOp ρ o).run Tryd.prog W = .ok (.value (.pointer (some ⟨p, 1, none⟩))) W := by
  simp [execOp, ho, e, go_sem]
theorem run_loadL {s p : Nat} {A : Option Addr} {n cc : Nat} (ho : o.op = .load 23 (.tmp s)) (e : ρ (.tmp s) = .pointer (some ⟨p, 1, none⟩)) (hc : W.cell? ⟨p, 1, none⟩ = some (.slice A n cc)) : (execOp ρ o).run Tryd.prog W = .ok (.value (.slice A n cc)) W := by
  simp [execOp, ho, e, go_sem, hc]
theorem run_move {s : Nat} {v : Value} (ho : o.op = .move (.tmp s)) (e : ρ (.tmp s) = v) : (execOp ρ o).run Tryd.prog W = .ok (.value v) W := by
  simp [execOp, ho, e, go_sem]
theorem run_extract {s k : Nat} {vs : Array Value} {v : Value} (ho : o.op = .extract (.tmp s) k) (e : ρ (.tmp s) = .tuple vs) (hk : vs[k]? = some v) : (execOp ρ o).run Tryd.prog W = .ok (.value v) W := by
  simp [execOp, ho, e, go_sem, Instr.extract, hk]
theorem run_conv {s : Nat} {n : Int} (ho : o.op = .convert 49 3 (.tmp s)) (e : ρ (.tmp s) = .int .u16 n) (h0 : 0 ≤ n) (h1 : n < 65536) : (execOp ρ o).run Tryd.prog W = .ok (.value (.int .i64 n)) W := by
  have hw : IntKind.i64.wrap n = n := by rw [IntKind.wrap_i64]; omega
  simp [execOp, ho, e, go_sem, hw]
theorem run_buildL {s t u : Nat} {l : Ln} (ho : o.op = .build 51 #[(0, .tmp s), (1, .tmp t), (2, .tmp u)]) (e0 : ρ (.tmp s) = .int .u16 l.item) (e1 : ρ (.tmp t) = .int .u16 l.loc) (e2 : ρ (.tmp u) = .int .i64 l.qty) : (execOp ρ o).run Tryd.prog W = .ok (.value (.agg (lvs l))) W := by
  simp [execOp, ho, e0, e1, e2, go_sem]
theorem run_rowL {s : Nat} {l : Ln} (ho : o.op = .buildSlice 23 1 #[(0, .tmp s)]) (e0 : ρ (.tmp s) = .agg (lvs l)) : (execOp ρ o).run Tryd.prog W = .ok (.value (.slice (some ⟨W.heap.size, 0, none⟩) 1 1)) (W.alloc (.cells (lvs l) 51)) := by
  simp [execOp, ho, e0, go_sem]
theorem run_storeL {s t p : Nat} {A : Option Addr} {n cc : Nat} {u : Value} (ho : o.op = .store 23 (.tmp s) (.tmp t)) (e : ρ (.tmp s) = .pointer (some ⟨p, 1, none⟩)) (e2 : ρ (.tmp t) = .slice A n cc) (hc : W.cell? ⟨p, 1, none⟩ = some u) (hf : W.frozen? ⟨p, 1, none⟩ = false) : (execOp ρ o).run Tryd.prog W = .ok .skip (W.setCell ⟨p, 1, none⟩ (.slice A n cc)) := by
  simp [execOp, ho, e, e2, go_sem, hc, hf]
end
theorem hfalse {l : Array Bool} {j : Nat} (h0 : l.getD j true = false) (h1 : l.getD j false = true) : False := by
  rw [Array.getD_eq_getD_getElem?] at h0 h1
  cases h : l[j]? with
  | none => rw [h] at h0; simp at h0
  | some b => rw [h] at h0 h1; simp at h0 h1; rw [h0] at h1; cases h1
theorem eo_two {m : List Int} (h : eo m ≠ 0) : eo m = 2 := by unfold eo at h ⊢; split <;> simp_all
theorem eo_lt1 {m : List Int} (h : eo m ≠ 0) : m.length < 6 := by unfold eo at h; split at h <;> first | exact absurd rfl h | omega
theorem ro_len (m : List Int) : m.length ≤ (ro m).length + 2 := by
  unfold ro; split
  · rw [List.length_drop]; omega
  · omega
theorem eo_lt2 {m : List Int} (h : eo (ro m) ≠ 0) : m.length < 6 := by
  have h1 := ro_len m
  have : (ro m).length < 2 := by unfold eo at h; split at h <;> first | exact absurd rfl h | omega
  omega
theorem eo_lt3 {m : List Int} (h : eo (ro (ro m)) ≠ 0) : m.length < 6 := by
  have h1 := ro_len m
  have h2 := ro_len (ro m)
  have : (ro (ro m)).length < 2 := by unfold eo at h; split at h <;> first | exact absurd rfl h | omega
  omega
theorem eo_all {m : List Int} (h1 : eo m = 0) (h2 : eo (ro m) = 0) (h3 : eo (ro (ro m)) = 0) : 6 ≤ m.length ∧ yO m = lnOf m ∧ ro (ro (ro m)) = m.drop 6 := by
  have q1 : 2 ≤ m.length := by unfold eo at h1; split at h1 <;> first | assumption | (exact absurd h1 (by decide))
  have r1 : ro m = m.drop 2 := by unfold ro; rw [if_pos q1]
  have x1 : xo m = num (m.take 2) := by unfold xo; rw [if_pos q1]
  rw [r1] at h2 h3
  have q2 : 2 ≤ (m.drop 2).length := by unfold eo at h2; split at h2 <;> first | assumption | (exact absurd h2 (by decide))
  have r2 : ro (m.drop 2) = m.drop 4 := by unfold ro; rw [if_pos q2, List.drop_drop]
  have x2 : xo (m.drop 2) = num ((m.drop 2).take 2) := by unfold xo; rw [if_pos q2]
  rw [r2] at h3
  have q3 : 2 ≤ (m.drop 4).length := by unfold eo at h3; split at h3 <;> first | assumption | (exact absurd h3 (by decide))
  have r3 : ro (m.drop 4) = m.drop 6 := by unfold ro; rw [if_pos q3, List.drop_drop]
  have x3 : xo (m.drop 4) = num ((m.drop 4).take 2) := by unfold xo; rw [if_pos q3]
  refine ⟨by rw [List.length_drop] at q3; omega, ?_, by rw [r1, r2, r3]⟩
  unfold yO lnOf
  rw [r1, r2, x1, x2, x3]
theorem slot_some {tm : Array Value} {df : List Deferred} {s : Nat} {v : Value} (hs : s < tm.size) (h : slot ⟨tm, df⟩ s = v) : tm[s]? = some v := by
  unfold slot at h
  simp only [Array.getD, hs, dif_pos] at h
  rw [← h, Array.getElem?_eq_getElem hs]
  rfl
section
variable {P : Program} {ops : Array Oper} {Q : Exit → Act → World → Prop} {K : Act → World → Prop} {j : Nat} {o : Oper} {a : Act} {w w2 w1 : World}
theorem stepA (ho : ops[j]? = some o) (hw : Region.wanted o (yielded ops a.tmps) = true) (h : if Region.wanted o (yielded ops a.tmps) = true then Oper.wp P o a w K Q else False) : wpOp P ops Q j K a w := by
  rw [if_pos hw] at h
  unfold wpOp
  rw [ho]
  simp only [hw, if_true]
  exact .inl h
theorem stepS (ho : ops[j]? = some o) (hw : Region.wanted o (yielded ops a.tmps) = true) (hd : o.dst = none) (hrun : (execOp a.eval o).run P w = .ok .skip w2) (h : K a w2) : wpOp P ops Q j K a w := by
  unfold wpOp
  rw [ho]
  simp only [hw, if_true]
  left
  unfold Oper.wp
  rw [hrun]
  show K (a.put o.dst undef) w2
  rw [hd]
  exact h
theorem stepP {f : FuncId} {args : Array Value} {R : Ending → World → Prop} (ho : ops[j]? = some o) (hw : Region.wanted o (yielded ops a.tmps) = true)
    (hrun : (execOp a.eval o).run P w = .ok (.enter f args) w1) (hc : Calls P f args w1 R) (h : ∀ e w2, R e w2 → ∃ c, e = .panicked c ∧ Q (.panic c) a w2) : wpOp P ops Q j K a w := by
  unfold wpOp
  rw [ho]
  simp only [hw, if_true]
  left
  unfold Oper.wp
  rw [hrun]
  refine Calls.mono hc (fun e w2 hr => ?_)
  obtain ⟨c, rfl, hk⟩ := h e w2 hr
  exact hk
end
theorem ParI.last {c : RP} {l : Array Bool} {a : Act} {w' w2 : World} (h : ParI c l a w') (hsz : l.size = 23) (hp : ∃ n, PhL (l.setIfInBounds 22 true) n ∧ PhW c a w2 n) : ParI c (l.setIfInBounds 22 true) a w2 := by
  refine ⟨h.size, h.defs, h.base, fun k u hk hl => ?_, fun hl => h.e6 (by rwa [gset_ne (by decide)] at hl), fun hl => h.e11 (by rwa [gset_ne (by decide)] at hl), fun hl => h.e16 (by rwa [gset_ne (by decide)] at hl), hp⟩
  by_cases e : k = 22
  · subst e; cases hk
  · rw [gset_ne e] at hl
    exact h.vals k u hk hl
theorem rep_false (n j : Nat) : (Array.replicate n false).getD j false = false := by
  by_cases h : j < n <;> simp [Array.getD, h]
theorem PhL.init (n : Nat) : PhL (Array.replicate n false) 0 := by
  refine ⟨by omega, ?_, ?_, ?_, ?_, ?_, ?_, ?_, ?_, ?_, ?_, ?_, ?_, ?_, ?_, ?_⟩
  all_goals
    (try simp only [rep_false])
    first
      | decide
      | (intro h; omega)
      | (intro h; cases h)
theorem ParI.init {c : RP} {n : Nat} {w' : World} (hs : c.a0.tmps.size = 51) (h : PS c.w c.r c.G c.id (.slice c.VA c.ls.length c.vc) c.ls c.m w') : ParI c (Array.replicate n false) c.a0 w' := by
  refine ⟨hs, rfl, fun _ _ => rfl, fun j v _ h => ?_, fun h => ?_, fun h => ?_, fun h => ?_, 0, PhL.init n, h⟩
  all_goals
    rw [rep_false] at h
    cases h
/-- Behind all of them. -/
theorem ParI.all {c : RP} {l : Array Bool} {a : Act} {w' : World} (h : ParI c l a w') (ha : ∀ j, j < 23 → l.getD j false = true) : 6 ≤ c.m.length ∧ ∃ A2 c2, PS c.w c.r c.G c.id (.slice A2 (c.ls ++ [lnOf c.m]).length c2) (c.ls ++ [lnOf c.m]) (c.m.drop 6) w' := by
  obtain ⟨n, hl, hw⟩ := h.ph
  have h6 := ha 22 (by decide)
  rw [hl.s] at h6
  have h7 := hl.le
  obtain rfl : n = 6 := by have := of_decide_eq_true h6; omega
  obtain ⟨A2, c2, hp⟩ := hw
  obtain ⟨q1, q2, q3⟩ := eo_all (h.e6 (ha 6 (by decide))) (h.e11 (ha 11 (by decide))) (h.e16 (ha 16 (by decide)))
  rw [q2, q3] at hp
  exact ⟨q1, A2, c2, hp⟩
theorem cons_len {l : List Value} {n : Nat} (h : l.length = n + 1) : ∃ x l', l = x :: l' ∧ l'.length = n := by
  cases l with
  | nil => simp at h
  | cons x l => exact ⟨x, l, rfl, by simpa using h⟩
theorem shape51 (tm : Array Value) (h : tm.size = 51) : ∃ x0 x1 x2 x3 x4 x5 x6 x7 x8 x9 x10 x11 x12 x13 x14 x15 x16 x17 x18 x19 x20 x21 x22 x23 x24 x25 x26 x27 x28 x29 x30 x31 x32 x33 x34 x35 x36 x37 x38 x39 x40 x41 x42 x43 x44 x45 x46 x47 x48 x49 x50, tm = #[x0, x1, x2, x3, x4, x5, x6, x7, x8, x9, x10, x11, x12, x13, x14, x15, x16, x17, x18, x19, x20, x21, x22, x23, x24, x25, x26, x27, x28, x29, x30, x31, x32, x33, x34, x35, x36, x37, x38, x39, x40, x41, x42, x43, x44, x45, x46, x47, x48, x49, x50] := by
  obtain ⟨l⟩ := tm
  have h0 : l.length = 51 := h
  clear h
  obtain ⟨x0, l0, e0, h1⟩ := cons_len h0
  obtain ⟨x1, l1, e1, h2⟩ := cons_len h1
  obtain ⟨x2, l2, e2, h3⟩ := cons_len h2
  obtain ⟨x3, l3, e3, h4⟩ := cons_len h3
  obtain ⟨x4, l4, e4, h5⟩ := cons_len h4
  obtain ⟨x5, l5, e5, h6⟩ := cons_len h5
  obtain ⟨x6, l6, e6, h7⟩ := cons_len h6
  obtain ⟨x7, l7, e7, h8⟩ := cons_len h7
  obtain ⟨x8, l8, e8, h9⟩ := cons_len h8
  obtain ⟨x9, l9, e9, h10⟩ := cons_len h9
  obtain ⟨x10, l10, e10, h11⟩ := cons_len h10
  obtain ⟨x11, l11, e11, h12⟩ := cons_len h11
  obtain ⟨x12, l12, e12, h13⟩ := cons_len h12
  obtain ⟨x13, l13, e13, h14⟩ := cons_len h13
  obtain ⟨x14, l14, e14, h15⟩ := cons_len h14
  obtain ⟨x15, l15, e15, h16⟩ := cons_len h15
  obtain ⟨x16, l16, e16, h17⟩ := cons_len h16
  obtain ⟨x17, l17, e17, h18⟩ := cons_len h17
  obtain ⟨x18, l18, e18, h19⟩ := cons_len h18
  obtain ⟨x19, l19, e19, h20⟩ := cons_len h19
  obtain ⟨x20, l20, e20, h21⟩ := cons_len h20
  obtain ⟨x21, l21, e21, h22⟩ := cons_len h21
  obtain ⟨x22, l22, e22, h23⟩ := cons_len h22
  obtain ⟨x23, l23, e23, h24⟩ := cons_len h23
  obtain ⟨x24, l24, e24, h25⟩ := cons_len h24
  obtain ⟨x25, l25, e25, h26⟩ := cons_len h25
  obtain ⟨x26, l26, e26, h27⟩ := cons_len h26
  obtain ⟨x27, l27, e27, h28⟩ := cons_len h27
  obtain ⟨x28, l28, e28, h29⟩ := cons_len h28
  obtain ⟨x29, l29, e29, h30⟩ := cons_len h29
  obtain ⟨x30, l30, e30, h31⟩ := cons_len h30
  obtain ⟨x31, l31, e31, h32⟩ := cons_len h31
  obtain ⟨x32, l32, e32, h33⟩ := cons_len h32
  obtain ⟨x33, l33, e33, h34⟩ := cons_len h33
  obtain ⟨x34, l34, e34, h35⟩ := cons_len h34
  obtain ⟨x35, l35, e35, h36⟩ := cons_len h35
  obtain ⟨x36, l36, e36, h37⟩ := cons_len h36
  obtain ⟨x37, l37, e37, h38⟩ := cons_len h37
  obtain ⟨x38, l38, e38, h39⟩ := cons_len h38
  obtain ⟨x39, l39, e39, h40⟩ := cons_len h39
  obtain ⟨x40, l40, e40, h41⟩ := cons_len h40
  obtain ⟨x41, l41, e41, h42⟩ := cons_len h41
  obtain ⟨x42, l42, e42, h43⟩ := cons_len h42
  obtain ⟨x43, l43, e43, h44⟩ := cons_len h43
  obtain ⟨x44, l44, e44, h45⟩ := cons_len h44
  obtain ⟨x45, l45, e45, h46⟩ := cons_len h45
  obtain ⟨x46, l46, e46, h47⟩ := cons_len h46
  obtain ⟨x47, l47, e47, h48⟩ := cons_len h47
  obtain ⟨x48, l48, e48, h49⟩ := cons_len h48
  obtain ⟨x49, l49, e49, h50⟩ := cons_len h49
  obtain ⟨x50, l50, e50, h51⟩ := cons_len h50
  have e51 := List.eq_nil_of_length_eq_zero h51
  subst e51
  subst e50
  subst e49
  subst e48
  subst e47
  subst e46
  subst e45
  subst e44
  subst e43
  subst e42
  subst e41
  subst e40
  subst e39
  subst e38
  subst e37
  subst e36
  subst e35
  subst e34
  subst e33
  subst e32
  subst e31
  subst e30
  subst e29
  subst e28
  subst e27
  subst e26
  subst e25
  subst e24
  subst e23
  subst e22
  subst e21
  subst e20
  subst e19
  subst e18
  subst e17
  subst e16
  subst e15
  subst e14
  subst e13
  subst e12
  subst e11
  subst e10
  subst e9
  subst e8
  subst e7
  subst e6
  subst e5
  subst e4
  subst e3
  subst e2
  subst e1
  subst e0
  exact ⟨x0, x1, x2, x3, x4, x5, x6, x7, x8, x9, x10, x11, x12, x13, x14, x15, x16, x17, x18, x19, x20, x21, x22, x23, x24, x25, x26, x27, x28, x29, x30, x31, x32, x33, x34, x35, x36, x37, x38, x39, x40, x41, x42, x43, x44, x45, x46, x47, x48, x49, x50, rfl⟩
end Go.Proofs.YtigknfkkegccgaaDoor.K
