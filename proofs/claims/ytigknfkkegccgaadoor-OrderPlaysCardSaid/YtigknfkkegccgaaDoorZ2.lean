/- Texts of this claim in one, 2 of 3, each with its own head. -/
import Derived.Test.YtigknfkkegccgaaDoorZ1
import Derived.BigQuiet
import Derived.Deep.CutRange
import Derived.Deep.DeepCutAuto
/- Orders: a round of Parse, whatever its order, by an invariant. -/
namespace Go.Proofs.YtigknfkkegccgaaDoor.K
open Go.RowKit
set_option linter.unusedVariables false
set_option linter.unusedSimpArgs false
attribute [local go_sem ↓] Go.wp_at_zero Go.wp_at_succ
def xo (m : List Int) : Int := if 2 ≤ m.length then num (m.take 2) else 0
def eo (m : List Int) : Int := if 2 ≤ m.length then 0 else 2
def ro (m : List Int) : List Int := if 2 ≤ m.length then m.drop 2 else m
theorem ro_inB {m : List Int} (h : InB m) : InB (ro m) := by unfold ro; split <;> first | exact h.drop_ 2 | exact h
theorem xo_lt {m : List Int} (h : InB m) : 0 ≤ xo m ∧ xo m < 65536 := by
  unfold xo
  split
  · have := num_lt (k := 2) (h.take_ 2) (by rw [List.length_take]; omega)
    have q : (256 : Int) ^ 2 = 65536 := by decide
    omega
  · omega
def yO (m : List Int) : Ln := ⟨xo m, xo (ro m), xo (ro (ro m))⟩
theorem PS.u16g {w w' : World} {r : Nat} {G : Option Nat} {id : Int} {v : Value} {ls : List Ln} {m : List Int} (h : PS w r G id v ls m w') (hb : InB m) :
    Calls Tryd.prog 41 #[.pointer (some ⟨r, 0, none⟩)] w' fun e w2 => e = .returned (.tuple #[.int .u16 (xo m), .int .i64 (eo m)]) ∧ PS w r G id v ls (ro m) w2 := by
  by_cases h2 : 2 ≤ m.length
  · refine (PS.u16 (Same.refl _) h h2 hb rfl).mono ?_
    rintro e w2 ⟨rfl, H⟩
    unfold xo eo ro
    rw [if_pos h2, if_pos h2, if_pos h2]
    exact ⟨rfl, H.out⟩
  · refine (PS.u16s (Same.refl _) h (by omega)).mono ?_
    rintro e w2 ⟨rfl, H⟩
    unfold xo eo ro
    rw [if_neg h2, if_neg h2, if_neg h2]
    exact ⟨rfl, H.out⟩
/-- What the operations yield. -/
def valP (p r : Nat) (VA : Option Addr) (n vc : Nat) (m : List Int) : Nat → Option Value
  | 0 => some (.pointer (some ⟨p, 1, none⟩))
  | 1 => some (.slice VA n vc)
  | 2 => some (.pointer (some ⟨r, 0, none⟩))
  | 3 => some (.tuple #[.int .u16 (xo m), .int .i64 (eo m)])
  | 4 => some (.int .u16 (xo m))
  | 5 => some (.int .i64 (eo m))
  | 6 => some (.int .u16 (xo m))
  | 7 => some (.pointer (some ⟨r, 0, none⟩))
  | 8 => some (.tuple #[.int .u16 (xo (ro m)), .int .i64 (eo (ro m))])
  | 9 => some (.int .u16 (xo (ro m)))
  | 10 => some (.int .i64 (eo (ro m)))
  | 11 => some (.int .u16 (xo (ro m)))
  | 12 => some (.pointer (some ⟨r, 0, none⟩))
  | 13 => some (.tuple #[.int .u16 (xo (ro (ro m))), .int .i64 (eo (ro (ro m)))])
  | 14 => some (.int .u16 (xo (ro (ro m))))
  | 15 => some (.int .i64 (eo (ro (ro m))))
  | 16 => some (.int .u16 (xo (ro (ro m))))
  | 17 => some (.int .i64 (xo (ro (ro m))))
  | 18 => some (.agg (lvs (yO m)))
  | 21 => some (.pointer (some ⟨p, 1, none⟩))
  | _ => none
/-- The fixed things of a round. -/
structure RP where
  w : World
  r : Nat
  G : Option Nat
  id : Int
  VA : Option Addr
  vc : Nat
  ls : List Ln
  m : List Int
  a0 : Act
/-- How the world stands, by how far the region has come. -/
def PhW (c : RP) (a : Act) (w' : World) : Nat → Prop
  | 0 => PS c.w c.r c.G c.id (.slice c.VA c.ls.length c.vc) c.ls c.m w'
  | 1 => PS c.w c.r c.G c.id (.slice c.VA c.ls.length c.vc) c.ls (ro c.m) w'
  | 2 => PS c.w c.r c.G c.id (.slice c.VA c.ls.length c.vc) c.ls (ro (ro c.m)) w'
  | 3 => PS c.w c.r c.G c.id (.slice c.VA c.ls.length c.vc) c.ls (ro (ro (ro c.m))) w'
  | 4 => ∃ W, w' = W.alloc (.cells (lvs (yO c.m)) 51) ∧ PS c.w c.r c.G c.id (.slice c.VA c.ls.length c.vc) c.ls (ro (ro (ro c.m))) W ∧ slot a 40 = .slice (some ⟨W.heap.size, 0, none⟩) 1 1
  | 5 => ∃ A2 c2, slot a 41 = .slice A2 (c.ls ++ [yO c.m]).length c2 ∧ w'.cell? ⟨c.w.heap.size, 1, none⟩ = some (.slice c.VA c.ls.length c.vc) ∧ w'.frozen? ⟨c.w.heap.size, 1, none⟩ = false ∧ PS c.w c.r c.G c.id (.slice A2 (c.ls ++ [yO c.m]).length c2) (c.ls ++ [yO c.m]) (ro (ro (ro c.m))) (w'.setCell ⟨c.w.heap.size, 1, none⟩ (.slice A2 (c.ls ++ [yO c.m]).length c2))
  | _ => ∃ A2 c2, PS c.w c.r c.G c.id (.slice A2 (c.ls ++ [yO c.m]).length c2) (c.ls ++ [yO c.m]) (ro (ro (ro c.m))) w'
/-- Which operations have come up, by how far the region has come. -/
structure PhL (l : Array Bool) (ph : Nat) : Prop where
  le : ph ≤ 6
  u1 : l.getD 3 false = decide (1 ≤ ph)
  u2 : l.getD 8 false = decide (2 ≤ ph)
  u3 : l.getD 13 false = decide (3 ≤ ph)
  b : l.getD 19 false = decide (4 ≤ ph)
  p : l.getD 20 false = decide (5 ≤ ph)
  s : l.getD 22 false = decide (6 ≤ ph)
  l1 : 5 ≤ ph → l.getD 1 false = true
  l6 : 2 ≤ ph → l.getD 6 false = true
  l11 : 3 ≤ ph → l.getD 11 false = true
  l16 : 4 ≤ ph → l.getD 16 false = true
  d6 : l.getD 6 false = true → 1 ≤ ph
  d11 : l.getD 11 false = true → 2 ≤ ph
  d16 : l.getD 16 false = true → 3 ≤ ph
  d17 : l.getD 17 false = true → l.getD 16 false = true
  d18 : l.getD 18 false = true → l.getD 17 false = true
structure ParI (c : RP) (l : Array Bool) (a : Act) (w' : World) : Prop where
  size : a.tmps.size = 51
  defs : a.defers = c.a0.defers
  base : ∀ s, s < 21 ∨ 44 ≤ s → slot a s = slot c.a0 s
  vals : ∀ j v, valP c.w.heap.size c.r c.VA c.ls.length c.vc c.m j = some v → l.getD j false = true → slot a (21 + j) = v
  e6 : l.getD 6 false = true → eo c.m = 0
  e11 : l.getD 11 false = true → eo (ro c.m) = 0
  e16 : l.getD 16 false = true → eo (ro (ro c.m)) = 0
  ph : ∃ n, PhL l n ∧ PhW c a w' n
theorem gset {l : Array Bool} {j : Nat} (hj : j < l.size) (k : Nat) : (l.setIfInBounds j true).getD k false = if k = j then true else l.getD k false := by
  by_cases h : k = j
  · subst h; simp [Array.getD, hj]
  · rw [if_neg h, Array.getD_eq_getD_getElem?, Array.getD_eq_getD_getElem?, Array.getElem?_setIfInBounds_ne (Ne.symm h)]
theorem gset_ne {l : Array Bool} {j : Nat} {k : Nat} (h : k ≠ j) : (l.setIfInBounds j true).getD k false = l.getD k false := by
  rw [Array.getD_eq_getD_getElem?, Array.getD_eq_getD_getElem?, Array.getElem?_setIfInBounds_ne (Ne.symm h)]
section
variable {c : RP} {l : Array Bool} {a : Act} {w' w2 : World} {j : Nat} {v : Value}
theorem slot_keep (hs : a.tmps.size = 51) (hj : j < 23) {s : Nat} (h : s ≠ 21 + j) : slot (a.put (some (21 + j)) v) s = slot a s := by
  rw [put_at (by omega), if_neg h]
theorem PhW.put (hs : a.tmps.size = 51) (hj : j < 23) (h19 : j ≠ 19) (h20 : j ≠ 20) {n : Nat} (h : PhW c a w' n) : PhW c (a.put (some (21 + j)) v) w' n := by
  match n with
  | 0 => exact h
  | 1 => exact h
  | 2 => exact h
  | 3 => exact h
  | 4 =>
    obtain ⟨W, e, hp, hs4⟩ := h
    exact ⟨W, e, hp, (slot_keep hs hj (by omega)).trans hs4⟩
  | 5 =>
    obtain ⟨A2, c2, e, hp⟩ := h
    exact ⟨A2, c2, (slot_keep hs hj (by omega)).trans e, hp⟩
  | n + 6 => exact h
/-- The parts of the invariant that hang on slots and listed operations, behind operation j. -/
theorem ParI.slots (h : ParI c l a w') (hj : j < 23) (hsz : l.size = 23) (hv : ∀ u, valP c.w.heap.size c.r c.VA c.ls.length c.vc c.m j = some u → v = u)
    (k6 : j = 6 → eo c.m = 0) (k11 : j = 11 → eo (ro c.m) = 0) (k16 : j = 16 → eo (ro (ro c.m)) = 0)
    (hp : ∃ n, PhL (l.setIfInBounds j true) n ∧ PhW c (a.put (some (21 + j)) v) w2 n) : ParI c (l.setIfInBounds j true) (a.put (some (21 + j)) v) w2 := by
  have hjs : j < l.size := by omega
  refine ⟨put_size.trans h.size, put_defers.trans h.defs, fun s hs => (slot_keep h.size hj (by omega)).trans (h.base s hs), fun k u hk hl => ?_, fun hl => ?_, fun hl => ?_, fun hl => ?_, hp⟩
  · by_cases e : k = j
    · subst e
      rw [put_at (by rw [h.size]; omega), if_pos rfl]
      exact hv u hk
    · rw [gset_ne e] at hl
      by_cases e2 : 21 + k = 21 + j
      · omega
      · exact (slot_keep h.size hj e2).trans (h.vals k u hk hl)
  all_goals
    rw [gset hjs] at hl
    split at hl
    · rename_i e; first | exact k6 e.symm | exact k11 e.symm | exact k16 e.symm
    · first | exact h.e6 hl | exact h.e11 hl | exact h.e16 hl
/-- Operation j, which does not turn how far the region has come. -/
theorem ParI.stay (h : ParI c l a w') (hj : j < 23) (hsz : l.size = 23) (hv : ∀ u, valP c.w.heap.size c.r c.VA c.ls.length c.vc c.m j = some u → v = u)
    (hn : j ≠ 3 ∧ j ≠ 8 ∧ j ≠ 13 ∧ j ≠ 19 ∧ j ≠ 20 ∧ j ≠ 22)
    (k6 : j = 6 → eo c.m = 0 ∧ l.getD 3 false = true) (k11 : j = 11 → eo (ro c.m) = 0 ∧ l.getD 8 false = true) (k16 : j = 16 → eo (ro (ro c.m)) = 0 ∧ l.getD 13 false = true) (k17 : j = 17 → l.getD 16 false = true) (k18 : j = 18 → l.getD 17 false = true) : ParI c (l.setIfInBounds j true) (a.put (some (21 + j)) v) w' := by
  have hjs : j < l.size := by omega
  obtain ⟨n, hl, hw⟩ := h.ph
  refine h.slots hj hsz hv (fun e => (k6 e).1) (fun e => (k11 e).1) (fun e => (k16 e).1) ⟨n, ?_, hw.put h.size hj hn.2.2.2.1 hn.2.2.2.2.1⟩
  have up : ∀ {k}, l.getD k false = true → (l.setIfInBounds j true).getD k false = true := fun {k} e => by rw [gset hjs]; split <;> first | rfl | exact e
  refine ⟨hl.le, ?_, ?_, ?_, ?_, ?_, ?_, fun e => up (hl.l1 e), fun e => up (hl.l6 e), fun e => up (hl.l11 e), fun e => up (hl.l16 e), fun e => ?_, fun e => ?_, fun e => ?_, fun e => ?_, fun e => ?_⟩
  · rw [gset_ne (by omega)]; exact hl.u1
  · rw [gset_ne (by omega)]; exact hl.u2
  · rw [gset_ne (by omega)]; exact hl.u3
  · rw [gset_ne (by omega)]; exact hl.b
  · rw [gset_ne (by omega)]; exact hl.p
  · rw [gset_ne (by omega)]; exact hl.s
  · rw [gset hjs] at e
    split at e
    · rename_i e2; have := (k6 e2.symm).2; rw [hl.u1] at this; simpa using this
    · exact hl.d6 e
  · rw [gset hjs] at e
    split at e
    · rename_i e2; have := (k11 e2.symm).2; rw [hl.u2] at this; simpa using this
    · exact hl.d11 e
  · rw [gset hjs] at e
    split at e
    · rename_i e2; have := (k16 e2.symm).2; rw [hl.u3] at this; simpa using this
    · exact hl.d16 e
  · rw [gset hjs] at e
    split at e
    · rename_i e2; exact up (k17 e2.symm)
    · exact up (hl.d17 e)
  · rw [gset hjs] at e
    split at e
    · rename_i e2; exact up (k18 e2.symm)
    · exact up (hl.d18 e)
theorem PhL.step {n : Nat} (h : PhL l n) (hsz : l.size = 23) (hc : (n = 0 ∧ j = 3) ∨ (n = 1 ∧ j = 8) ∨ (n = 2 ∧ j = 13) ∨ (n = 3 ∧ j = 19) ∨ (n = 4 ∧ j = 20) ∨ (n = 5 ∧ j = 22))
    (k1 : n = 1 → l.getD 6 false = true) (k2 : n = 2 → l.getD 11 false = true) (k3 : n = 3 → l.getD 16 false = true) (k4 : n = 4 → l.getD 1 false = true) : PhL (l.setIfInBounds j true) (n + 1) := by
  have hjs : j < l.size := by omega
  have h6 := h.l6
  have h11 := h.l11
  have h16 := h.l16
  have h1 := h.l1
  have g6 := h.d6
  have g11 := h.d11
  have g16 := h.d16
  have g17 := h.d17
  have g18 := h.d18
  refine ⟨by omega, ?_, ?_, ?_, ?_, ?_, ?_, ?_, ?_, ?_, ?_, ?_, ?_, ?_, ?_, ?_⟩
  all_goals
    rcases hc with ⟨rfl, rfl⟩ | ⟨rfl, rfl⟩ | ⟨rfl, rfl⟩ | ⟨rfl, rfl⟩ | ⟨rfl, rfl⟩ | ⟨rfl, rfl⟩
    all_goals
      (try simp only [gset hjs, h.u1, h.u2, h.u3, h.b, h.p, h.s, ↓reduceIte])
      first
        | decide
        | (intro e; omega)
        | (intro e; first | exact k1 rfl | exact k2 rfl | exact k3 rfl | exact k4 rfl)
        | (intro e; exact h6 (by omega))
        | (intro e; exact h11 (by omega))
        | (intro e; exact h16 (by omega))
        | (intro e; exact h1 (by omega))
        | (intro e; exact g17 e)
        | (intro e; exact g18 e)
        | (intro e; have := g6 e; omega)
        | (intro e; have := g11 e; omega)
        | (intro e; have := g16 e; omega)
/-- The state of Parse ahead of the append. -/
theorem PhW.cell {n : Nat} (h : PhW c a w' n) (hn : n < 5) : w'.cell? ⟨c.w.heap.size, 1, none⟩ = some (.slice c.VA c.ls.length c.vc) := by
  match n, hn with
  | 0, _ => exact PS.cell h
  | 1, _ => exact PS.cell h
  | 2, _ => exact PS.cell h
  | 3, _ => exact PS.cell h
  | 4, _ =>
    obtain ⟨W, rfl, hp, _⟩ := h
    exact (hp.alloc _).cell
theorem PhW.door {n : Nat} (h : PhW c a w' n) (hn : n < 4) : ∃ x y z, Blk w' c.w.heap.size 25 #[x, y] ∧ Blk w' (c.w.heap.size + 1) 29 #[z] ∧ Below c.w.heap.size c.w w' := by
  match n, hn with
  | 0, _ => exact ⟨_, _, _, PS.hp h, PS.hq h, PS.hb h⟩
  | 1, _ => exact ⟨_, _, _, PS.hp h, PS.hq h, PS.hb h⟩
  | 2, _ => exact ⟨_, _, _, PS.hp h, PS.hq h, PS.hb h⟩
  | 3, _ => exact ⟨_, _, _, PS.hp h, PS.hq h, PS.hb h⟩
end
section
variable {ρ : Operand → Value} {W : World} {o : Oper}
theorem run_field1 {s : Nat} {p : Nat} (ho : o.op = .fieldAddr 25 (.tmp s) 1) (e : ρ (.tmp s) = .pointer (some ⟨p, 0, none⟩)) : (execOp ρ o).run Tryd.prog W = .ok (.value (.pointer (some ⟨p, 1, none⟩))) W := by
  simp [execOp, ho, e, go_sem]
theorem run_loadL {s p : Nat} {A : Option Addr} {n cc : Nat} (ho : o.op = .load 23 (.tmp s)) (e : ρ (.tmp s) = .pointer (some ⟨p, 1, none⟩)) (hc : W.cell? ⟨p, 1, none⟩ = some (.slice A n cc)) : (execOp ρ o).run Tryd.prog W = .ok (.value (.slice A n cc)) W := by
  simp [execOp, ho, e, go_sem, hc]
theorem run_move {s : Nat} {v : Value} (ho : o.op = .move (.tmp s)) (e : ρ (.tmp s) = v) : (execOp ρ o).run Tryd.prog W = .ok (.value v) W := by
  simp [execOp, ho, e, go_sem]
theorem run_extract {s k : Nat} {vs : Array Value} {v : Value} (ho : o.op = .extract (.tmp s) k) (e : ρ (.tmp s) = .tuple vs) (hk : vs[k]? = some v) : (execOp ρ o).run Tryd.prog W = .ok (.value v) W := by
  simp [execOp, ho, e, go_sem, Instr.extract, hk]
theorem run_conv {s : Nat} {n : Int} (ho : o.op = .convert 49 3 (.tmp s)) (e : ρ (.tmp s) = .int .u16 n) (h0 : 0 ≤ n) (h1 : n < 65536) : (execOp ρ o).run Tryd.prog W = .ok (.value (.int .i64 n)) W := by
  have hw : IntKind.i64.wrap n = n := by rw [IntKind.wrap_i64]; omega
  simp [execOp, ho, e, go_sem, hw]
theorem run_buildL {s t u : Nat} {l : Ln} (ho : o.op = .build 51 #[(0, .tmp s), (1, .tmp t), (2, .tmp u)]) (e0 : ρ (.tmp s) = .int .u16 l.item) (e1 : ρ (.tmp t) = .int .u16 l.loc) (e2 : ρ (.tmp u) = .int .i64 l.qty) : (execOp ρ o).run Tryd.prog W = .ok (.value (.agg (lvs l))) W := by
  simp [execOp, ho, e0, e1, e2, go_sem]
theorem run_rowL {s : Nat} {l : Ln} (ho : o.op = .buildSlice 23 1 #[(0, .tmp s)]) (e0 : ρ (.tmp s) = .agg (lvs l)) : (execOp ρ o).run Tryd.prog W = .ok (.value (.slice (some ⟨W.heap.size, 0, none⟩) 1 1)) (W.alloc (.cells (lvs l) 51)) := by
  simp [execOp, ho, e0, go_sem]
theorem run_storeL {s t p : Nat} {A : Option Addr} {n cc : Nat} {u : Value} (ho : o.op = .store 23 (.tmp s) (.tmp t)) (e : ρ (.tmp s) = .pointer (some ⟨p, 1, none⟩)) (e2 : ρ (.tmp t) = .slice A n cc) (hc : W.cell? ⟨p, 1, none⟩ = some u) (hf : W.frozen? ⟨p, 1, none⟩ = false) : (execOp ρ o).run Tryd.prog W = .ok .skip (W.setCell ⟨p, 1, none⟩ (.slice A n cc)) := by
  simp [execOp, ho, e, e2, go_sem, hc, hf]
end
theorem hfalse {l : Array Bool} {j : Nat} (h0 : l.getD j true = false) (h1 : l.getD j false = true) : False := by
  rw [Array.getD_eq_getD_getElem?] at h0 h1
  cases h : l[j]? with
  | none => rw [h] at h0; simp at h0
  | some b => rw [h] at h0 h1; simp at h0 h1; rw [h0] at h1; cases h1
theorem eo_two {m : List Int} (h : eo m ≠ 0) : eo m = 2 := by unfold eo at h ⊢; split <;> simp_all
theorem eo_lt1 {m : List Int} (h : eo m ≠ 0) : m.length < 6 := by unfold eo at h; split at h <;> first | exact absurd rfl h | omega
theorem ro_len (m : List Int) : m.length ≤ (ro m).length + 2 := by
  unfold ro; split
  · rw [List.length_drop]; omega
  · omega
theorem eo_lt2 {m : List Int} (h : eo (ro m) ≠ 0) : m.length < 6 := by
  have h1 := ro_len m
  have : (ro m).length < 2 := by unfold eo at h; split at h <;> first | exact absurd rfl h | omega
  omega
theorem eo_lt3 {m : List Int} (h : eo (ro (ro m)) ≠ 0) : m.length < 6 := by
  have h1 := ro_len m
  have h2 := ro_len (ro m)
  have : (ro (ro m)).length < 2 := by unfold eo at h; split at h <;> first | exact absurd rfl h | omega
  omega
theorem eo_all {m : List Int} (h1 : eo m = 0) (h2 : eo (ro m) = 0) (h3 : eo (ro (ro m)) = 0) : 6 ≤ m.length ∧ yO m = lnOf m ∧ ro (ro (ro m)) = m.drop 6 := by
  have q1 : 2 ≤ m.length := by unfold eo at h1; split at h1 <;> first | assumption | (exact absurd h1 (by decide))
  have r1 : ro m = m.drop 2 := by unfold ro; rw [if_pos q1]
  have x1 : xo m = num (m.take 2) := by unfold xo; rw [if_pos q1]
  rw [r1] at h2 h3
  have q2 : 2 ≤ (m.drop 2).length := by unfold eo at h2; split at h2 <;> first | assumption | (exact absurd h2 (by decide))
  have r2 : ro (m.drop 2) = m.drop 4 := by unfold ro; rw [if_pos q2, List.drop_drop]
  have x2 : xo (m.drop 2) = num ((m.drop 2).take 2) := by unfold xo; rw [if_pos q2]
  rw [r2] at h3
  have q3 : 2 ≤ (m.drop 4).length := by unfold eo at h3; split at h3 <;> first | assumption | (exact absurd h3 (by decide))
  have r3 : ro (m.drop 4) = m.drop 6 := by unfold ro; rw [if_pos q3, List.drop_drop]
  have x3 : xo (m.drop 4) = num ((m.drop 4).take 2) := by unfold xo; rw [if_pos q3]
  refine ⟨by rw [List.length_drop] at q3; omega, ?_, by rw [r1, r2, r3]⟩
  unfold yO lnOf
  rw [r1, r2, x1, x2, x3]
theorem slot_some {tm : Array Value} {df : List Deferred} {s : Nat} {v : Value} (hs : s < tm.size) (h : slot ⟨tm, df⟩ s = v) : tm[s]? = some v := by
  unfold slot at h
  simp only [Array.getD, hs, dif_pos] at h
  rw [← h, Array.getElem?_eq_getElem hs]
  rfl
section
variable {P : Program} {ops : Array Oper} {Q : Exit → Act → World → Prop} {K : Act → World → Prop} {j : Nat} {o : Oper} {a : Act} {w w2 w1 : World}
theorem stepA (ho : ops[j]? = some o) (hw : Region.wanted o (yielded ops a.tmps) = true) (h : if Region.wanted o (yielded ops a.tmps) = true then Oper.wp P o a w K Q else False) : wpOp P ops Q j K a w := by
  rw [if_pos hw] at h
  unfold wpOp
  rw [ho]
  simp only [hw, if_true]
  exact .inl h
theorem stepS (ho : ops[j]? = some o) (hw : Region.wanted o (yielded ops a.tmps) = true) (hd : o.dst = none) (hrun : (execOp a.eval o).run P w = .ok .skip w2) (h : K a w2) : wpOp P ops Q j K a w := by
  unfold wpOp
  rw [ho]
  simp only [hw, if_true]
  left
  unfold Oper.wp
  rw [hrun]
  show K (a.put o.dst undef) w2
  rw [hd]
  exact h
theorem stepP {f : FuncId} {args : Array Value} {R : Ending → World → Prop} (ho : ops[j]? = some o) (hw : Region.wanted o (yielded ops a.tmps) = true)
    (hrun : (execOp a.eval o).run P w = .ok (.enter f args) w1) (hc : Calls P f args w1 R) (h : ∀ e w2, R e w2 → ∃ c, e = .panicked c ∧ Q (.panic c) a w2) : wpOp P ops Q j K a w := by
  unfold wpOp
  rw [ho]
  simp only [hw, if_true]
  left
  unfold Oper.wp
  rw [hrun]
  refine Calls.mono hc (fun e w2 hr => ?_)
  obtain ⟨c, rfl, hk⟩ := h e w2 hr
  exact hk
end
theorem ParI.last {c : RP} {l : Array Bool} {a : Act} {w' w2 : World} (h : ParI c l a w') (hsz : l.size = 23) (hp : ∃ n, PhL (l.setIfInBounds 22 true) n ∧ PhW c a w2 n) : ParI c (l.setIfInBounds 22 true) a w2 := by
  refine ⟨h.size, h.defs, h.base, fun k u hk hl => ?_, fun hl => h.e6 (by rwa [gset_ne (by decide)] at hl), fun hl => h.e11 (by rwa [gset_ne (by decide)] at hl), fun hl => h.e16 (by rwa [gset_ne (by decide)] at hl), hp⟩
  by_cases e : k = 22
  · subst e; cases hk
  · rw [gset_ne e] at hl
    exact h.vals k u hk hl
theorem rep_false (n j : Nat) : (Array.replicate n false).getD j false = false := by
  by_cases h : j < n <;> simp [Array.getD, h]
theorem PhL.init (n : Nat) : PhL (Array.replicate n false) 0 := by
  refine ⟨by omega, ?_, ?_, ?_, ?_, ?_, ?_, ?_, ?_, ?_, ?_, ?_, ?_, ?_, ?_, ?_⟩
  all_goals
    (try simp only [rep_false])
    first
      | decide
      | (intro h; omega)
      | (intro h; cases h)
theorem ParI.init {c : RP} {n : Nat} {w' : World} (hs : c.a0.tmps.size = 51) (h : PS c.w c.r c.G c.id (.slice c.VA c.ls.length c.vc) c.ls c.m w') : ParI c (Array.replicate n false) c.a0 w' := by
  refine ⟨hs, rfl, fun _ _ => rfl, fun j v _ h => ?_, fun h => ?_, fun h => ?_, fun h => ?_, 0, PhL.init n, h⟩
  all_goals
    rw [rep_false] at h
    cases h
/-- Behind all of them. -/
theorem ParI.all {c : RP} {l : Array Bool} {a : Act} {w' : World} (h : ParI c l a w') (ha : ∀ j, j < 23 → l.getD j false = true) : 6 ≤ c.m.length ∧ ∃ A2 c2, PS c.w c.r c.G c.id (.slice A2 (c.ls ++ [lnOf c.m]).length c2) (c.ls ++ [lnOf c.m]) (c.m.drop 6) w' := by
  obtain ⟨n, hl, hw⟩ := h.ph
  have h6 := ha 22 (by decide)
  rw [hl.s] at h6
  have h7 := hl.le
  obtain rfl : n = 6 := by have := of_decide_eq_true h6; omega
  obtain ⟨A2, c2, hp⟩ := hw
  obtain ⟨q1, q2, q3⟩ := eo_all (h.e6 (ha 6 (by decide))) (h.e11 (ha 11 (by decide))) (h.e16 (ha 16 (by decide)))
  rw [q2, q3] at hp
  exact ⟨q1, A2, c2, hp⟩
theorem cons_len {l : List Value} {n : Nat} (h : l.length = n + 1) : ∃ x l', l = x :: l' ∧ l'.length = n := by
  cases l with
  | nil => simp at h
  | cons x l => exact ⟨x, l, rfl, by simpa using h⟩
theorem shape51 (tm : Array Value) (h : tm.size = 51) : ∃ x0 x1 x2 x3 x4 x5 x6 x7 x8 x9 x10 x11 x12 x13 x14 x15 x16 x17 x18 x19 x20 x21 x22 x23 x24 x25 x26 x27 x28 x29 x30 x31 x32 x33 x34 x35 x36 x37 x38 x39 x40 x41 x42 x43 x44 x45 x46 x47 x48 x49 x50, tm = #[x0, x1, x2, x3, x4, x5, x6, x7, x8, x9, x10, x11, x12, x13, x14, x15, x16, x17, x18, x19, x20, x21, x22, x23, x24, x25, x26, x27, x28, x29, x30, x31, x32, x33, x34, x35, x36, x37, x38, x39, x40, x41, x42, x43, x44, x45, x46, x47, x48, x49, x50] := by
  obtain ⟨l⟩ := tm
  have h0 : l.length = 51 := h
  clear h
  obtain ⟨x0, l0, e0, h1⟩ := cons_len h0
  obtain ⟨x1, l1, e1, h2⟩ := cons_len h1
  obtain ⟨x2, l2, e2, h3⟩ := cons_len h2
  obtain ⟨x3, l3, e3, h4⟩ := cons_len h3
  obtain ⟨x4, l4, e4, h5⟩ := cons_len h4
  obtain ⟨x5, l5, e5, h6⟩ := cons_len h5
  obtain ⟨x6, l6, e6, h7⟩ := cons_len h6
  obtain ⟨x7, l7, e7, h8⟩ := cons_len h7
  obtain ⟨x8, l8, e8, h9⟩ := cons_len h8
  obtain ⟨x9, l9, e9, h10⟩ := cons_len h9
  obtain ⟨x10, l10, e10, h11⟩ := cons_len h10
  obtain ⟨x11, l11, e11, h12⟩ := cons_len h11
  obtain ⟨x12, l12, e12, h13⟩ := cons_len h12
  obtain ⟨x13, l13, e13, h14⟩ := cons_len h13
  obtain ⟨x14, l14, e14, h15⟩ := cons_len h14
  obtain ⟨x15, l15, e15, h16⟩ := cons_len h15
  obtain ⟨x16, l16, e16, h17⟩ := cons_len h16
  obtain ⟨x17, l17, e17, h18⟩ := cons_len h17
  obtain ⟨x18, l18, e18, h19⟩ := cons_len h18
  obtain ⟨x19, l19, e19, h20⟩ := cons_len h19
  obtain ⟨x20, l20, e20, h21⟩ := cons_len h20
  obtain ⟨x21, l21, e21, h22⟩ := cons_len h21
  obtain ⟨x22, l22, e22, h23⟩ := cons_len h22
  obtain ⟨x23, l23, e23, h24⟩ := cons_len h23
  obtain ⟨x24, l24, e24, h25⟩ := cons_len h24
  obtain ⟨x25, l25, e25, h26⟩ := cons_len h25
  obtain ⟨x26, l26, e26, h27⟩ := cons_len h26
  obtain ⟨x27, l27, e27, h28⟩ := cons_len h27
  obtain ⟨x28, l28, e28, h29⟩ := cons_len h28
  obtain ⟨x29, l29, e29, h30⟩ := cons_len h29
  obtain ⟨x30, l30, e30, h31⟩ := cons_len h30
  obtain ⟨x31, l31, e31, h32⟩ := cons_len h31
  obtain ⟨x32, l32, e32, h33⟩ := cons_len h32
  obtain ⟨x33, l33, e33, h34⟩ := cons_len h33
  obtain ⟨x34, l34, e34, h35⟩ := cons_len h34
  obtain ⟨x35, l35, e35, h36⟩ := cons_len h35
  obtain ⟨x36, l36, e36, h37⟩ := cons_len h36
  obtain ⟨x37, l37, e37, h38⟩ := cons_len h37
  obtain ⟨x38, l38, e38, h39⟩ := cons_len h38
  obtain ⟨x39, l39, e39, h40⟩ := cons_len h39
  obtain ⟨x40, l40, e40, h41⟩ := cons_len h40
  obtain ⟨x41, l41, e41, h42⟩ := cons_len h41
  obtain ⟨x42, l42, e42, h43⟩ := cons_len h42
  obtain ⟨x43, l43, e43, h44⟩ := cons_len h43
  obtain ⟨x44, l44, e44, h45⟩ := cons_len h44
  obtain ⟨x45, l45, e45, h46⟩ := cons_len h45
  obtain ⟨x46, l46, e46, h47⟩ := cons_len h46
  obtain ⟨x47, l47, e47, h48⟩ := cons_len h47
  obtain ⟨x48, l48, e48, h49⟩ := cons_len h48
  obtain ⟨x49, l49, e49, h50⟩ := cons_len h49
  obtain ⟨x50, l50, e50, h51⟩ := cons_len h50
  have e51 := List.eq_nil_of_length_eq_zero h51
  subst e51
  subst e50
  subst e49
  subst e48
  subst e47
  subst e46
  subst e45
  subst e44
  subst e43
  subst e42
  subst e41
  subst e40
  subst e39
  subst e38
  subst e37
  subst e36
  subst e35
  subst e34
  subst e33
  subst e32
  subst e31
  subst e30
  subst e29
  subst e28
  subst e27
  subst e26
  subst e25
  subst e24
  subst e23
  subst e22
  subst e21
  subst e20
  subst e19
  subst e18
  subst e17
  subst e16
  subst e15
  subst e14
  subst e13
  subst e12
  subst e11
  subst e10
  subst e9
  subst e8
  subst e7
  subst e6
  subst e5
  subst e4
  subst e3
  subst e2
  subst e1
  subst e0
  exact ⟨x0, x1, x2, x3, x4, x5, x6, x7, x8, x9, x10, x11, x12, x13, x14, x15, x16, x17, x18, x19, x20, x21, x22, x23, x24, x25, x26, x27, x28, x29, x30, x31, x32, x33, x34, x35, x36, x37, x38, x39, x40, x41, x42, x43, x44, x45, x46, x47, x48, x49, x50, rfl⟩
end Go.Proofs.YtigknfkkegccgaaDoor.K

/- Orders: Add, where it adds. -/
namespace Go.Proofs.YtigknfkkegccgaaDoor.K
open Go.RowKit
set_option linter.unusedVariables false
set_option linter.unusedSimpArgs false
attribute [local go_sem ↓] Go.wp_at_zero Go.wp_at_succ
theorem info_or : (Tryd.prog.info? 25).map (fun i => (i.zero, i.size, i.bytes)) = some (some (.agg #[.int .u32 0, .slice none 0 0]), 2, 32) := by kernel_rfl
theorem one_or (y : So) : ∀ u ∈ cO y, u.oneCell' = true := by
  intro u hu
  simp only [cO, List.mem_cons, List.not_mem_nil, or_false] at hu
  rcases hu with rfl | rfl <;> rfl
theorem enter_own (args : Array Value) (W : World) : (callFunc 46 args).run Tryd.prog W = .ok (.enter 46 args) W := rfl
theorem run_call_own {ρ : Operand → Value} {s : Nat} {v : Value} {ts : Array TypeId} {W : World} {o : Oper} (ho : o.op = .call { callee := .value (.func 46), args := #[.tmp s], argTypes := ts }) (e : ρ (.tmp s) = v) (hf : ρ (.func 46) = .func (.func 46) #[] #[] := by rfl) : (execOp ρ o).run Tryd.prog W = .ok (.enter 46 #[v]) W := by
  rw [← enter_own]
  simp [execOp, ho, e, hf, go_sem, resolve, invoke]
/-- The fixed things of Add's great region. -/
structure AP where
  w : World
  B : Nat
  b : Nat
  g : Nat
  VA : Option Addr
  vc : Nat
  os : List So
  ids : List Int
  id : Int
  A : Option Addr
  c : Nat
  ls : List Ln
  q : Nat
  a0 : Act
/-- What holds all along: the book as it was, the order in its box. -/
structure AW (p : AP) (w' : World) : Prop where
  bk : Bk p.B p.b p.g (.slice p.VA p.os.length p.vc) p.os p.ids w'
  box : Blk w' p.q 25 #[.int .u32 p.id, .slice p.A p.ls.length p.c]
  row : RowOf cL 3 w' w'.heap.size p.A p.ls
  fr : Fr0 p.w w'
  q : p.w.heap.size ≤ p.q
  old : ∀ k, (Value.slice p.VA p.os.length p.vc).ownBlock = some k → k < p.w.heap.size
theorem AW.next {p : AP} {w1 w2 : World} (h : AW p w1) (k : Fr0 w1 w2) : AW p w2 :=
  ⟨h.bk.fr k (fun _ _ _ h => h), h.box.fr k (fun h => h), RowOf.now h.row k.below0, h.fr.trans k (fun _ _ h => h), h.q, h.old⟩
/-- The end: the book with one order more. -/
structure AE (p : AP) (A' : Option Addr) (c' : Nat) (A2 : Option Addr) (c2 : Nat) (w' : World) : Prop where
  bk : Bk p.B p.b p.g (.slice A2 (p.os.length + 1) c2) (p.os ++ [⟨p.id, A', c', p.ls⟩]) p.ids w'
  box : Blk w' p.q 25 #[.int .u32 p.id, .slice p.A p.ls.length p.c]
  made : MadeL p.w.heap.size A' c' p.ls w'
  fr : Fr (fun j => j = p.b ∨ (Value.slice p.VA p.os.length p.vc).ownBlock = some j) p.w w'
  fresh : ∀ k, (Value.slice A2 (p.os.length + 1) c2).ownBlock = some k → (Value.slice p.VA p.os.length p.vc).ownBlock = some k ∨ p.w.heap.size ≤ k
/-- How the world stands, by how far the region has come. -/
def PhA (p : AP) (a : Act) (w' : World) : Nat → Prop
  | 0 => AW p w'
  | 1 => AW p w' ∧ ∃ A' c', slot a 40 = .agg #[.int .u32 p.id, .slice A' p.ls.length c'] ∧ MadeL p.w.heap.size A' c' p.ls w'
  | 2 => ∃ W A' c', w' = W.alloc (.cells #[.int .u32 p.id, .slice A' p.ls.length c'] 25) ∧ AW p W ∧ MadeL p.w.heap.size A' c' p.ls W ∧ slot a 41 = .slice (some ⟨W.heap.size, 0, none⟩) 1 1
  | 3 => ∃ A' c' A2 c2, slot a 42 = .slice A2 (p.os.length + 1) c2 ∧ w'.cell? ⟨p.b, 0, none⟩ = some (.slice p.VA p.os.length p.vc) ∧ w'.frozen? ⟨p.b, 0, none⟩ = false ∧ AE p A' c' A2 c2 (w'.setCell ⟨p.b, 0, none⟩ (.slice A2 (p.os.length + 1) c2))
  | _ => ∃ A' c' A2 c2, AE p A' c' A2 c2 w'
def valA (p : AP) : Nat → Option Value
  | 0 => some (.pointer (some ⟨p.b, 0, none⟩))
  | 1 => some (.pointer (some ⟨p.b, 0, none⟩))
  | 2 => some (.pointer (some ⟨p.b, 0, none⟩))
  | 3 => some (.pointer (some ⟨p.b, 0, none⟩))
  | 4 => some (.slice p.VA p.os.length p.vc)
  | 5 => some (.agg #[.int .u32 p.id, .slice p.A p.ls.length p.c])
  | 9 => some (.pointer (some ⟨p.b, 0, none⟩))
  | 10 => some (.pointer (some ⟨p.b, 0, none⟩))
  | _ => none
structure AL (l : Array Bool) (n : Nat) : Prop where
  le : n ≤ 4
  o : l.getD 6 false = decide (1 ≤ n)
  s : l.getD 7 false = decide (2 ≤ n)
  p : l.getD 8 false = decide (3 ≤ n)
  t : l.getD 11 false = decide (4 ≤ n)
  l4 : 3 ≤ n → l.getD 4 false = true
  l5 : 1 ≤ n → l.getD 5 false = true
section
variable {p : AP} {l : Array Bool} {a : Act} {w' w2 : World} {j : Nat} {v : Value}
theorem slot_keepA (hs : a.tmps.size = 51) (hj : j < 12) {s : Nat} (h : s ≠ 34 + j) : slot (a.put (some (34 + j)) v) s = slot a s := by
  rw [put_at (by omega), if_neg h]
end
structure AI (p : AP) (l : Array Bool) (a : Act) (w' : World) : Prop where
  size : a.tmps.size = 51
  defs : a.defers = p.a0.defers
  base : ∀ s, s < 34 ∨ 45 ≤ s → slot a s = slot p.a0 s
  vals : ∀ j v, valA p j = some v → l.getD j false = true → slot a (34 + j) = v
  ph : ∃ n, AL l n ∧ PhA p a w' n
section
variable {p : AP} {l : Array Bool} {a : Act} {w' w2 : World} {j : Nat} {v : Value}
theorem AI.slots (h : AI p l a w') (hj : j < 11) (hsz : l.size = 12) (hv : ∀ u, valA p j = some u → v = u)
    (hp : ∃ n, AL (l.setIfInBounds j true) n ∧ PhA p (a.put (some (34 + j)) v) w2 n) : AI p (l.setIfInBounds j true) (a.put (some (34 + j)) v) w2 := by
  have hjs : j < l.size := by omega
  refine ⟨put_size.trans h.size, put_defers.trans h.defs, fun s hs => (slot_keepA h.size (by omega) (by omega)).trans (h.base s hs), fun k u hk hl => ?_, hp⟩
  by_cases e : k = j
  · subst e
    rw [put_at (by rw [h.size]; omega), if_pos rfl]
    exact hv u hk
  · rw [gset_ne e] at hl
    exact (slot_keepA h.size (by omega) (by omega)).trans (h.vals k u hk hl)
theorem PhA.put (hs : a.tmps.size = 51) (hj : j < 11) (hn : j ≠ 6 ∧ j ≠ 7 ∧ j ≠ 8) {n : Nat} (h : PhA p a w' n) : PhA p (a.put (some (34 + j)) v) w' n := by
  match n with
  | 0 => exact h
  | 1 =>
    obtain ⟨h1, A', c', e, hm⟩ := h
    exact ⟨h1, A', c', (slot_keepA hs (by omega) (by omega)).trans e, hm⟩
  | 2 =>
    obtain ⟨W, A', c', e, hp, hm, hs4⟩ := h
    exact ⟨W, A', c', e, hp, hm, (slot_keepA hs (by omega) (by omega)).trans hs4⟩
  | 3 =>
    obtain ⟨A', c', A2, c2, e, hp⟩ := h
    exact ⟨A', c', A2, c2, (slot_keepA hs (by omega) (by omega)).trans e, hp⟩
  | n + 4 => exact h
theorem AI.stay (h : AI p l a w') (hj : j < 11) (hsz : l.size = 12) (hv : ∀ u, valA p j = some u → v = u) (hn : j ≠ 6 ∧ j ≠ 7 ∧ j ≠ 8) : AI p (l.setIfInBounds j true) (a.put (some (34 + j)) v) w' := by
  obtain ⟨n, hl, hw⟩ := h.ph
  have hjs : j < l.size := by omega
  refine h.slots hj hsz hv ⟨n, ⟨hl.le, ?_, ?_, ?_, ?_, fun e => ?_, fun e => ?_⟩, hw.put h.size hj hn⟩
  · rw [gset_ne (by omega)]; exact hl.o
  · rw [gset_ne (by omega)]; exact hl.s
  · rw [gset_ne (by omega)]; exact hl.p
  · rw [gset_ne (by omega)]; exact hl.t
  · rw [gset hjs]; split
    · rfl
    · exact hl.l4 e
  · rw [gset hjs]; split
    · rfl
    · exact hl.l5 e
theorem AL.step {n : Nat} (h : AL l n) (hsz : l.size = 12) (hc : (n = 0 ∧ j = 6) ∨ (n = 1 ∧ j = 7) ∨ (n = 2 ∧ j = 8) ∨ (n = 3 ∧ j = 11)) (k : n = 2 → l.getD 4 false = true) (k5 : n = 0 → l.getD 5 false = true) : AL (l.setIfInBounds j true) (n + 1) := by
  have hjs : j < l.size := by omega
  have h4 := h.l4
  have h5 := h.l5
  refine ⟨by omega, ?_, ?_, ?_, ?_, ?_, ?_⟩
  all_goals
    rcases hc with ⟨rfl, rfl⟩ | ⟨rfl, rfl⟩ | ⟨rfl, rfl⟩ | ⟨rfl, rfl⟩
    all_goals
      (try simp only [gset hjs, h.o, h.s, h.p, h.t, ↓reduceIte])
      first
        | decide
        | (intro e; omega)
        | (intro e; exact k rfl)
        | (intro e; exact h4 (by omega))
        | (intro e; exact k5 rfl)
        | (intro e; exact h5 (by omega))
theorem AI.last (h : AI p l a w') (hsz : l.size = 12) (hp : ∃ n, AL (l.setIfInBounds 11 true) n ∧ PhA p a w2 n) : AI p (l.setIfInBounds 11 true) a w2 := by
  refine ⟨h.size, h.defs, h.base, fun k u hk hl => ?_, hp⟩
  by_cases e : k = 11
  · subst e; cases hk
  · rw [gset_ne e] at hl
    exact h.vals k u hk hl
theorem AL.init (n : Nat) : AL (Array.replicate n false) 0 := by
  refine ⟨by omega, ?_, ?_, ?_, ?_, ?_, ?_⟩
  all_goals
    (try simp only [rep_false])
    first
      | decide
      | (intro h; omega)
theorem AI.init {n : Nat} (hs : p.a0.tmps.size = 51) (h : AW p w') : AI p (Array.replicate n false) p.a0 w' := by
  refine ⟨hs, rfl, fun _ _ => rfl, fun j v _ h => ?_, 0, AL.init n, h⟩
  rw [rep_false] at h
  cases h
theorem ever_own_ne {g base size n : Nat} {e : TypeId} {ids : List Int} {v : Value} {xs : List Value} {w : World} (h : Ever g ids w) (h' : w.ownsRow base e size v n xs) : v.ownBlock ≠ some g := by
  obtain ⟨D, ⟨es, clock, hh, _⟩, _⟩ := h
  rcases h'.2 with ⟨rfl, _⟩ | ⟨g', cap, cur, rfl, _, hh', _⟩
  · simp [Value.ownBlock]
  · intro e
    have : g' = g := by simpa [Value.ownBlock] using e
    rw [this, hh] at hh'
    cases hh'
theorem PhA.cell {n : Nat} (h : PhA p a w' n) (hn : n < 3) : w'.cell? ⟨p.b, 0, none⟩ = some (.slice p.VA p.os.length p.vc) := by
  match n, hn with
  | 0, _ => exact (AW.bk h).blk.cell 0
  | 1, _ => exact (AW.bk h.1).blk.cell 0
  | 2, _ =>
    obtain ⟨W, A', c', rfl, hp, _⟩ := h
    exact (hp.bk.blk.alloc _).cell 0
/-- An order is appended, behind its own making. -/
theorem AW.app {A' A2 : Option Addr} {c' c2 : Nat} {w3 : World} (h : AW p w') (hm : MadeL p.w.heap.size A' c' p.ls w') (hB : p.B ≤ p.w.heap.size) (h3 : w3.ownsRow p.B 25 2 (.slice A2 (p.os.length + 1) c2) (p.os.length + 1) ((p.os ++ [(⟨p.id, A', c', p.ls⟩ : So)]).flatMap cO)) (h4 : Fr (fun k => (Value.slice p.VA p.os.length p.vc).ownBlock = some k) w' w3)
    (h5 : ∀ k, (Value.slice A2 (p.os.length + 1) c2).ownBlock = some k → (Value.slice p.VA p.os.length p.vc).ownBlock = some k ∨ w'.heap.size ≤ k) :
    w3.cell? ⟨p.b, 0, none⟩ = some (.slice p.VA p.os.length p.vc) ∧ w3.frozen? ⟨p.b, 0, none⟩ = false ∧ AE p A' c' A2 c2 (w3.setCell ⟨p.b, 0, none⟩ (.slice A2 (p.os.length + 1) c2)) := by
  have hb := h.bk.blk.fr h4 (fun e => own_blk_ne h.bk.row h.bk.blk (by decide) e)
  have hbox := h.box.fr h4 (fun e => by have := h.old _ e; have := h.q; omega)
  have hF : Fr (fun j => j = p.b) w3 (w3.setCell ⟨p.b, 0, none⟩ (.slice A2 (p.os.length + 1) c2)) := (Fr.refl (fun j => j = p.b) w3).setCell (p := ⟨p.b, 0, none⟩) (fun _ => rfl) _
  have hml : ∀ {o : So} {B : Nat}, MadeL B o.A o.c o.ls w' → MadeL B o.A o.c o.ls (w3.setCell ⟨p.b, 0, none⟩ (.slice A2 (p.os.length + 1) c2)) := fun {o B} ho => by
    have h1 := ho.fr h4 (fun j e e' => own_ne ho.1 h.bk.row (by decide) j e e')
    exact h1.fr hF (fun j e e' => own_blk_ne h1.1 hb (by decide) (e' ▸ e))
  refine ⟨hb.cell 0, hb.frozen 0, ⟨⟨by simpa using hb.set_ 0 (.slice A2 (p.os.length + 1) c2), ?_, ?_, ?_, h.bk.low⟩, hbox.far (Blk.ne_ hbox hb (by decide)) _, hml (o := ⟨p.id, A', c', p.ls⟩) hm, ((h.fr.mono (fun _ _ h => h.elim)).trans h4 (fun j _ e => .inr e)).trans hF (fun j _ e => .inl e), fun k hk => (h5 k hk).imp id (fun e => Nat.le_trans h.fr.size e)⟩⟩
  · rw [List.length_append, List.length_singleton]
    exact own_fr h3 hF (fun j e e' => own_blk_ne h3 hb (by decide) (e' ▸ e))
  · intro o ho
    rcases List.mem_append.1 ho with ho | ho
    · exact hml (h.bk.each o ho)
    · rw [List.mem_singleton] at ho
      subst ho
      exact (hml (o := ⟨p.id, A', c', p.ls⟩) hm).low hB
  · exact (h.bk.ever.fr h4 (fun e => ever_own_ne h.bk.ever h.bk.row e)).fr hF h.bk.low.2.2
end
end Go.Proofs.YtigknfkkegccgaaDoor.K

/- Orders: Add, where it adds: its contract. -/
namespace Go.Proofs.YtigknfkkegccgaaDoor.K
open Go.RowKit
set_option linter.unusedVariables false
set_option linter.unusedSimpArgs false
attribute [local go_sem ↓] Go.wp_at_zero Go.wp_at_succ
section
variable {ρ : Operand → Value} {W : World} {o : Oper}
theorem run_nilp {s : Nat} {p : Addr} (ho : o.op = .nilCheck (.tmp s)) (e : ρ (.tmp s) = .pointer (some p)) : (execOp ρ o).run Tryd.prog W = .ok (.value (.pointer (some p))) W := by
  simp [execOp, ho, e, go_sem]
theorem run_fieldB0 {s p : Nat} (ho : o.op = .fieldAddr 95 (.tmp s) 0) (e : ρ (.tmp s) = .pointer (some ⟨p, 0, none⟩)) : (execOp ρ o).run Tryd.prog W = .ok (.value (.pointer (some ⟨p, 0, none⟩))) W := by
  simp [execOp, ho, e, go_sem]
theorem run_loadOs {s p : Nat} {A : Option Addr} {n cc : Nat} (ho : o.op = .load 43 (.tmp s)) (e : ρ (.tmp s) = .pointer (some ⟨p, 0, none⟩)) (hc : W.cell? ⟨p, 0, none⟩ = some (.slice A n cc)) : (execOp ρ o).run Tryd.prog W = .ok (.value (.slice A n cc)) W := by
  simp [execOp, ho, e, go_sem, hc]
theorem run_loadO {s p : Nat} {x y : Value} (ho : o.op = .load 25 (.tmp s)) (e : ρ (.tmp s) = .pointer (some ⟨p, 0, none⟩)) (hc : W.cell? ⟨p, 0, none⟩ = some x) (hd : W.cell? ⟨p, 1, none⟩ = some y) : (execOp ρ o).run Tryd.prog W = .ok (.value (.agg #[x, y])) W := by
  simp [execOp, ho, e, go_sem, hc, hd]
theorem run_rowO {s n c : Nat} {id : Int} {A : Option Addr} (ho : o.op = .buildSlice 43 1 #[(0, .tmp s)]) (e0 : ρ (.tmp s) = .agg #[.int .u32 id, .slice A n c]) : (execOp ρ o).run Tryd.prog W = .ok (.value (.slice (some ⟨W.heap.size, 0, none⟩) 1 1)) (W.alloc (.cells #[.int .u32 id, .slice A n c] 25)) := by
  simp [execOp, ho, e0, go_sem]
theorem run_storeOs {s t p : Nat} {A : Option Addr} {n cc : Nat} {u : Value} (ho : o.op = .store 43 (.tmp s) (.tmp t)) (e : ρ (.tmp s) = .pointer (some ⟨p, 0, none⟩)) (e2 : ρ (.tmp t) = .slice A n cc) (hc : W.cell? ⟨p, 0, none⟩ = some u) (hf : W.frozen? ⟨p, 0, none⟩ = false) : (execOp ρ o).run Tryd.prog W = .ok .skip (W.setCell ⟨p, 0, none⟩ (.slice A n cc)) := by
  simp [execOp, ho, e, e2, go_sem, hc, hf]
end
/-- An order is appended: a step of a region that draws its order. -/
theorem AW.step {ops : Array Oper} {o : Oper} {a : Act} {K : Act → World → Prop} {Q : Exit → Act → World → Prop} {E : Prop} {p : AP} {W : World} {A' : Option Addr} {c' : Nat} (hgd : o.guard = none) (s x : Operand)
    (ho : o.op = .call { callee := .builtin .append, args := #[s, x], argTypes := #[43, 43] }) (h : AW p W) (hm : MadeL p.w.heap.size A' c' p.ls W) (hB : p.B ≤ p.w.heap.size) (hl : p.os.length ≤ 1000)
    (hs : a.eval s = .slice p.VA p.os.length p.vc) (hx : a.eval x = .slice (some ⟨W.heap.size, 0, none⟩) 1 1)
    (hk : ∀ A2 c2 w2, w2.cell? ⟨p.b, 0, none⟩ = some (.slice p.VA p.os.length p.vc) → w2.frozen? ⟨p.b, 0, none⟩ = false → AE p A' c' A2 c2 (w2.setCell ⟨p.b, 0, none⟩ (.slice A2 (p.os.length + 1) c2)) → K (a.put o.dst (.slice A2 (p.os.length + 1) c2)) w2) :
    if Region.wanted o (yielded ops a.tmps) = true then Oper.wp Tryd.prog o a (W.alloc (.cells #[.int .u32 p.id, .slice A' p.ls.length c'] 25)) K Q else E := by
  have hf : Fr0 W (W.alloc (.cells #[.int .u32 p.id, .slice A' p.ls.length c'] 25)) := (Fr.refl (fun _ => False) W).alloc _
  have h' := h.next hf
  have hm' := hm.fr hf (fun _ _ h => h)
  refine stepR (c := cO) hgd s x 43 ho 25 (.agg #[.int .u32 0, .slice none 0 0]) 2 32 Tryd.underlying43 info_or rfl (by omega) (by omega) (fun _ => rfl) one_or p.B (W.heap.size + 1) (.slice p.VA p.os.length p.vc) p.os [⟨p.id, A', c', p.ls⟩] _ _ hs hx (row_new1 (c := cO) (⟨p.id, A', c', p.ls⟩ : So) (Nat.lt_succ_self _)) h'.bk.row (Nat.le_trans hB h'.fr.size) (by simp; omega) ?_
  intro v2 w2 h3 h4 h5
  rw [List.length_append, List.length_singleton] at h3
  obtain ⟨A2, c2, rfl, hc2⟩ := own_form h3
  obtain ⟨q1, q2, q3⟩ := h'.app hm' hB h3 h4 h5
  exact hk A2 c2 w2 q1 q2 q3
theorem Bk.put {B b g : Nat} {v : Value} {os : List So} {ids ids' : List Int} {w w' : World} (h : Bk B b g v os ids w) (k : Fr (fun j => j = g) w w') (he : Ever g ids' w') : Bk B b g v os ids' w' :=
  ⟨h.blk.fr k (fun e => h.low.2.2 e.symm), own_fr h.row k (fun j e e' => ever_own_ne h.ever h.row (e' ▸ e)), fun o ho => (h.each o ho).fr k (fun j e e' => ever_own_ne h.ever (h.each o ho).1 (e' ▸ e)), he, h.low⟩
set_option maxHeartbeats 4000000 in
set_option maxRecDepth 10000 in
theorem AddC {Bb b g c : Nat} {v : Value} {os : List So} {ids : List Int} {id : Int} {A : Option Addr} {ls : List Ln} {w : World} (h : Bk Bb b g v os ids w) (hid : 0 ≤ id ∧ id < 4294967296) (hr : RowOf cL 3 w w.heap.size A ls) (hc : ls.length ≤ c) (ho : ∀ l ∈ ls, l.ok) (hn : rightO ls = 0) (hm : id ∉ ids) (hos : os.length < 16) (hids : ids.length < 1024) :
    Calls Tryd.prog 20 #[.pointer (some ⟨b, 0, none⟩), .agg #[.int .u32 id, .slice A ls.length c]] w fun e w' => e = .returned (.int .i64 0) ∧ ∃ A' c' v', Hid (MadeL w.heap.size A' c' ls w') ∧ Hid (Bk Bb b g v' (os ++ [⟨id, A', c', ls⟩]) (ids ++ [id]) w') ∧ Hid (Fr (fun j => j = b ∨ j = g ∨ v.ownBlock = some j) w w') ∧ Hid (∀ k, v'.ownBlock = some k → v.ownBlock = some k ∨ w.heap.size ≤ k) := by
  obtain ⟨hl1, hl2, _⟩ := right_lines hn
  have hbl : Below w.heap.size w (w.alloc (.cells #[.int .u32 id, .slice A ls.length c] 25)) := (Below.refl _ w).alloc (Nat.le_refl _) _
  have HBL := Lib.hid hbl
  have HN := Lib.hid (Blk.new w 25 #[.int .u32 id, .slice A ls.length c])
  have HBK := Lib.hid (h.fr ((Fr.refl (fun _ => False) w).alloc (.cells #[.int .u32 id, .slice A ls.length c] 25)) (fun _ _ _ h => h))
  have HC := Lib.hid (RightC (id := id) (c := c) (RowOf.below hr hbl) (by have := hbl.size; omega) (by omega) hc ho)
  have HRow := Lib.hid hr
  have HOld : Hid (∀ k, v.ownBlock = some k → k < w.heap.size) := Lib.hid (fun k e => (h.row.lt k e).2)
  have HBB := Lib.hid h.lt
  rw [hn] at HC
  clear hbl hr ho hn h
  go_enter Tryd.func20, Tryd.ntmps20
  go_wp2_with fail
  refine Calls.mono HC.out ?_
  rintro e w1 ⟨rfl, F1⟩
  have hb1 := HBK.out.fr (Fr.of_below F1.out) (fun _ _ _ h => h)
  have h1 := HN.out.below F1.out HN.out.lt
  have d0 := h1.cell 0
  have d1 := h1.cell 1
  have q0 := hb1.blk.cell 0
  have q1 := hb1.blk.cell 1
  have hlk := ever_lookup hb1.ever.drew id hid.1 hid.2
  rw [show decide (id ∈ ids) = false by simp [hm]] at hlk
  have hln := fun ty => ever_len hb1.ever.drew ty
  obtain ⟨VA, vc, rfl, hvc⟩ := own_form hb1.row
  have HB1 := Lib.hid hb1
  have HN1 := Lib.hid h1
  have HBL1 := Lib.hid (HBL.out.trans (F1.out.mono HBL.out.size))
  clear hb1 h1 HBK HN
  go_wp2_with fail
  go_region
  go_wp2_with fail
  refine region_inv (fun a0 => AI ⟨w, Bb, b, g, VA, vc, os, ids, id, A, c, ls, w.heap.size, a0⟩) (by kernel_rfl) ?init ?done ?step
  case init =>
    refine AI.init (p := ⟨w, Bb, b, g, VA, vc, os, ids, id, A, c, ls, w.heap.size, _⟩) rfl ?_
    have haw : ∀ a0, AW ⟨w, Bb, b, g, VA, vc, os, ids, id, A, c, ls, w.heap.size, a0⟩ w1 := fun a0 => ⟨HB1.out, HN1.out, RowOf.now HRow.out HBL1.out, Fr.of_below HBL1.out, Nat.le_refl _, HOld.out⟩
    exact (haw _).next (((Fr.refl (fun _ => False) w1).drew).drew)
  case done =>
    rintro listed a w' hsz hI hr
    obtain ⟨tm, df⟩ := a
    obtain ⟨x0, x1, x2, x3, x4, x5, x6, x7, x8, x9, x10, x11, x12, x13, x14, x15, x16, x17, x18, x19, x20, x21, x22, x23, x24, x25, x26, x27, x28, x29, x30, x31, x32, x33, x34, x35, x36, x37, x38, x39, x40, x41, x42, x43, x44, x45, x46, x47, x48, x49, x50, rfl⟩ := shape51 tm hI.size
    have hall := fun j hj => ready_nil hsz (by kernel_rfl) hr j hj
    obtain ⟨n, hl, hw⟩ := hI.ph
    have h11 := hall 11 (by decide)
    rw [hl.t] at h11
    have hle := hl.le
    obtain rfl : n = 4 := by have := of_decide_eq_true h11; omega
    obtain ⟨A', c', A2, c2, hE⟩ := hw
    obtain rfl : df = [] := hI.defs
    obtain rfl : x0 = .pointer (some ⟨b, 0, none⟩) := hI.base 0 (by omega)
    obtain rfl : x3 = .pointer (some ⟨w.heap.size, 0, none⟩) := hI.base 3 (by omega)
    clear hI hr hsz hall hl hle h11
    have e0 := hE.box.cell 0
    have e1 := hE.bk.blk.cell 1
    obtain ⟨w9, hput, hev, hF⟩ := ever_put hE.bk.ever.drew hid.1 hid.2 hm (show ids.length ≤ 1000000 from by omega)
    have HE := Lib.hid hE
    have HEv := Lib.hid hev
    have HF9 := Lib.hid hF
    clear hE hev hF
    go_wp2_with fail
    go_region
    go_wp2
    go_ret
    have hF9 : Fr (fun j => j = g) w' w9 := (((Fr.refl (fun j => j = g) w').drew).trans HF9.out (fun _ _ h => h))
    refine ⟨rfl, A', c', _, Lib.hid (HE.out.made.fr hF9 (fun j e e' => ever_own_ne HE.out.bk.ever HE.out.made.1 (e' ▸ e))), Lib.hid (HE.out.bk.put hF9 HEv.out), Lib.hid (((HE.out.fr.mono (fun j _ e => ?_)).trans hF9 (fun j _ e => .inr (.inl e)))), Lib.hid HE.out.fresh⟩
    rcases e with e | e
    · exact .inl e
    · exact .inr (.inr e)
  case step =>
    rintro listed a w' hsz hI j hj
    obtain ⟨hj0, o, ho, hafter⟩ := mem_ready.1 hj
    match j, ho with
    | 0, ho =>
      obtain rfl := Option.some.inj ho
      exact stepV rfl (wanted_none rfl) (run_move rfl (hI.base 0 (by omega))) (hI.stay (j := 0) (by decide) hsz (fun u hu => Option.some.inj hu) (by decide))
    | 1, ho =>
      obtain rfl := Option.some.inj ho
      exact stepV rfl (wanted_none rfl) (run_move rfl (hI.base 0 (by omega))) (hI.stay (j := 1) (by decide) hsz (fun u hu => Option.some.inj hu) (by decide))
    | 2, ho =>
      obtain rfl := Option.some.inj ho
      exact stepV rfl (wanted_none rfl) (run_nilp rfl (hI.vals 1 _ rfl (hafter ⟨1, .data⟩ (by simp) rfl))) (hI.stay (j := 2) (by decide) hsz (fun u hu => Option.some.inj hu) (by decide))
    | 3, ho =>
      obtain rfl := Option.some.inj ho
      exact stepV rfl (wanted_none rfl) (run_fieldB0 rfl (hI.vals 2 _ rfl (hafter ⟨2, .data⟩ (by simp) rfl))) (hI.stay (j := 3) (by decide) hsz (fun u hu => Option.some.inj hu) (by decide))
    | 4, ho =>
      obtain rfl := Option.some.inj ho
      obtain ⟨n9, hl9, hw9⟩ := hI.ph
      have hn9 : n9 < 3 := by
        rcases Nat.lt_or_ge n9 3 with h | h
        · exact h
        · exact absurd (hl9.l4 h) (hfalse hj0)
      exact stepV rfl (wanted_none rfl) (run_loadOs rfl (hI.vals 3 _ rfl (hafter ⟨3, .data⟩ (by simp) rfl)) (hw9.cell hn9)) (hI.stay (j := 4) (by decide) hsz (fun u hu => Option.some.inj hu) (by decide))
    | 5, ho =>
      obtain rfl := Option.some.inj ho
      obtain ⟨n9, hl9, hw9⟩ := hI.ph
      have hn9 : n9 = 0 := by
        rcases Nat.lt_or_ge n9 1 with h | h
        · omega
        · exact absurd (hl9.l5 h) (hfalse hj0)
      subst hn9
      exact stepV rfl (wanted_none rfl) (run_loadO rfl (hI.base 3 (by omega)) (hw9.box.cell 0) (hw9.box.cell 1)) (hI.stay (j := 5) (by decide) hsz (fun u hu => Option.some.inj hu) (by decide))
    | 6, ho =>
      obtain rfl := Option.some.inj ho
      obtain ⟨n9, hl9, hw9⟩ := hI.ph
      have hup : ¬ 1 ≤ n9 := fun h => hfalse hj0 (hl9.o.trans (decide_eq_true h))
      obtain rfl : n9 = 0 := by omega
      have h5 := hafter ⟨5, .data⟩ (by simp) rfl
      refine stepC rfl (wanted_none rfl) (run_call_own rfl (hI.vals 5 _ rfl h5)) (ownC (show ls.length ≤ 1000 from by omega) (AW.row hw9)) ?_
      rintro e w2 ⟨A', c', rfl, H2, H3⟩
      exact ⟨_, rfl, hI.slots (by decide) hsz (fun u hu => by cases hu) ⟨_, hl9.step hsz (by decide) (fun e => absurd e (by decide)) (fun _ => h5), AW.next hw9 H3.out, A', c', (put_at (by rw [hI.size]; decide)).trans (if_pos rfl), H2.out.low (AW.fr hw9).size⟩⟩
    | 7, ho =>
      obtain rfl := Option.some.inj ho
      obtain ⟨n9, hl9, hw9⟩ := hI.ph
      have hup : ¬ 2 ≤ n9 := fun h => hfalse hj0 (hl9.s.trans (decide_eq_true h))
      have h6 := hafter ⟨6, .data⟩ (by simp) rfl
      rw [hl9.o] at h6
      obtain rfl : n9 = 1 := by have := of_decide_eq_true h6; omega
      obtain ⟨haw, A', c', hs9, hm9⟩ := hw9
      refine stepV rfl (wanted_none rfl) (run_rowO rfl hs9) ?_
      exact hI.slots (by decide) hsz (fun u hu => by cases hu) ⟨_, hl9.step hsz (by decide) (fun e => absurd e (by decide)) (fun e => absurd e (by decide)), w', A', c', rfl, haw, hm9, (put_at (by rw [hI.size]; decide)).trans (if_pos rfl)⟩
    | 8, ho =>
      obtain rfl := Option.some.inj ho
      obtain ⟨n9, hl9, hw9⟩ := hI.ph
      have hup : ¬ 3 ≤ n9 := fun h => hfalse hj0 (hl9.p.trans (decide_eq_true h))
      have h7 := hafter ⟨7, .data⟩ (by simp) rfl
      rw [hl9.s] at h7
      obtain rfl : n9 = 2 := by have := of_decide_eq_true h7; omega
      obtain ⟨W9, A', c', rfl, haw, hm9, hs9⟩ := hw9
      have h4l := hafter ⟨4, .data⟩ (by simp) rfl
      have hv4 := hI.vals 4 _ rfl h4l
      refine stepA rfl (wanted_none rfl) (AW.step rfl (.tmp 38) (.tmp 41) rfl haw hm9 HBB.out (show os.length ≤ 1000 from by omega) hv4 hs9 ?_)
      intro A2 c2 w2 hk2 hf2 hE2
      exact hI.slots (by decide) hsz (fun u hu => by cases hu) ⟨_, hl9.step hsz (by decide) (fun _ => h4l) (fun e => absurd e (by decide)), A', c', A2, c2, (put_at (by rw [hI.size]; decide)).trans (if_pos rfl), hk2, hf2, hE2⟩
    | 9, ho =>
      obtain rfl := Option.some.inj ho
      exact stepV rfl (wanted_none rfl) (run_nilp rfl (hI.vals 0 _ rfl (hafter ⟨0, .data⟩ (by simp) rfl))) (hI.stay (j := 9) (by decide) hsz (fun u hu => Option.some.inj hu) (by decide))
    | 10, ho =>
      obtain rfl := Option.some.inj ho
      exact stepV rfl (wanted_none rfl) (run_fieldB0 rfl (hI.vals 9 _ rfl (hafter ⟨9, .data⟩ (by simp) rfl))) (hI.stay (j := 10) (by decide) hsz (fun u hu => Option.some.inj hu) (by decide))
    | 11, ho =>
      obtain rfl := Option.some.inj ho
      obtain ⟨n9, hl9, hw9⟩ := hI.ph
      have hup : ¬ 4 ≤ n9 := fun h => hfalse hj0 (hl9.t.trans (decide_eq_true h))
      have h8 := hafter ⟨8, .data⟩ (by simp) rfl
      rw [hl9.p] at h8
      obtain rfl : n9 = 3 := by have := of_decide_eq_true h8; omega
      obtain ⟨A', c', A2, c2, hs9, hk9, hf9, hE9⟩ := hw9
      refine stepS rfl (wanted_none rfl) rfl (run_storeOs rfl (hI.vals 10 _ rfl (hafter ⟨10, .data⟩ (by simp) rfl)) hs9 hk9 hf9) ?_
      exact hI.last hsz ⟨_, hl9.step hsz (by decide) (fun e => absurd e (by decide)) (fun e => absurd e (by decide)), A', c', A2, c2, hE9⟩
end Go.Proofs.YtigknfkkegccgaaDoor.K

/- Orders: slices.Delete of one order. -/
namespace Go.Proofs.YtigknfkkegccgaaDoor.K
open Go.RowKit
set_option linter.unusedVariables false
set_option linter.unusedSimpArgs false
attribute [local go_sem ↓] Go.wp_at_zero Go.wp_at_succ
section
variable {g k l h x n m c : Nat} {W : World}
/-- 's[l:h]' of orders. -/
theorem ocut_lh (h1 : l ≤ h) (h2 : h ≤ c) (il ih : Int) (el : il = l) (eh : ih = h) : (Instr.slice 43 (.slice (some ⟨g, 0, none⟩) n c) (some (.int .i64 il)) (some (.int .i64 ih)) none).run Tryd.prog W = .ok (.slice (some ⟨g, if c = l then 0 else l * 2, none⟩) (h - l) (c - l)) W := by
  subst el eh
  obtain ⟨i, hi, hz⟩ := info_parts info_or
  have hel : Tryd.prog.elem 43 = 25 := by simp [Program.elem, Tryd.underlying43]
  have hu : Tryd.prog.underlying 43 = some (.slice (Tryd.prog.elem 43)) := by rw [hel]; exact Tryd.underlying43
  rw [run_slice_lh W 43 _ n c hu .i64 .i64 l h (by omega) (by omega) (by omega), hel]
  by_cases hc : c = l <;> simp [sizeOf, typeInfo, hi, hz, sliced, Result.andThen, hc, add_plain]
/-- 's[l:]' of orders. -/
theorem ocut_l (h1 : l ≤ n) (il : Int) (el : il = l) : (Instr.slice 43 (.slice (some ⟨g, 0, none⟩) n c) (some (.int .i64 il)) none none).run Tryd.prog W = .ok (.slice (some ⟨g, if c = l then 0 else l * 2, none⟩) (n - l) (c - l)) W := by
  subst el
  obtain ⟨i, hi, hz⟩ := info_parts info_or
  have hel : Tryd.prog.elem 43 = 25 := by simp [Program.elem, Tryd.underlying43]
  have hu : Tryd.prog.underlying 43 = some (.slice (Tryd.prog.elem 43)) := by rw [hel]; exact Tryd.underlying43
  rw [run_slice_l W 43 _ n c hu .i64 l (by omega) (by omega), hel]
  by_cases hc : c = l <;> simp [sizeOf, typeInfo, hi, hz, sliced, Result.andThen, hc, add_plain]
/-- 's[l:h:x]' of orders. -/
theorem ocut_lhm (h1 : l ≤ h) (h2 : h ≤ x) (h3 : x ≤ c) (il ih ix : Int) (el : il = l) (eh : ih = h) (ex : ix = x) : (Instr.slice 43 (.slice (some ⟨g, 0, none⟩) n c) (some (.int .i64 il)) (some (.int .i64 ih)) (some (.int .i64 ix))).run Tryd.prog W = .ok (.slice (some ⟨g, if x = l then 0 else l * 2, none⟩) (h - l) (x - l)) W := by
  subst el eh ex
  obtain ⟨i, hi, hz⟩ := info_parts info_or
  have hel : Tryd.prog.elem 43 = 25 := by simp [Program.elem, Tryd.underlying43]
  have hu : Tryd.prog.underlying 43 = some (.slice (Tryd.prog.elem 43)) := by rw [hel]; exact Tryd.underlying43
  rw [run_slice_lhm W 43 _ n c hu .i64 .i64 .i64 l h x (by omega) (by omega) (by omega) (by omega), hel]
  by_cases hc : x = l <;> simp [sizeOf, typeInfo, hi, hz, sliced, Result.andThen, hc, add_plain]
theorem ocut_h (h2 : h ≤ c) : (Instr.slice 43 (.slice (some ⟨g, 0, none⟩) n c) none (some (.int .i64 h)) none).run Tryd.prog W = .ok (.slice (some ⟨g, 0, none⟩) h c) W := by
  obtain ⟨i, h1, _⟩ := info_parts info_or
  exact cut_hi Tryd.underlying43 h1 _ n c h h2 W
/-- The row behind the append. -/
def del1 (k m : Nat) (cur : Array Value) : Array Value := (cur.toList.take (k * 2) ++ (cur.toList.drop ((k + 1) * 2)).take ((m - k) * 2) ++ cur.toList.drop (k * 2 + (m - k) * 2)).toArray
def del2 (m : Nat) (cur : Array Value) : Array Value := (cur.toList.take (m * 2) ++ ([.int .u32 0, .slice none 0 0] : List Value) ++ cur.toList.drop (m * 2 + 2)).toArray
theorem del1_size {cur : Array Value} (hk : k ≤ m) (hs : (m + 1) * 2 ≤ cur.size) : (del1 k m cur).size = cur.size := by
  unfold del1
  simp only [List.size_toArray, List.length_append, List.length_take, List.length_drop, Array.length_toList]
  omega
theorem del2_size {cur : Array Value} (hs : (m + 1) * 2 ≤ cur.size) : (del2 m cur).size = cur.size := by
  unfold del2
  simp only [List.size_toArray, List.length_append, List.length_take, List.length_drop, Array.length_toList, List.length_cons, List.length_nil]
  omega
theorem del_app {cur : Array Value} (hg : W.heap[g]? = some (.cells cur 25 (0, 0))) (hk : k ≤ m) (hc : m + 1 ≤ c) (hs : cur.size = c * 2) (h1 : ∀ u ∈ cur.toList.take ((m + 1) * 2), u.oneCell' = true) (ty : TypeId) :
    (Builtin.append_ #[43, 43] ty #[.slice (some ⟨g, 0, none⟩) k c, .slice (some ⟨g, if c = k + 1 then 0 else (k + 1) * 2, none⟩) (m - k) (c - (k + 1))]).run Tryd.prog W = .ok (.slice (some ⟨g, 0, none⟩) m c) (W.setRow g (del1 k m cur)) := by
  obtain ⟨i, hi, hz1, hz2, hz3⟩ := info_parts info_or
  have hlen : ((cur.toList.drop ((k + 1) * 2)).take ((m - k) * 2)).length = (m - k) * 2 := by
    rw [List.length_take, List.length_drop, Array.length_toList, hs]; omega
  have hrun := run_append_room (P := Tryd.prog) W 43 ty 25 i Tryd.underlying43 hi g k c cur hg ⟨g, if c = k + 1 then 0 else (k + 1) * 2, none⟩ (m - k) (c - (k + 1)) ((cur.toList.drop ((k + 1) * 2)).take ((m - k) * 2)) (by rw [hz2]; exact hlen)
    (fun j u hu => by
      have hj : j < (m - k) * 2 := by have := (List.getElem?_eq_some_iff.1 hu).1; omega
      rw [if_neg (by omega), add_plain]
      rw [List.getElem?_take, if_pos hj, List.getElem?_drop, Array.getElem?_toList] at hu
      exact (cell_of_row W g _ cur 25 (0, 0) hg).trans hu)
    (fun u hu => h1 u (by
      rw [← List.take_append_drop ((k + 1) * 2) (cur.toList.take ((m + 1) * 2)), List.drop_take]
      refine List.mem_append_right _ ?_
      rwa [show (m + 1) * 2 - (k + 1) * 2 = (m - k) * 2 by omega])) (by omega) (by rw [hz2, hlen]; omega)
  rw [hrun, hlen, hz2, show k + (m - k) = m by omega]
  rfl
theorem del_clear {cur : Array Value} (hg : W.heap[g]? = some (.cells cur 25 (0, 0))) (hs : (m + 1) * 2 ≤ cur.size) (ty : TypeId) (c' : Nat) :
    (Builtin.clear_ #[43] ty #[.slice (some ⟨g, m * 2, none⟩) 1 c']).run Tryd.prog W = .ok (.tuple #[]) (W.setRow g (del2 m cur)) := by
  have hv : (zeroValue 25).run Tryd.prog W = .ok (.agg #[.int .u32 0, .slice none 0 0]) W := by kernel_rfl
  have hz : (Builtin.zeroCells (Value.agg #[.int .u32 0, .slice none 0 0]).cells 1).toList = [.int .u32 0, .slice none 0 0] := by kernel_rfl
  have hst := run_storeCells_at Tryd.prog g (m * 2) 25 [.int .u32 0, .slice none 0 0] 0 cur W hg (by simp; omega) (by intro v hv; simp at hv; rcases hv with rfl | rfl <;> rfl)
  simp only [Nat.add_zero] at hst
  simp [Builtin.clear_, run_underlying Tryd.underlying43, hv, hz, hst, del2]
/-- What is left. -/
theorem del_left {os : List So} {cur : Array Value} (hl : os.length = m + 1) (hk : k ≤ m) (hs : (m + 1) * 2 ≤ cur.size) (hx : cur.toList.take ((m + 1) * 2) = os.flatMap cO) :
    (del2 m (del1 k m cur)).toList.take (m * 2) = (os.eraseIdx k).flatMap cO := by
  have hf : ∀ q : List So, (q.flatMap cO).length = q.length * 2 := fun q => flat_len (c := cO) (fun _ => rfl) q
  have h1 : (del2 m (del1 k m cur)).toList.take (m * 2) = (del1 k m cur).toList.take (m * 2) := by
    have hd := del1_size (cur := cur) hk hs
    unfold del2
    simp only [List.append_assoc]
    rw [List.take_append_of_le_length (by rw [List.length_take, Array.length_toList, hd]; omega), List.take_take]
    simp
  have h2 : cur.toList.take (k * 2) = (os.take k).flatMap cO := by
    have : cur.toList.take (k * 2) = (cur.toList.take ((m + 1) * 2)).take (k * 2) := by rw [List.take_take]; congr 1; omega
    rw [this, hx]
    conv => lhs; rw [← List.take_append_drop k os, List.flatMap_append]
    rw [List.take_append_of_le_length (by rw [hf, List.length_take]; omega), List.take_of_length_le (by rw [hf, List.length_take]; omega)]
  have h3 : (cur.toList.drop ((k + 1) * 2)).take ((m - k) * 2) = (os.drop (k + 1)).flatMap cO := by
    have : (cur.toList.drop ((k + 1) * 2)).take ((m - k) * 2) = (cur.toList.take ((m + 1) * 2)).drop ((k + 1) * 2) := by rw [List.drop_take]; congr 1; omega
    rw [this, hx]
    conv => lhs; rw [← List.take_append_drop (k + 1) os, List.flatMap_append]
    rw [List.drop_append_of_le_length (by rw [hf, List.length_take]; omega), List.drop_of_length_le (by rw [hf, List.length_take]; omega)]
    rfl
  rw [h1]
  unfold del1
  simp only
  rw [h2, h3, List.eraseIdx_eq_take_drop_succ, List.flatMap_append]
  rw [List.take_append_of_le_length (by rw [List.length_append, hf, hf, List.length_take, List.length_drop]; omega), List.take_of_length_le (by rw [List.length_append, hf, hf, List.length_take, List.length_drop]; omega)]
end
/-- An append whose answer is known, as a step of a region that draws its order. -/
theorem stepApp {P : Program} {ops : Array Oper} {o : Oper} {a : Act} {w w2 : World} {K : Act → World → Prop} {Q : Exit → Act → World → Prop} {E : Prop} {t : TypeId} {sv xv v : Value} (hgd : o.guard = none) (s x : Operand)
    (ho : o.op = .call { callee := .builtin .append, args := #[s, x], argTypes := #[t, t] }) (hs : a.eval s = sv) (hx : a.eval x = xv) (hrun : ∀ ty, (Builtin.append_ #[t, t] ty #[sv, xv]).run P w = .ok v w2) (h : K (a.put o.dst v) w2) :
    if Region.wanted o (yielded ops a.tmps) = true then Oper.wp P o a w K Q else E := by
  have hw : Region.wanted o (yielded ops a.tmps) = true := by simp [Region.wanted, hgd]
  rw [if_pos hw]
  unfold Oper.wp execOp
  simp only [ho, resolve, invoke, builtin, Sem.run_bind, Sem.run_pure, Result.andThen_ok, List.map_toArray, List.map_cons, List.map_nil, hs, hx, hrun]
  exact h
theorem fr_setRow {g : Nat} (w : World) (cs : Array Value) : Fr (fun j => j = g) w (w.setRow g cs) := ⟨rfl, rfl, rfl, by simp, fun k _ hn => setRow_other w g k cs hn⟩
set_option maxHeartbeats 2000000 in
set_option maxRecDepth 10000 in
theorem DeleteC {B g c k m : Nat} {os : List So} {w : World} (hl : os.length = m + 1) (hk : k ≤ m) (hm : m ≤ 1000) (h : w.ownsRow B 25 2 (.slice (some ⟨g, 0, none⟩) (m + 1) c) (m + 1) (os.flatMap cO)) :
    Calls Tryd.prog 49 #[.slice (some ⟨g, 0, none⟩) (m + 1) c, .int .i64 k, .int .i64 ((k : Int) + 1)] w fun e w' => e = .returned (.slice (some ⟨g, 0, none⟩) m c) ∧ Hid (w'.ownsRow B 25 2 (.slice (some ⟨g, 0, none⟩) m c) m ((os.eraseIdx k).flatMap cO)) ∧ Hid (Fr (fun j => j = g) w w') := by
  rcases h.2 with ⟨e, _⟩ | ⟨g', c', cur, e, hb, hg, hc, hcm, hs, hx⟩
  · cases e
  injection e with e1 _ e2
  subst e2
  obtain rfl : g' = g := by injection e1 with e1; injection e1 with e1; exact e1.symm
  have h1 : ∀ u ∈ cur.toList.take ((m + 1) * 2), u.oneCell' = true := by
    rw [hx]
    intro u hu
    obtain ⟨y, _, hy⟩ := List.mem_flatMap.1 hu
    exact one_or y u hy
  have hg2 : (w.drew.setRow g' (del1 k m cur)).heap[g']? = some (.cells (del1 k m cur) 25 (0, 0)) := setRow_heap w.drew g' cur _ 25 (0, 0) hg
  have hcl := fun ty c' => del_clear (m := m) hg2 (by rw [del1_size hk (by omega)]; omega) ty c'
  have hap := fun ty => del_app (W := w.drew) (g := g') (k := k) hg hk hc hs h1 ty
  have c1 : ∀ W, (Instr.slice 43 (.slice (some ⟨g', 0, none⟩) (m + 1) c) (some (.int .i64 (k : Int))) (some (.int .i64 ((k : Int) + 1))) (some (.int .i64 ((m : Int) + 1)))).run Tryd.prog W = .ok (.slice (some ⟨g', k * 2, none⟩) (k + 1 - k) (m + 1 - k)) W := fun W => by
    rw [ocut_lhm (l := k) (h := k + 1) (x := m + 1) (by omega) (by omega) hc _ _ _ rfl (by omega) (by omega), if_neg (by omega)]
  have c2 : ∀ W, (Instr.slice 43 (.slice (some ⟨g', 0, none⟩) (m + 1) c) (some (.int .i64 ((k : Int) + 1))) none none).run Tryd.prog W = .ok (.slice (some ⟨g', if c = k + 1 then 0 else (k + 1) * 2, none⟩) (m - k) (c - (k + 1))) W := fun W => by
    rw [ocut_l (l := k + 1) (by omega) _ (by omega)]; congr 2; omega
  have c3 : ∀ W, (Instr.slice 43 (.slice (some ⟨g', 0, none⟩) m c) (some (.int .i64 (m : Int))) (some (.int .i64 ((m : Int) + 1))) none).run Tryd.prog W = .ok (.slice (some ⟨g', m * 2, none⟩) 1 (c - m)) W := fun W => by
    rw [ocut_lh (l := m) (h := m + 1) (by omega) hc _ _ rfl (by omega), if_neg (by omega)]; congr 2; omega
  have c4 := fun W => ocut_h (W := W) (g := g') (n := m + 1) (h := k) (c := c) (by omega)
  have hown : ((w.drew.setRow g' (del1 k m cur)).setRow g' (del2 m (del1 k m cur))).ownsRow B 25 2 (.slice (some ⟨g', 0, none⟩) m c) m ((os.eraseIdx k).flatMap cO) := by
    refine ⟨by rw [flat_len (c := cO) (size := 2) (fun _ => rfl), List.length_eraseIdx, if_pos (by omega)]; omega, .inr ⟨g', c, _, rfl, hb, setRow_heap _ g' _ _ 25 (0, 0) hg2, by omega, hcm, ?_, del_left hl hk (by omega) hx⟩⟩
    rw [del2_size (by rw [del1_size hk (by omega)]; omega), del1_size hk (by omega)]; exact hs
  have HO := Lib.hid hown
  have HF : Hid (Fr (fun j => j = g') w ((w.drew.setRow g' (del1 k m cur)).setRow g' (del2 m (del1 k m cur)))) := Lib.hid ((((Fr.refl (fun j => j = g') w).drew).trans (fr_setRow w.drew _) (fun _ _ h => h)).trans (fr_setRow _ _) (fun _ _ h => h))
  clear hown h hg hg2 hx h1 e1 hs
  generalize (if c = k + 1 then 0 else (k + 1) * 2) = off at hap c2
  go_enter Tryd.func49, Tryd.ntmps49
  go_wp2_with fail
  go_region_held_law (fun _ => True) (trivial) ((refine stepApp rfl _ _ rfl rfl rfl hap ?_))
  go_wp2
  go_ret
  exact ⟨rfl, HO, HF⟩
end Go.Proofs.YtigknfkkegccgaaDoor.K

/- Orders: Close, Cancel. -/
namespace Go.Proofs.YtigknfkkegccgaaDoor.K
open Go.RowKit
set_option linter.unusedVariables false
set_option linter.unusedSimpArgs false
attribute [local go_sem ↓] Go.wp_at_zero Go.wp_at_succ
set_option maxHeartbeats 1000000 in
set_option maxRecDepth 10000 in
theorem CloseNo {B b g : Nat} {v : Value} {os : List So} {ids : List Int} {id : Int} {w : World} (h : Bk B b g v os ids w) (hl : os.length ≤ 1000) (hi : idxO id os = none) :
    Calls Tryd.prog 22 #[.pointer (some ⟨b, 0, none⟩), .int .u32 id] w fun e w' => e = .returned (.int .i64 6) ∧ Hid (Below w.heap.size w w') := by
  have HC := Lib.hid (placeC (id := id) h hl)
  rw [show idxI id os = -1 by unfold idxI; rw [hi]] at HC
  clear h
  go_enter Tryd.func22, Tryd.ntmps22
  go_wp2_with fail
  refine Calls.mono HC.out ?_
  rintro e w1 ⟨rfl, F1⟩
  go_wp2
  go_ret
  exact ⟨rfl, F1⟩
set_option maxHeartbeats 2000000 in
set_option maxRecDepth 10000 in
theorem CloseC {B b g k : Nat} {v : Value} {os : List So} {ids : List Int} {id : Int} {w : World} (h : Bk B b g v os ids w) (hl : os.length ≤ 1000) (hi : idxO id os = some k) :
    Calls Tryd.prog 22 #[.pointer (some ⟨b, 0, none⟩), .int .u32 id] w fun e w' => e = .returned (.int .i64 0) ∧ ∃ v', v'.ownBlock = v.ownBlock ∧ Hid (Bk B b g v' (os.eraseIdx k) ids w') ∧ Hid (Fr (fun j => j = b ∨ v.ownBlock = some j) w w') := by
  obtain ⟨hk, _⟩ := idxO_some hi
  obtain ⟨m, hm⟩ : ∃ m, os.length = m + 1 := ⟨os.length - 1, by omega⟩
  have HC := Lib.hid (placeC (id := id) h hl)
  have hix : idxI id os = (k : Int) := by unfold idxI; rw [hi]
  rw [hix] at HC
  have HBK := Lib.hid h
  clear h hi hix
  go_enter Tryd.func22, Tryd.ntmps22
  go_wp2_with fail
  refine Calls.mono HC.out ?_
  rintro e w1 ⟨rfl, F1⟩
  have hb1 := HBK.out.fr (Fr.of_below F1.out) (fun _ _ _ h => h)
  have hrow := hb1.row
  rw [hm] at hrow
  obtain ⟨q, c, hv, hq, hqs⟩ := hrow.form (by omega)
  rw [hv] at hrow
  have c0 := hb1.blk.cell 0
  rw [hv] at c0
  have HD := Lib.hid (DeleteC (k := k) hm (by omega) (by omega) hrow)
  have hqb : q ≠ b := fun e => own_blk_ne hb1.row hb1.blk (by decide) (by rw [hv, e]; rfl)
  have HB1 := Lib.hid hb1
  have HR1 := Lib.hid hrow
  have HV := Lib.hid hv
  have HQB := Lib.hid hqb
  clear hb1 hrow hv HBK hqb
  go_wp2_with fail
  refine Calls.mono HD.out ?_
  rintro e w2 ⟨rfl, HO, HF⟩
  have hb2 := HB1.out.blk.fr HF.out (fun e => HQB.out e.symm)
  have d0 := hb2.cell 0
  have f0 := hb2.frozen 0
  have HB2 := Lib.hid hb2
  clear hb2
  go_wp2
  go_ret
  have hF : Fr (fun j => j = b) w2 (w2.setCell ⟨b, 0, none⟩ (.slice (some ⟨q, 0, none⟩) m c)) := (Fr.refl (fun j => j = b) w2).setCell (p := ⟨b, 0, none⟩) (fun _ => rfl) _
  have hml : ∀ o ∈ os, MadeL B o.A o.c o.ls (w2.setCell ⟨b, 0, none⟩ (.slice (some ⟨q, 0, none⟩) m c)) := fun o ho => by
    have h0 := HB1.out.each o ho
    have h1 := h0.fr HF.out (fun j e e' => own_ne h0.1 HB1.out.row (by decide) j e (by rw [HV.out, e']; rfl))
    exact h1.fr hF (fun j e e' => own_blk_ne h1.1 HB2.out (by decide) (e' ▸ e))
  have hev : v.ownBlock = some q := by rw [HV.out]; rfl
  refine ⟨rfl, .slice (some ⟨q, 0, none⟩) m c, by rw [hev]; rfl, Lib.hid ⟨by simpa using HB2.out.set_ 0 (.slice (some ⟨q, 0, none⟩) m c), ?_, fun o ho => hml o (List.mem_of_mem_eraseIdx ho), ?_, HB1.out.low⟩, Lib.hid ?_⟩
  · rw [List.length_eraseIdx, if_pos hk, hm]
    exact own_fr HO.out hF (fun j e e' => HQB.out (by have : q = j := by simpa [Value.ownBlock] using e
                                                      omega))
  · exact (HB1.out.ever.fr HF.out (fun e => ever_own_ne HB1.out.ever HB1.out.row (by rw [hev, e]))).fr hF HB1.out.low.2.2
  · refine (((Fr.of_below F1.out).mono (fun _ _ h => h.elim)).trans HF.out (fun j _ e => .inr (by rw [hev, e]))).trans hF (fun j _ e => .inl e)
set_option maxHeartbeats 1000000 in
set_option maxRecDepth 10000 in
/-- Cancel does what Close does. -/
theorem CancelE {p : Value} {id : Int} {w : World} {n : Int} {R : World → Prop} (h : Calls Tryd.prog 22 #[p, .int .u32 id] w fun e w' => e = .returned (.int .i64 n) ∧ R w') :
    Calls Tryd.prog 23 #[p, .int .u32 id] w fun e w' => e = .returned (.int .i64 n) ∧ R w' := by
  have HC := Lib.hid h
  clear h
  go_enter Tryd.func23, Tryd.ntmps23
  go_wp2_with fail
  refine Calls.mono HC.out ?_
  rintro e w1 ⟨rfl, F1⟩
  have HF := Lib.hid F1
  clear F1
  go_wp2
  go_ret
  exact ⟨rfl, HF.out⟩
end Go.Proofs.YtigknfkkegccgaaDoor.K

/- Orders: Parse. -/
namespace Go.Proofs.YtigknfkkegccgaaDoor.K
open Go.RowKit
set_option linter.unusedVariables false
set_option linter.unusedSimpArgs false
attribute [local go_sem ↓] Go.wp_at_zero Go.wp_at_succ
set_option maxRecDepth 10000 in
theorem door_err {Qf : Ending → World → Prop} {ts : Array Value} {e0 : Int} {w wr : World} {x y z : Value} (h2 : ts[2]? = some (.pointer (some ⟨w.heap.size, 0, none⟩))) (h3 : ts[3]? = some (.pointer (some ⟨w.heap.size + 1, 0, none⟩))) (hp : Blk wr w.heap.size 25 #[x, y]) (hq : Blk wr (w.heap.size + 1) 29 #[z]) (hb : Below w.heap.size w wr)
    (hQ : ∀ w', Below w.heap.size w w' → Qf (.returned (.tuple #[.agg #[.int .u32 0, .slice none 0 0], .int .i64 e0])) w') :
    bodyPostD Tryd.prog Tryd.f15 Qf (Exit.panic (errP e0)) { tmps := ts, defers := [{ target := .fn (.func 34) #[.pointer (some ⟨w.heap.size, 0, none⟩), .pointer (some ⟨w.heap.size + 1, 0, none⟩)], args := #[] }] } wr := by
  refine leaves_cons (f := 34) (args := #[.pointer (some ⟨w.heap.size, 0, none⟩), .pointer (some ⟨w.heap.size + 1, 0, none⟩)]) (by simp) (by simp [go_sem]) ?_
  refine (parse1P e0 _ hp hq).mono ?_
  rintro e u' w'' ⟨rfl, rfl, rfl⟩
  have hp1 : Blk ((wr.setCell ⟨w.heap.size, 0, none⟩ (.int .u32 0)).setCell ⟨w.heap.size, 1, none⟩ (.slice none 0 0)) w.heap.size 25 #[.int .u32 0, .slice none 0 0] := by simpa using (hp.set_ 0 (.int .u32 0)).set_ 1 (.slice none 0 0)
  have hp2 := hp1.far (p := ⟨w.heap.size + 1, 0, none⟩) (by simp) (.int .i64 e0)
  have hq1 : Blk ((wr.setCell ⟨w.heap.size, 0, none⟩ (.int .u32 0)).setCell ⟨w.heap.size, 1, none⟩ (.slice none 0 0)) (w.heap.size + 1) 29 #[z] := (hq.far (p := ⟨w.heap.size, 0, none⟩) (by simp) _).far (p := ⟨w.heap.size, 1, none⟩) (by simp) _
  have hq2 : Blk (((wr.setCell ⟨w.heap.size, 0, none⟩ (.int .u32 0)).setCell ⟨w.heap.size, 1, none⟩ (.slice none 0 0)).setCell ⟨w.heap.size + 1, 0, none⟩ (.int .i64 e0)) (w.heap.size + 1) 29 #[.int .i64 e0] := by simpa using hq1.set_ 0 (.int .i64 e0)
  have hbb := hQ _ (((hb.setCell (p := ⟨w.heap.size, 0, none⟩) (Nat.le_refl _) (.int .u32 0)).setCell (p := ⟨w.heap.size, 1, none⟩) (Nat.le_refl _) (.slice none 0 0)).setCell (p := ⟨w.heap.size + 1, 0, none⟩) (Nat.le_succ _) (.int .i64 e0))
  generalize (((wr.setCell ⟨w.heap.size, 0, none⟩ (.int .u32 0)).setCell ⟨w.heap.size, 1, none⟩ (.slice none 0 0)).setCell ⟨w.heap.size + 1, 0, none⟩ (.int .i64 e0)) = wz at *
  have c0 : wz.cell? ⟨w.heap.size, 0, none⟩ = some (.int .u32 0) := hp2.cell 0
  have c1 : wz.cell? ⟨w.heap.size, 1, none⟩ = some (.slice none 0 0) := hp2.cell 1
  have d0 : wz.cell? ⟨w.heap.size + 1, 0, none⟩ = some (.int .i64 e0) := hq2.cell 0
  simp [Leaves, settle, results, Tryd.results15, go_sem, h2, h3, c0, c1, d0]
  exact hbb
set_option maxRecDepth 10000 in
theorem door_ok {Qf : Ending → World → Prop} {ts : Array Value} {id e0 : Int} {v : Value} {w wz : World} (h2 : ts[2]? = some (.pointer (some ⟨w.heap.size, 0, none⟩))) (h3 : ts[3]? = some (.pointer (some ⟨w.heap.size + 1, 0, none⟩))) (hp : Blk wz w.heap.size 25 #[.int .u32 id, v]) (hq : Blk wz (w.heap.size + 1) 29 #[.int .i64 e0])
    (hQ : Qf (.returned (.tuple #[.agg #[.int .u32 id, v], .int .i64 e0])) wz) :
    bodyPostD Tryd.prog Tryd.f15 Qf Exit.ret { tmps := ts, defers := [{ target := .fn (.func 34) #[.pointer (some ⟨w.heap.size, 0, none⟩), .pointer (some ⟨w.heap.size + 1, 0, none⟩)], args := #[] }] } wz := by
  refine leaves_cons (f := 34) (args := #[.pointer (some ⟨w.heap.size, 0, none⟩), .pointer (some ⟨w.heap.size + 1, 0, none⟩)]) (by simp) (by simp [go_sem]) ?_
  refine (parse1I ⟨w.heap.size, 0, none⟩ ⟨w.heap.size + 1, 0, none⟩ _).mono ?_
  rintro e u' w'' ⟨rfl, rfl, rfl⟩
  have c0 : w''.cell? ⟨w.heap.size, 0, none⟩ = some (.int .u32 id) := hp.cell 0
  have c1 : w''.cell? ⟨w.heap.size, 1, none⟩ = some v := hp.cell 1
  have d0 : w''.cell? ⟨w.heap.size + 1, 0, none⟩ = some (.int .i64 e0) := hq.cell 0
  simp [Leaves, settle, results, Tryd.results15, go_sem, h2, h3, c0, c1, d0]
  exact hQ
/-- The error's way out, said of what Parse tells. -/
theorem told_err {b : List Int} {w : World} {e0 : Int} (h : parseO b = (e0, 0, [])) : ∀ w', Below w.heap.size w w' → ∃ A' c', Ending.returned (.tuple #[.agg #[.int .u32 0, .slice none 0 0], .int .i64 e0]) = .returned (.tuple #[.agg #[.int .u32 (parseO b).2.1, .slice A' (parseO b).2.2.length c'], .int .i64 (parseO b).1]) ∧ Hid (MadeL w.heap.size A' c' (parseO b).2.2 w') ∧ Hid (Below w.heap.size w w') := by
  intro w' hb
  rw [h]
  exact ⟨none, 0, rfl, Lib.hid (MadeL.nil_ _ _), Lib.hid hb⟩
theorem parse_full {b : List Int} (h5 : ¬ b.length < 5) (h : b.length = 5 + 6 * nOf b) : parseO b = if rightO (lnsOf (nOf b) (b.drop 5)) = 0 then (0, num (b.take 4), lnsOf (nOf b) (b.drop 5)) else (rightO (lnsOf (nOf b) (b.drop 5)), 0, []) := by
  unfold parseO
  rw [if_neg (by omega), if_neg (by omega)]
set_option maxHeartbeats 4000000 in
set_option maxRecDepth 10000 in
theorem ParseC {c : Nat} {A : Option Addr} {b : List Int} {w : World} (hr : RowOf c8 1 w w.heap.size A b) (hi : InB b) (hl : b.length ≤ 1000) :
    Calls Tryd.prog 15 #[.slice A b.length c] w fun e w' => ∃ A' c', e = .returned (.tuple #[.agg #[.int .u32 (parseO b).2.1, .slice A' (parseO b).2.2.length c'], .int .i64 (parseO b).1]) ∧ Hid (MadeL w.heap.size A' c' (parseO b).2.2 w') ∧ Hid (Below w.heap.size w w') := by
  have hmf : ∀ (fn : Fn) (first cap : Array Value) (w : World), (Instr.makeFunc fn first cap).run Tryd.prog w = .ok (.func fn first cap) w := fun _ _ _ _ => rfl
  obtain ⟨W, hW⟩ : ∃ W, W = (w.alloc (.cells #[.int .u32 0, .slice none 0 0] 25)).alloc (.cells #[.int .i64 0] 29) := ⟨_, rfl⟩
  have hp : Blk W w.heap.size 25 #[.int .u32 0, .slice none 0 0] := by rw [hW]; exact (Blk.new w _ _).alloc _
  have hq : Blk W (w.heap.size + 1) 29 #[.int .i64 0] := by rw [hW]; have := Blk.new (w.alloc (.cells #[.int .u32 0, .slice none 0 0] 25)) 29 #[.int .i64 0]; simpa using this
  have hb : Below w.heap.size w W := by rw [hW]; exact ((Below.refl _ w).alloc (Nat.le_refl _) _).alloc (by simp) _
  have HRow := Lib.hid (RowOf.now hr hb)
  have HP := Lib.hid hp
  have HQ := Lib.hid hq
  have HB := Lib.hid hb
  have HI := Lib.hid hi
  have HWE := Lib.hid hW.symm
  clear hp hq hb hr hi hW
  go_enter_defers Tryd.func15, Tryd.ntmps15
  go_wp2_with fail
  rw [HWE.out]
  refine Calls.mono (ReadC (by omega) HRow.out) ?_
  rintro e w1 ⟨r, G, rfl, hr1, hg1, HRd, HFr⟩
  have hps : PS w r G 0 (.slice none 0 0) [] b w1 := ⟨HP.out.fr HFr.out (fun h => h), HQ.out.fr HFr.out (fun h => h), own_nil _ _ _ _, HRd.out, HB.out.trans (HFr.out.below0.mono HB.out.size), Nat.le_trans HB.out.size hr1, fun g e => Nat.le_trans HB.out.size (hg1 g e)⟩
  have HPS := Lib.hid hps
  clear hps HRd HFr hr1 hg1 HP HQ HB HRow HWE
  by_cases h4 : b.length < 4
  · have hpe : parseO b = (2, 0, []) := by unfold parseO; rw [if_pos (.inl (by omega))]
    have HE := Lib.hid (fun W (h : Below w.heap.size w W) => told_err hpe W h)
    clear hpe
    go_wp2_with (first | (go_at_call 37; refine Calls.mono (RU32_short HPS.out.hr h4) ?_; rintro e w2 ⟨rfl, rfl⟩) | (go_at_call 36; refine Calls.mono (must32P 0 2 (by decide) _) ?_; rintro e w2 ⟨rfl, rfl⟩))
    exact door_err rfl rfl HPS.out.hp HPS.out.hq HPS.out.hb HE.out
  · have c0 := HPS.out.hp.cell 0
    have f0 := HPS.out.hp.frozen 0
    have hidb := num_lt (k := 4) (HI.out.take_ 4) (by rw [List.length_take]; omega)
    go_wp2_with (first | (go_at_call 37; refine Calls.mono (RU32_ok HPS.out.hr (by omega) HI.out) ?_; rintro e w2 ⟨rfl, HR2, HF2⟩; have HPS2 := Lib.hid (HPS.out.read HR2.out HF2.out); have c1 := HPS2.out.hp.cell 0; have f1 := HPS2.out.hp.frozen 0; clear HPS HR2 HF2) | (go_at_call 36; refine Calls.mono (must32C _ _) ?_; rintro e w3 ⟨rfl, rfl⟩))
    have HPS3 := Lib.hid (HPS2.out.setid (num (b.take 4)))
    clear HPS2 c0 f0 c1 f1
    generalize w3.setCell ⟨w.heap.size, 0, none⟩ (.int .u32 (num (b.take 4))) = wa at *
    by_cases h5 : b.length < 5
    · have hpe : parseO b = (2, 0, []) := by unfold parseO; rw [if_pos (.inl h5)]
      have HE := Lib.hid (fun W (h : Below w.heap.size w W) => told_err hpe W h)
      clear hpe
      refine Calls.mono (RU8_short HPS3.out.hr (by rw [List.length_drop]; omega)) ?_
      rintro e w2 ⟨rfl, rfl⟩
      go_wp2_with (go_at_call 38; refine Calls.mono (must8P 0 2 (by decide) _) ?_; rintro e w2 ⟨rfl, rfl⟩)
      exact door_err rfl rfl HPS3.out.hp HPS3.out.hq HPS3.out.hb HE.out
    · refine Calls.mono (RU8_ok HPS3.out.hr (by rw [List.length_drop]; omega) (HI.out.drop_ 4)) ?_
      rintro e w2 ⟨rfl, HR4, HF4⟩
      have hnb := num_lt (k := 1) ((HI.out.drop_ 4).take_ 1) (by rw [List.length_take]; omega)
      have hps4 := HPS3.out.read HR4.out HF4.out
      rw [List.drop_drop, show 4 + 1 = 5 from rfl] at hps4
      have HPS4 := Lib.hid hps4
      have hnn : num ((b.drop 4).take 1) = (nOf b : Int) := by unfold nOf; omega
      rw [hnn] at hnb ⊢
      have hn256 : nOf b < 256 := by have : (256 : Int) ^ 1 = 256 := by decide
                                     omega
      clear HPS3 HR4 HF4 hps4 hnn hnb hidb
      have HN := Lib.hid (rfl : nOf b = nOf b)
      generalize hn : nOf b = n at *
      have HNE := Lib.hid hn
      clear hn HN
      go_wp2_with (go_at_call 38; refine Calls.mono (must8C _ _) ?_; rintro e w2 ⟨rfl, rfl⟩)
      obtain ⟨id, hid⟩ : ∃ id, num (b.take 4) = id := ⟨_, rfl⟩
      rw [hid] at HPS4 ⊢
      have HID := Lib.hid hid
      clear hid
      go_loopw [19] (fun i wr => ∃ (k : Nat) (v : Value), i = .int .u8 k ∧ k ≤ n ∧ 5 + 6 * k ≤ b.length ∧ PS w r G id v (lnsOf k (b.drop 5)) ((b.drop 5).drop (6 * k)) wr) (fun i _ => n - (intOf i).toNat)
      case atStart => exact ⟨0, _, rfl, by omega, by omega, by simpa [lnsOf] using HPS4.out⟩
      case round =>
        clear HPS4
        obtain ⟨k, v, rfl, hk, hkl, hps⟩ := hrel
        have HPS := Lib.hid hps
        obtain ⟨VA, vc, rfl, hvc⟩ := own_form hps.hv
        clear hps
        have hib : InB ((b.drop 5).drop (6 * k)) := (HI.out.drop_ 5).drop_ _
        have HIB := Lib.hid hib
        have hlen : ((b.drop 5).drop (6 * k)).length + 5 + 6 * k = b.length := by rw [List.length_drop, List.length_drop]; omega
        have HLL := Lib.hid (lnsOf_len k (b.drop 5))
        clear hib
        by_cases hlt : k < n
        · have hsn := lnsOf_snoc k (b.drop 5)
          have HSN := Lib.hid hsn
          have hdd : ((b.drop 5).drop (6 * k)).drop 6 = b.drop (5 + 6 * (k + 1)) := by rw [List.drop_drop, List.drop_drop]; congr 1
          have HDD := Lib.hid hdd
          clear hsn hdd
          generalize lnsOf k (b.drop 5) = ls at *
          generalize (b.drop 5).drop (6 * k) = m at *
          have hpe : m.length < 6 → parseO b = (2, 0, []) := fun h6 => by unfold parseO; rw [HNE.out, if_pos (.inr (by omega))]
          have HE := Lib.hid (fun h6 W (h : Below w.heap.size w W) => told_err (hpe h6) W h)
          have hll : ls.length ≤ 1000 := by have := HLL.out; omega
          clear hpe
          go_wp2_with fail
          refine region_inv (fun a0 => ParI ⟨w, r, G, id, VA, vc, ls, m, a0⟩) (by kernel_rfl) ?init ?done ?step
          case init => exact ParI.init (c := ⟨w, r, G, id, VA, vc, ls, m, _⟩) rfl (HPS.out.same ⟨rfl, rfl, rfl, rfl⟩)
          case done =>
            rintro listed a w' hsz hI hr
            obtain ⟨tm, df⟩ := a
            obtain ⟨x0, x1, x2, x3, x4, x5, x6, x7, x8, x9, x10, x11, x12, x13, x14, x15, x16, x17, x18, x19, x20, x21, x22, x23, x24, x25, x26, x27, x28, x29, x30, x31, x32, x33, x34, x35, x36, x37, x38, x39, x40, x41, x42, x43, x44, x45, x46, x47, x48, x49, x50, rfl⟩ := shape51 tm hI.size
            obtain ⟨h6, A2, c2, hp9⟩ := hI.all (fun j hj => ready_nil hsz (by kernel_rfl) hr j hj)
            obtain rfl : df = [{ target := .fn (.func 34) #[.pointer (some ⟨w.heap.size, 0, none⟩), .pointer (some ⟨w.heap.size + 1, 0, none⟩)], args := #[] }] := hI.defs
            obtain rfl : x0 = .slice A b.length c := hI.base 0 (by omega)
            obtain rfl : x1 = undef := hI.base 1 (by omega)
            obtain rfl : x2 = .pointer (some ⟨w.heap.size, 0, none⟩) := hI.base 2 (by omega)
            obtain rfl : x3 = .pointer (some ⟨w.heap.size + 1, 0, none⟩) := hI.base 3 (by omega)
            obtain rfl : x4 = .pointer (some ⟨r, 0, none⟩) := hI.base 4 (by omega)
            obtain rfl : x5 = .func (.func 34) #[] #[.pointer (some ⟨w.heap.size, 0, none⟩), .pointer (some ⟨w.heap.size + 1, 0, none⟩)] := hI.base 5 (by omega)
            obtain rfl : x6 = .slice A b.length c := hI.base 6 (by omega)
            obtain rfl : x7 = .pointer (some ⟨r, 0, none⟩) := hI.base 7 (by omega)
            obtain rfl : x8 = .pointer (some ⟨r, 0, none⟩) := hI.base 8 (by omega)
            obtain rfl : x9 = .tuple #[.int .u32 id, .int .i64 0] := hI.base 9 (by omega)
            obtain rfl : x10 = .int .u32 id := hI.base 10 (by omega)
            obtain rfl : x11 = .int .i64 0 := hI.base 11 (by omega)
            obtain rfl : x12 = .int .u32 id := hI.base 12 (by omega)
            obtain rfl : x13 = .pointer (some ⟨w.heap.size, 0, none⟩) := hI.base 13 (by omega)
            obtain rfl : x14 = .pointer (some ⟨r, 0, none⟩) := hI.base 14 (by omega)
            obtain rfl : x15 = .tuple #[.int .u8 n, .int .i64 0] := hI.base 15 (by omega)
            obtain rfl : x16 = .int .u8 n := hI.base 16 (by omega)
            obtain rfl : x17 = .int .i64 0 := hI.base 17 (by omega)
            obtain rfl : x18 = .int .u8 n := hI.base 18 (by omega)
            obtain rfl : x19 = .int .u8 k := hI.base 19 (by omega)
            obtain rfl : x20 = .bool true := hI.base 20 (by omega)
            obtain rfl : x44 = undef := hI.base 44 (by omega)
            obtain rfl : x45 = undef := hI.base 45 (by omega)
            obtain rfl : x46 = undef := hI.base 46 (by omega)
            obtain rfl : x47 = undef := hI.base 47 (by omega)
            obtain rfl : x48 = undef := hI.base 48 (by omega)
            obtain rfl : x49 = undef := hI.base 49 (by omega)
            obtain rfl : x50 = undef := hI.base 50 (by omega)
            clear hI hr hsz
            have HP9 := Lib.hid hp9
            clear hp9
            go_wp2
            go_roundw
            case rel => exact ⟨k + 1, by omega, by omega, by omega, .slice A2 (ls ++ [lnOf m]).length c2, by rw [HSN.out]; have h9 : PS w r G id (.slice A2 (ls ++ [lnOf m]).length c2) (ls ++ [lnOf m]) (m.drop 6) w' := HP9.out; rw [HDD.out] at h9; exact h9⟩
            case measure => simp [intOf]; omega
          case step =>
            rintro listed a w' hsz hI j hj
            obtain ⟨hj0, o, ho, hafter⟩ := mem_ready.1 hj
            match j, ho with
            | 0, ho =>
              obtain rfl := Option.some.inj ho
              exact stepV rfl (wanted_none rfl) (run_field1 rfl (hI.base 2 (by omega))) (hI.stay (j := 0) (by decide) hsz (fun u hu => Option.some.inj hu) (by decide) (fun e => absurd e (by decide)) (fun e => absurd e (by decide)) (fun e => absurd e (by decide)) (fun e => absurd e (by decide)) (fun e => absurd e (by decide)))
            | 1, ho =>
              obtain rfl := Option.some.inj ho
              obtain ⟨n9, hl9, hw9⟩ := hI.ph
              have hn9 : n9 < 5 := by
                rcases Nat.lt_or_ge n9 5 with h | h
                · exact h
                · exact absurd (hl9.l1 h) (hfalse hj0)
              exact stepV rfl (wanted_none rfl) (run_loadL rfl (hI.vals 0 _ rfl (hafter ⟨0, .data⟩ (by simp) rfl)) (hw9.cell hn9)) (hI.stay (j := 1) (by decide) hsz (fun u hu => Option.some.inj hu) (by decide) (fun e => absurd e (by decide)) (fun e => absurd e (by decide)) (fun e => absurd e (by decide)) (fun e => absurd e (by decide)) (fun e => absurd e (by decide)))
            | 2, ho =>
              obtain rfl := Option.some.inj ho
              exact stepV rfl (wanted_none rfl) (run_move rfl (hI.base 4 (by omega))) (hI.stay (j := 2) (by decide) hsz (fun u hu => Option.some.inj hu) (by decide) (fun e => absurd e (by decide)) (fun e => absurd e (by decide)) (fun e => absurd e (by decide)) (fun e => absurd e (by decide)) (fun e => absurd e (by decide)))
            | 3, ho =>
              obtain rfl := Option.some.inj ho
              obtain ⟨n9, hl9, hw9⟩ := hI.ph
              have hup : ¬ 1 ≤ n9 := fun h => hfalse hj0 (hl9.u1.trans (decide_eq_true h))
              obtain rfl : n9 = 0 := by omega
              refine stepC rfl (wanted_none rfl) (run_call_U16 rfl (hI.vals 2 _ rfl (hafter ⟨2, .data⟩ (by simp) rfl))) (PS.u16g hw9 HIB.out) ?_
              rintro e w2 ⟨rfl, H2⟩
              exact ⟨_, rfl, hI.slots (by decide) hsz (fun u hu => Option.some.inj hu) (fun e => absurd e (by decide)) (fun e => absurd e (by decide)) (fun e => absurd e (by decide)) ⟨_, hl9.step hsz (by decide) (fun e => absurd e (by decide)) (fun e => absurd e (by decide)) (fun e => absurd e (by decide)) (fun e => absurd e (by decide)), H2⟩⟩
            | 4, ho =>
              obtain rfl := Option.some.inj ho
              exact stepV rfl (wanted_none rfl) (run_extract (k := 0) rfl (hI.vals 3 _ rfl (hafter ⟨3, .data⟩ (by simp) rfl)) rfl) (hI.stay (j := 4) (by decide) hsz (fun u hu => Option.some.inj hu) (by decide) (fun e => absurd e (by decide)) (fun e => absurd e (by decide)) (fun e => absurd e (by decide)) (fun e => absurd e (by decide)) (fun e => absurd e (by decide)))
            | 5, ho =>
              obtain rfl := Option.some.inj ho
              exact stepV rfl (wanted_none rfl) (run_extract (k := 1) rfl (hI.vals 3 _ rfl (hafter ⟨3, .data⟩ (by simp) rfl)) rfl) (hI.stay (j := 5) (by decide) hsz (fun u hu => Option.some.inj hu) (by decide) (fun e => absurd e (by decide)) (fun e => absurd e (by decide)) (fun e => absurd e (by decide)) (fun e => absurd e (by decide)) (fun e => absurd e (by decide)))
            | 6, ho =>
              obtain rfl := Option.some.inj ho
              have hva := (hI.vals 4 _ rfl (hafter ⟨4, .data⟩ (by simp) rfl))
              have hvb := (hI.vals 5 _ rfl (hafter ⟨5, .data⟩ (by simp) rfl))
              by_cases h0 : eo m = 0
              · rw [h0] at hvb
                refine stepC rfl (wanted_none rfl) (run_call_must16 rfl hva hvb) (must16C _ _) ?_
                rintro e w2 ⟨rfl, rfl⟩
                exact ⟨_, rfl, (hI.stay (j := 6) (by decide) hsz (fun u hu => Option.some.inj hu) (by decide) (fun _ => ⟨h0, hafter ⟨3, .chain⟩ (by simp) rfl⟩) (fun e => absurd e (by decide)) (fun e => absurd e (by decide)) (fun e => absurd e (by decide)) (fun e => absurd e (by decide)))⟩
              · rw [eo_two h0] at hvb
                obtain ⟨n9, hl9, hw9⟩ := hI.ph
                have hup : ¬ 2 ≤ n9 := fun h => hfalse hj0 (hl9.l6 h)
                obtain ⟨x9, y9, z9, hd1, hd2, hd3⟩ := hw9.door (by omega)
                have hs2 := hI.base 2 (by omega)
                have hs3 := hI.base 3 (by omega)
                have hdf := hI.defs
                have hsz9 := hI.size
                obtain ⟨tm, df⟩ := a
                simp only at hdf
                subst hdf
                exact stepP rfl (wanted_none rfl) (run_call_must16 rfl hva hvb) (must16P _ 2 (by decide) _) (fun e w2 h => ⟨_, h.1, h.2 ▸ door_err (slot_some (by rw [show tm.size = 51 from hsz9]; decide) hs2) (slot_some (by rw [show tm.size = 51 from hsz9]; decide) hs3) hd1 hd2 hd3 (HE.out (eo_lt1 h0))⟩)
            | 7, ho =>
              obtain rfl := Option.some.inj ho
              exact stepV rfl (wanted_none rfl) (run_move rfl (hI.base 4 (by omega))) (hI.stay (j := 7) (by decide) hsz (fun u hu => Option.some.inj hu) (by decide) (fun e => absurd e (by decide)) (fun e => absurd e (by decide)) (fun e => absurd e (by decide)) (fun e => absurd e (by decide)) (fun e => absurd e (by decide)))
            | 8, ho =>
              obtain rfl := Option.some.inj ho
              obtain ⟨n9, hl9, hw9⟩ := hI.ph
              have hup : ¬ 2 ≤ n9 := fun h => hfalse hj0 (hl9.u2.trans (decide_eq_true h))
              have hlo : 1 ≤ n9 := hl9.d6 (hafter ⟨6, .chain⟩ (by simp) rfl)
              obtain rfl : n9 = 1 := by omega
              refine stepC rfl (wanted_none rfl) (run_call_U16 rfl (hI.vals 7 _ rfl (hafter ⟨7, .data⟩ (by simp) rfl))) (PS.u16g hw9 (ro_inB HIB.out)) ?_
              rintro e w2 ⟨rfl, H2⟩
              exact ⟨_, rfl, hI.slots (by decide) hsz (fun u hu => Option.some.inj hu) (fun e => absurd e (by decide)) (fun e => absurd e (by decide)) (fun e => absurd e (by decide)) ⟨_, hl9.step hsz (by decide) (fun _ => hafter ⟨6, .chain⟩ (by simp) rfl) (fun e => absurd e (by decide)) (fun e => absurd e (by decide)) (fun e => absurd e (by decide)), H2⟩⟩
            | 9, ho =>
              obtain rfl := Option.some.inj ho
              exact stepV rfl (wanted_none rfl) (run_extract (k := 0) rfl (hI.vals 8 _ rfl (hafter ⟨8, .data⟩ (by simp) rfl)) rfl) (hI.stay (j := 9) (by decide) hsz (fun u hu => Option.some.inj hu) (by decide) (fun e => absurd e (by decide)) (fun e => absurd e (by decide)) (fun e => absurd e (by decide)) (fun e => absurd e (by decide)) (fun e => absurd e (by decide)))
            | 10, ho =>
              obtain rfl := Option.some.inj ho
              exact stepV rfl (wanted_none rfl) (run_extract (k := 1) rfl (hI.vals 8 _ rfl (hafter ⟨8, .data⟩ (by simp) rfl)) rfl) (hI.stay (j := 10) (by decide) hsz (fun u hu => Option.some.inj hu) (by decide) (fun e => absurd e (by decide)) (fun e => absurd e (by decide)) (fun e => absurd e (by decide)) (fun e => absurd e (by decide)) (fun e => absurd e (by decide)))
            | 11, ho =>
              obtain rfl := Option.some.inj ho
              have hva := (hI.vals 9 _ rfl (hafter ⟨9, .data⟩ (by simp) rfl))
              have hvb := (hI.vals 10 _ rfl (hafter ⟨10, .data⟩ (by simp) rfl))
              by_cases h0 : eo (ro m) = 0
              · rw [h0] at hvb
                refine stepC rfl (wanted_none rfl) (run_call_must16 rfl hva hvb) (must16C _ _) ?_
                rintro e w2 ⟨rfl, rfl⟩
                exact ⟨_, rfl, (hI.stay (j := 11) (by decide) hsz (fun u hu => Option.some.inj hu) (by decide) (fun e => absurd e (by decide)) (fun _ => ⟨h0, hafter ⟨8, .chain⟩ (by simp) rfl⟩) (fun e => absurd e (by decide)) (fun e => absurd e (by decide)) (fun e => absurd e (by decide)))⟩
              · rw [eo_two h0] at hvb
                obtain ⟨n9, hl9, hw9⟩ := hI.ph
                have hup : ¬ 3 ≤ n9 := fun h => hfalse hj0 (hl9.l11 h)
                obtain ⟨x9, y9, z9, hd1, hd2, hd3⟩ := hw9.door (by omega)
                have hs2 := hI.base 2 (by omega)
                have hs3 := hI.base 3 (by omega)
                have hdf := hI.defs
                have hsz9 := hI.size
                obtain ⟨tm, df⟩ := a
                simp only at hdf
                subst hdf
                exact stepP rfl (wanted_none rfl) (run_call_must16 rfl hva hvb) (must16P _ 2 (by decide) _) (fun e w2 h => ⟨_, h.1, h.2 ▸ door_err (slot_some (by rw [show tm.size = 51 from hsz9]; decide) hs2) (slot_some (by rw [show tm.size = 51 from hsz9]; decide) hs3) hd1 hd2 hd3 (HE.out (eo_lt2 h0))⟩)
            | 12, ho =>
              obtain rfl := Option.some.inj ho
              exact stepV rfl (wanted_none rfl) (run_move rfl (hI.base 4 (by omega))) (hI.stay (j := 12) (by decide) hsz (fun u hu => Option.some.inj hu) (by decide) (fun e => absurd e (by decide)) (fun e => absurd e (by decide)) (fun e => absurd e (by decide)) (fun e => absurd e (by decide)) (fun e => absurd e (by decide)))
            | 13, ho =>
              obtain rfl := Option.some.inj ho
              obtain ⟨n9, hl9, hw9⟩ := hI.ph
              have hup : ¬ 3 ≤ n9 := fun h => hfalse hj0 (hl9.u3.trans (decide_eq_true h))
              have hlo : 2 ≤ n9 := hl9.d11 (hafter ⟨11, .chain⟩ (by simp) rfl)
              obtain rfl : n9 = 2 := by omega
              refine stepC rfl (wanted_none rfl) (run_call_U16 rfl (hI.vals 12 _ rfl (hafter ⟨12, .data⟩ (by simp) rfl))) (PS.u16g hw9 (ro_inB (ro_inB HIB.out))) ?_
              rintro e w2 ⟨rfl, H2⟩
              exact ⟨_, rfl, hI.slots (by decide) hsz (fun u hu => Option.some.inj hu) (fun e => absurd e (by decide)) (fun e => absurd e (by decide)) (fun e => absurd e (by decide)) ⟨_, hl9.step hsz (by decide) (fun e => absurd e (by decide)) (fun _ => hafter ⟨11, .chain⟩ (by simp) rfl) (fun e => absurd e (by decide)) (fun e => absurd e (by decide)), H2⟩⟩
            | 14, ho =>
              obtain rfl := Option.some.inj ho
              exact stepV rfl (wanted_none rfl) (run_extract (k := 0) rfl (hI.vals 13 _ rfl (hafter ⟨13, .data⟩ (by simp) rfl)) rfl) (hI.stay (j := 14) (by decide) hsz (fun u hu => Option.some.inj hu) (by decide) (fun e => absurd e (by decide)) (fun e => absurd e (by decide)) (fun e => absurd e (by decide)) (fun e => absurd e (by decide)) (fun e => absurd e (by decide)))
            | 15, ho =>
              obtain rfl := Option.some.inj ho
              exact stepV rfl (wanted_none rfl) (run_extract (k := 1) rfl (hI.vals 13 _ rfl (hafter ⟨13, .data⟩ (by simp) rfl)) rfl) (hI.stay (j := 15) (by decide) hsz (fun u hu => Option.some.inj hu) (by decide) (fun e => absurd e (by decide)) (fun e => absurd e (by decide)) (fun e => absurd e (by decide)) (fun e => absurd e (by decide)) (fun e => absurd e (by decide)))
            | 16, ho =>
              obtain rfl := Option.some.inj ho
              have hva := (hI.vals 14 _ rfl (hafter ⟨14, .data⟩ (by simp) rfl))
              have hvb := (hI.vals 15 _ rfl (hafter ⟨15, .data⟩ (by simp) rfl))
              by_cases h0 : eo (ro (ro m)) = 0
              · rw [h0] at hvb
                refine stepC rfl (wanted_none rfl) (run_call_must16 rfl hva hvb) (must16C _ _) ?_
                rintro e w2 ⟨rfl, rfl⟩
                exact ⟨_, rfl, (hI.stay (j := 16) (by decide) hsz (fun u hu => Option.some.inj hu) (by decide) (fun e => absurd e (by decide)) (fun e => absurd e (by decide)) (fun _ => ⟨h0, hafter ⟨13, .chain⟩ (by simp) rfl⟩) (fun e => absurd e (by decide)) (fun e => absurd e (by decide)))⟩
              · rw [eo_two h0] at hvb
                obtain ⟨n9, hl9, hw9⟩ := hI.ph
                have hup : ¬ 4 ≤ n9 := fun h => hfalse hj0 (hl9.l16 h)
                obtain ⟨x9, y9, z9, hd1, hd2, hd3⟩ := hw9.door (by omega)
                have hs2 := hI.base 2 (by omega)
                have hs3 := hI.base 3 (by omega)
                have hdf := hI.defs
                have hsz9 := hI.size
                obtain ⟨tm, df⟩ := a
                simp only at hdf
                subst hdf
                exact stepP rfl (wanted_none rfl) (run_call_must16 rfl hva hvb) (must16P _ 2 (by decide) _) (fun e w2 h => ⟨_, h.1, h.2 ▸ door_err (slot_some (by rw [show tm.size = 51 from hsz9]; decide) hs2) (slot_some (by rw [show tm.size = 51 from hsz9]; decide) hs3) hd1 hd2 hd3 (HE.out (eo_lt3 h0))⟩)
            | 17, ho =>
              obtain rfl := Option.some.inj ho
              have hxx := xo_lt (ro_inB (ro_inB HIB.out))
              exact stepV rfl (wanted_none rfl) (run_conv rfl (hI.vals 16 _ rfl (hafter ⟨16, .data⟩ (by simp) rfl)) hxx.1 hxx.2) (hI.stay (j := 17) (by decide) hsz (fun u hu => Option.some.inj hu) (by decide) (fun e => absurd e (by decide)) (fun e => absurd e (by decide)) (fun e => absurd e (by decide)) (fun _ => hafter ⟨16, .data⟩ (by simp) rfl) (fun e => absurd e (by decide)))
            | 18, ho =>
              obtain rfl := Option.some.inj ho
              exact stepV rfl (wanted_none rfl) (run_buildL (l := yO m) rfl (hI.vals 6 _ rfl (hafter ⟨6, .data⟩ (by simp) rfl)) (hI.vals 11 _ rfl (hafter ⟨11, .data⟩ (by simp) rfl)) (hI.vals 17 _ rfl (hafter ⟨17, .data⟩ (by simp) rfl))) (hI.stay (j := 18) (by decide) hsz (fun u hu => Option.some.inj hu) (by decide) (fun e => absurd e (by decide)) (fun e => absurd e (by decide)) (fun e => absurd e (by decide)) (fun e => absurd e (by decide)) (fun _ => hafter ⟨17, .data⟩ (by simp) rfl))
            | 19, ho =>
              obtain rfl := Option.some.inj ho
              obtain ⟨n9, hl9, hw9⟩ := hI.ph
              have hup : ¬ 4 ≤ n9 := fun h => hfalse hj0 (hl9.b.trans (decide_eq_true h))
              have h16 := hl9.d17 (hl9.d18 (hafter ⟨18, .data⟩ (by simp) rfl))
              have hlo : 3 ≤ n9 := hl9.d16 h16
              obtain rfl : n9 = 3 := by omega
              have hv18 := (hI.vals 18 _ rfl (hafter ⟨18, .data⟩ (by simp) rfl))
              refine stepV rfl (wanted_none rfl) (run_rowL (l := yO m) rfl hv18) ?_
              exact hI.slots (by decide) hsz (fun u hu => by cases hu) (fun e => absurd e (by decide)) (fun e => absurd e (by decide)) (fun e => absurd e (by decide)) ⟨_, hl9.step hsz (by decide) (fun e => absurd e (by decide)) (fun e => absurd e (by decide)) (fun _ => h16) (fun e => absurd e (by decide)), ⟨w', rfl, hw9, (put_at (by rw [hI.size]; decide)).trans (if_pos rfl)⟩⟩
            | 20, ho =>
              obtain rfl := Option.some.inj ho
              obtain ⟨n9, hl9, hw9⟩ := hI.ph
              have hup : ¬ 5 ≤ n9 := fun h => hfalse hj0 (hl9.p.trans (decide_eq_true h))
              have h19 := hafter ⟨19, .data⟩ (by simp) rfl
              rw [hl9.b] at h19
              have hlo : 4 ≤ n9 := of_decide_eq_true h19
              obtain rfl : n9 = 4 := by omega
              obtain ⟨W9, rfl, hp9, hs9⟩ := hw9
              have hv1 := (hI.vals 1 _ rfl (hafter ⟨1, .data⟩ (by simp) rfl))
              have h1l := hafter ⟨1, .data⟩ (by simp) rfl
              refine stepA rfl (wanted_none rfl) (PS.step1 rfl (.tmp 22) (.tmp 40) rfl (yO m) hp9 hll hv1 hs9 ?_)
              intro A2 c2 w2 H2 hk2 hf2
              exact hI.slots (by decide) hsz (fun u hu => by cases hu) (fun e => absurd e (by decide)) (fun e => absurd e (by decide)) (fun e => absurd e (by decide)) ⟨_, hl9.step hsz (by decide) (fun e => absurd e (by decide)) (fun e => absurd e (by decide)) (fun e => absurd e (by decide)) (fun _ => h1l), ⟨A2, c2, (put_at (by rw [hI.size]; decide)).trans (if_pos rfl), hk2, hf2, H2.out⟩⟩
            | 21, ho =>
              obtain rfl := Option.some.inj ho
              exact stepV rfl (wanted_none rfl) (run_field1 rfl (hI.base 2 (by omega))) (hI.stay (j := 21) (by decide) hsz (fun u hu => Option.some.inj hu) (by decide) (fun e => absurd e (by decide)) (fun e => absurd e (by decide)) (fun e => absurd e (by decide)) (fun e => absurd e (by decide)) (fun e => absurd e (by decide)))
            | 22, ho =>
              obtain rfl := Option.some.inj ho
              obtain ⟨n9, hl9, hw9⟩ := hI.ph
              have hup : ¬ 6 ≤ n9 := fun h => hfalse hj0 (hl9.s.trans (decide_eq_true h))
              have h20 := hafter ⟨20, .data⟩ (by simp) rfl
              rw [hl9.p] at h20
              have hlo : 5 ≤ n9 := of_decide_eq_true h20
              obtain rfl : n9 = 5 := by omega
              obtain ⟨A2, c2, hs9, hk9, hf9, hp9⟩ := hw9
              refine stepS rfl (wanted_none rfl) rfl (run_storeL rfl (hI.vals 21 _ rfl (hafter ⟨21, .data⟩ (by simp) rfl)) hs9 hk9 hf9) ?_
              exact hI.last hsz ⟨_, hl9.step hsz (by decide) (fun e => absurd e (by decide)) (fun e => absurd e (by decide)) (fun e => absurd e (by decide)) (fun e => absurd e (by decide)), ⟨A2, c2, hp9⟩⟩
        · obtain rfl : k = n := by omega
          by_cases hz : ((b.drop 5).drop (6 * k)).length = 0
          · have hpe := parse_full (b := b) (by omega) (by rw [HNE.out]; omega)
            rw [HNE.out] at hpe
            have HPE := Lib.hid hpe
            have HOK := Lib.hid (lnsOf_ok k _ (HI.out.drop_ 5))
            clear hpe
            generalize (b.drop 5).drop (6 * k) = m at *
            generalize lnsOf k (b.drop 5) = ls at *
            have hrow : RowOf cL 3 wr wr.heap.size VA ls := row_own (c := cL) (fun _ => rfl) HPS.out.hv
            have HC := Lib.hid (RightC (id := id) (c := vc) hrow (Nat.le_refl _) (by have := HLL.out; omega) hvc HOK.out)
            have HD := Lib.hid (RDoneC HPS.out.hr)
            rw [if_pos hz] at HD
            have HRG := rightO_range ls
            clear hrow
            have p0 := HPS.out.hp.cell 0
            have p1 := HPS.out.hp.cell 1
            go_wp2_with fail
            refine Calls.mono HD.out ?_
            rintro e w2 ⟨rfl, rfl⟩
            go_wp2_with (go_at_call 42; refine Calls.mono (checkC _) ?_; rintro e w2 ⟨rfl, rfl⟩)
            refine Calls.mono HC.out ?_
            rintro e w3 ⟨rfl, F3⟩
            have HP3 := Lib.hid (HPS.out.hp.below F3.out HPS.out.hp.lt)
            have HQ3 := Lib.hid (HPS.out.hq.below F3.out HPS.out.hq.lt)
            have HB3 := Lib.hid (HPS.out.hb.trans (F3.out.mono HPS.out.hb.size))
            by_cases hr0 : rightO ls = 0
            · rw [if_pos hr0] at HPE
              rw [hr0]
              have s0 := HP3.out.cell 0
              have s1 := HP3.out.cell 1
              have z0 := HP3.out.frozen 0
              have z1 := HP3.out.frozen 1
              have d0 := HQ3.out.cell 0
              have y0 := HQ3.out.frozen 0
              clear p0 p1 HC HD
              go_wp2_with (go_at_call 42; refine Calls.mono (checkC _) ?_; rintro e w2 ⟨rfl, rfl⟩)
              have hr2 : Blk (w2.setCell ⟨w.heap.size, 0, none⟩ (.int .u32 id)) w.heap.size 25 #[.int .u32 id, .slice VA ls.length vc] := by simpa using HP3.out.set_ 0 (.int .u32 id)
              have hr3 : Blk ((w2.setCell ⟨w.heap.size, 0, none⟩ (.int .u32 id)).setCell ⟨w.heap.size, 1, none⟩ (.slice VA ls.length vc)) w.heap.size 25 #[.int .u32 id, .slice VA ls.length vc] := by simpa using hr2.set_ 1 (.slice VA ls.length vc)
              have hr4 := hr3.far (p := ⟨w.heap.size + 1, 0, none⟩) (by simp) (.int .i64 0)
              have hq3 : Blk ((w2.setCell ⟨w.heap.size, 0, none⟩ (.int .u32 id)).setCell ⟨w.heap.size, 1, none⟩ (.slice VA ls.length vc)) (w.heap.size + 1) 29 #[.int .i64 0] := (HQ3.out.far (p := ⟨w.heap.size, 0, none⟩) (by simp) _).far (p := ⟨w.heap.size, 1, none⟩) (by simp) _
              have hq4 : Blk (((w2.setCell ⟨w.heap.size, 0, none⟩ (.int .u32 id)).setCell ⟨w.heap.size, 1, none⟩ (.slice VA ls.length vc)).setCell ⟨w.heap.size + 1, 0, none⟩ (.int .i64 0)) (w.heap.size + 1) 29 #[.int .i64 0] := by simpa using hq3.set_ 0 (.int .i64 0)
              have hown := own_fr HPS.out.hv (Fr.of_below F3.out) (fun _ _ h => h)
              have hF : Fr (fun j => j = w.heap.size ∨ j = w.heap.size + 1) w2 (((w2.setCell ⟨w.heap.size, 0, none⟩ (.int .u32 id)).setCell ⟨w.heap.size, 1, none⟩ (.slice VA ls.length vc)).setCell ⟨w.heap.size + 1, 0, none⟩ (.int .i64 0)) :=
                (((Fr.refl (fun j => j = w.heap.size ∨ j = w.heap.size + 1) w2).setCell (p := ⟨w.heap.size, 0, none⟩) (fun _ => .inl rfl) _).setCell (p := ⟨w.heap.size, 1, none⟩) (fun _ => .inl rfl) _).setCell (p := ⟨w.heap.size + 1, 0, none⟩) (fun _ => .inr rfl) _
              have hown2 := own_fr hown hF (fun j e h => by
                rcases h with rfl | rfl
                · exact own_blk_ne hown HP3.out (by decide) e
                · exact own_blk_ne hown HQ3.out (by decide) e)
              obtain ⟨A5, c5, e5, hm5⟩ := madeL_of hown2
              injection e5 with e6 _ e7
              subst e6 e7
              refine door_ok rfl rfl hr4 hq4 ?_
              rw [HPE.out]
              exact ⟨VA, vc, by rw [HID.out], Lib.hid hm5, Lib.hid (below_fr HB3.out hF HB3.out.size (fun j e => by omega))⟩
            · rw [if_neg hr0] at HPE
              have HE := Lib.hid (fun W (h : Below w.heap.size w W) => told_err HPE.out W h)
              clear HPE p0 p1 HC HD
              generalize rightO ls = v at *
              go_wp2_with (go_at_call 42; refine Calls.mono (checkP v hr0 _) ?_; rintro e w2 ⟨rfl, rfl⟩)
              exact door_err rfl rfl HP3.out HQ3.out HB3.out HE.out
          · have hpe : parseO b = (3, 0, []) := by unfold parseO; rw [HNE.out, if_neg (by omega), if_pos (by omega)]
            have HE := Lib.hid (fun W (h : Below w.heap.size w W) => told_err hpe W h)
            clear hpe
            generalize (b.drop 5).drop (6 * k) = m at *
            generalize lnsOf k (b.drop 5) = ls at *
            have HD := Lib.hid (RDoneC HPS.out.hr)
            rw [if_neg hz] at HD
            go_wp2_with fail
            refine Calls.mono HD.out ?_
            rintro e w2 ⟨rfl, rfl⟩
            go_wp2_with (go_at_call 42; refine Calls.mono (checkP 3 (by decide) _) ?_; rintro e w2 ⟨rfl, rfl⟩)
            exact door_err rfl rfl HPS.out.hp HPS.out.hq HPS.out.hb HE.out
end Go.Proofs.YtigknfkkegccgaaDoor.K

/- Orders: what is shown in any case. -/
namespace Go.Proofs.YtigknfkkegccgaaDoor.K
open Go.RowKit
set_option linter.unusedVariables false
set_option linter.unusedSimpArgs false
attribute [local go_sem ↓] Go.wp_at_zero Go.wp_at_succ
theorem BytesE {A : Option Addr} {c n : Nat} {id : Int} {ls : List Ln} {L : List Int} {w : World} (hL : bytesO id ls = L) (hn : L.length = n) (hr : RowOf cL 3 w w.heap.size A ls) (hid : 0 ≤ id ∧ id < 4294967296) {k : Nat} (hk : ls.length = k) (hc : k ≤ c) (ho : ∀ l ∈ ls, l.ok) (hz : rightO ls = 0) :
    Calls Tryd.prog 12 #[.agg #[.int .u32 id, .slice A k c]] w fun e w' => ∃ A' c', e = .returned (.tuple #[.slice A' n c', .int .i64 0]) ∧ Hid (Made w.heap.size A' c' L w') ∧ Hid (Below w.heap.size w w') := by
  subst hL hn hk
  exact BytesC hr (Nat.le_refl _) hid hc ho hz
theorem ParseE {A : Option Addr} {c n k : Nat} {id e0 : Int} {ls : List Ln} {b : List Int} {w : World} (hp : parseO b = (e0, id, ls)) (hk : ls.length = k) (hn : b.length = n) (hr : RowOf c8 1 w w.heap.size A b) (hi : InB b) (hl : n ≤ 1000) :
    Calls Tryd.prog 15 #[.slice A n c] w fun e w' => ∃ A' c', e = .returned (.tuple #[.agg #[.int .u32 id, .slice A' k c'], .int .i64 e0]) ∧ Hid (MadeL w.heap.size A' c' ls w') ∧ Hid (Below w.heap.size w w') := by
  subst hk hn
  have := ParseC (c := c) hr hi hl
  rw [hp] at this
  exact this
theorem row_blk1 {w : World} {g B : Nat} {l : Ln} (h : Blk w g 51 (lvs l)) (hg : g < B) : RowOf cL 3 w B (some ⟨g, 0, none⟩) [l] := by
  intro i y hy
  have hi : i = 0 := by
    have := (List.getElem?_eq_some_iff.1 hy).1
    simpa using this
  subst hi
  simp at hy; subst hy
  refine ⟨_, rfl, hg, fun j u hu => ?_⟩
  rw [add_plain, h.cell]
  simpa using hu
theorem own_lit1 {W : World} {k : Nat} (hk : W.heap.size = k) (n : Int) : (W.alloc (.cells #[.int .u8 n] 5)).ownsRow k 5 1 (.slice (some ⟨k, 0, none⟩) 1 1) [n].length ([n].flatMap c8) := by
  subst hk
  exact World.ownsRow_lit W #[.int .u8 n] 1 (Nat.le_refl _) (by decide) rfl
abbrev L14 : List Int := [0, 0, 1, 2, 1, 0, 1, 0, 2, 39, 15]
theorem ok14 {q : Int} (h0 : 0 ≤ q) (h1 : q ≤ 100000) : ∀ l ∈ [(⟨1, 2, q⟩ : Ln)], l.ok := by
  intro l hl
  rw [List.mem_singleton] at hl
  subst hl
  exact ⟨⟨by simp only; omega, by simp only; omega⟩, ⟨by simp only; omega, by simp only; omega⟩, ⟨by simp only; omega, by simp only; omega⟩⟩
theorem bytes14 : bytesO 258 [⟨1, 2, 9999⟩] = L14 := by decide
theorem parse14 : parseO L14 = (0, 258, [⟨1, 2, 9999⟩]) := by decide
theorem parse14b : parseO (0 :: L14) = (2, 0, []) := by decide
set_option maxHeartbeats 8000000 in
set_option maxRecDepth 20000 in
theorem shown14_walk {w : World} : Calls Tryd.prog 9 #[] w fun e w' => e = .returned (.bool true) ∧ Hid (Below w.heap.size w w') := by
  go_enter Tryd.func9, Tryd.ntmps9
  go_wp2_with fail
  obtain ⟨W0, hW0⟩ : ∃ W0, W0 = (w.alloc (.cells #[.int .u16 1, .int .u16 2, .int .i64 9999] 51)).alloc (.cells #[.int .u32 258, .slice (some ⟨w.heap.size, 0, none⟩) 1 1] 25) := ⟨_, rfl⟩
  have hs0 : W0.heap.size = w.heap.size + 2 := by rw [hW0]; simp
  have B0 : Hid (Below w.heap.size w W0) := Lib.hid (by rw [hW0]; exact ((Below.refl _ w).alloc (Nat.le_refl _) _).alloc (by simp) _)
  have hL0 : Blk W0 w.heap.size 51 (lvs ⟨1, 2, 9999⟩) := by rw [hW0]; exact (Blk.new w _ _).alloc _
  have HR0 : Hid (RowOf cL 3 W0 W0.heap.size (some ⟨w.heap.size, 0, none⟩) [⟨1, 2, 9999⟩]) := Lib.hid (row_blk1 hL0 (by omega))
  have HK0 : Hid (Blk W0 (w.heap.size + 1) 25 #[.int .u32 258, .slice (some ⟨w.heap.size, 0, none⟩) 1 1]) := Lib.hid (by rw [hW0]; exact Blk.new_at (by simp))
  rw [← hW0]
  clear hW0 hL0
  refine Calls.mono (BytesE bytes14 (n := 11) rfl HR0.out (by decide) (k := 1) rfl (Nat.le_refl _) (ok14 (by decide) (by decide)) (by decide)) ?_
  rintro e w1 ⟨A1, c1, rfl, M1, D1⟩
  have B1 := Lib.hid (B0.out.trans (D1.out.mono B0.out.size))
  have R1 := Lib.hid M1.out.2.1
  have K1 := Lib.hid (HK0.out.below D1.out HK0.out.lt)
  have Q1 := Lib.hid (HR0.out.now D1.out)
  have hs1 := D1.out.size
  clear M1 D1 HK0 HR0
  go_wp2_with fail
  refine Calls.mono (ParseE parse14 (k := 1) rfl (n := 11) rfl R1.out (inB_of (by decide)) (by omega)) ?_
  rintro e w2 ⟨A2, c2, rfl, M2, D2⟩
  obtain ⟨W2, hW2⟩ : ∃ W2, W2 = w2.alloc (.cells #[.int .u32 258, .slice A2 1 c2] 25) := ⟨_, rfl⟩
  have hs2 := D2.out.size
  have E2 : Below w1.heap.size w1 W2 := by rw [hW2]; exact D2.out.alloc hs2 _
  have KX : Hid (Blk W2 w2.heap.size 25 #[.int .u32 258, .slice A2 1 c2]) := Lib.hid (by rw [hW2]; exact Blk.new _ _ _)
  have QX : Hid (RowOf cL 3 W2 W2.heap.size A2 [⟨1, 2, 9999⟩]) := Lib.hid (M2.out.2.1.now (by rw [hW2]; exact (Below.refl _ _).alloc (Nat.le_refl _) _))
  have B2 := Lib.hid (B1.out.trans (E2.mono B1.out.size))
  have R2 := Lib.hid (R1.out.now E2)
  have K2 := Lib.hid (K1.out.below E2 K1.out.lt)
  have Q2 := Lib.hid (Q1.out.now E2)
  have hs2' : W2.heap.size = w2.heap.size + 1 := by rw [hW2]; simp
  have hs2l : (w2.alloc (.cells #[.int .u32 258, .slice A2 1 c2] 25)).heap.size = w2.heap.size + 1 := by simp
  clear M2 D2 E2 R1 K1 Q1
  subst hW2
  have HO3 := Lib.hid (own_lit1 hs2l 0)
  have HR3 := Lib.hid (R2.out.below ((Below.refl _ _).alloc (Nat.le_refl _) (.cells #[.int .u8 0] 5)))
  clear hs2l
  go_wp2_with (at_builtin; go_loud (refine appR (c := c8) rfl _ _ _ rfl 5 (.int .u8 0) 1 1 Tryd.underlying26 info_u8 rfl (by omega) (by omega) (fun _ => rfl) (fun y u hu => by simp at hu; subst hu; rfl) (w2.heap.size + 1) _ _ [0] L14 _ _ rfl rfl HR3.out HO3.out (by simp) (by decide) ?_; intro v3 w3 h3 h4 h5; have F3 : Hid (Below (w2.heap.size + 1) (w2.alloc (.cells #[.int .u32 258, .slice A2 1 c2] 25)) w3) := Lib.hid ((((Fr.refl (fun _ => False) _).alloc _).trans h4 (fun j hj e => by have := Option.some.inj e; simp at this; simp at hj; omega)).below0.mono (by simp)); obtain ⟨A3, c3, rfl, hm3⟩ := made_of (B := w2.heap.size + 1) (v := v3) (l := 0 :: L14) (by rw [nums_flat]; exact h3); have M3 := Lib.hid hm3; clear h3 h4 h5 hm3))
  have hB2 := hs2'
  have HA1 : Hid (w.heap.size + 2 ≤ w2.heap.size) := Lib.hid (by omega)
  generalize w2.alloc (.cells #[.int .u32 258, .slice A2 1 c2] 25) = W2 at *
  generalize w2.heap.size = px at *
  clear HO3 HR3 hs2 hs1 hs0 B0 B1 w2 w1
  have D3 : Hid (Below W2.heap.size W2 w3) := Lib.hid (hB2 ▸ F3.out)
  clear F3 hs2'
  refine Calls.mono (ParseE parse14b (k := 0) rfl (n := 12) rfl M3.out.2.1 (inB_of (by decide)) (by omega)) ?_
  rintro e w4 ⟨A4, c4, rfl, M4, D4⟩
  have D4' := Lib.hid (((D3.out.trans (D4.out.mono D3.out.size)).alloc (Nat.le_trans D3.out.size D4.out.size) (.cells #[.int .u32 0, .slice A4 0 c4] 25)).alloc (by have := Nat.le_trans D3.out.size D4.out.size; simp; omega) (.cells #[.int .u16 1, .int .u16 2, .int .i64 10000] 51))
  have HR4 : Hid (RowOf cL 3 ((w4.alloc (.cells #[.int .u32 0, .slice A4 0 c4] 25)).alloc (.cells #[.int .u16 1, .int .u16 2, .int .i64 10000] 51)) (w4.heap.size + 2) (some ⟨w4.heap.size + 1, 0, none⟩) [⟨1, 2, 10000⟩]) := Lib.hid (row_blk1 (Blk.new_at (by simp)) (by omega))
  have hs4 : (((w4.alloc (.cells #[.int .u32 0, .slice A4 0 c4] 25)).alloc (.cells #[.int .u16 1, .int .u16 2, .int .i64 10000] 51))).heap.size = w4.heap.size + 2 := by simp
  clear M3 M4 D3 D4
  go_wp2_with fail
  generalize (w4.alloc (.cells #[.int .u32 0, .slice A4 0 c4] 25)).alloc (.cells #[.int .u16 1, .int .u16 2, .int .i64 10000] 51) = W5 at *
  have q1 : w4.heap.size + 2 ≤ W5.heap.size := by omega
  have q2 : rightO [⟨1, 2, 10000⟩] ≠ 0 := by decide
  have q3 : ∀ l ∈ [(⟨1, 2, 10000⟩ : Ln)], l.ok := ok14 (by decide) (by decide)
  have q5 : rightO [⟨1, 2, 10000⟩] = 10 := by decide
  have q4 := BytesNo (c := 1) (id := 1) HR4.out q1 (by simp) (Nat.le_refl _) q3 q2
  rw [q5] at q4
  clear q1 q2 q3 q5
  refine Calls.mono q4 ?_
  rintro e w6 ⟨rfl, D6⟩
  clear q4
  have D6' := Lib.hid (D4'.out.trans (D6.out.mono D4'.out.size))
  clear D4' D6 HR4 hs4
  go_wp2_with fail
  have qq1 := NewBookC w6
  refine Calls.mono qq1 ?_
  rintro e w7 ⟨b, g, rfl, HB7, HF7⟩
  clear qq1
  have D7 := Lib.hid (D6'.out.trans (HF7.out.below0.mono D6'.out.size))
  have hB0 := D6'.out.size
  have K7 := K2.out.below D7.out K2.out.lt
  have k0 := K7.cell 0
  have k1 := K7.cell 1
  have HQ : Hid (∀ w', Below W2.heap.size W2 w' → RowOf cL 3 w' w'.heap.size (some ⟨w.heap.size, 0, none⟩) [⟨1, 2, 9999⟩]) := Lib.hid (fun w' h => Q2.out.now h)
  generalize w6.heap.size = B0 at *
  clear HF7 K7 D6' w6
  go_wp2_with fail
  have qq2 := AddC (c := 1) (id := 258) HB7.out (by decide) (HQ.out _ D7.out) (Nat.le_refl _) (ok14 (by decide) (by decide)) (by decide) (by simp) (by decide) (by decide)
  refine Calls.mono qq2 ?_
  rintro e w8 ⟨rfl, A8, c8', v8, HM8, HB8, HF8, _⟩
  clear qq2
  have D8 : Hid (Below W2.heap.size W2 w8) := Lib.hid (D7.out.trans (HF8.out.below (fun j _ e => by
    have := HB7.out.low
    rcases e with e | e | e
    · omega
    · omega
    · simp [Value.ownBlock] at e) D7.out.size))
  have K8 := K2.out.below D8.out K2.out.lt
  have k0 := K8.cell 0
  have k1 := K8.cell 1
  clear K8 HB7 HF8
  go_wp2_with fail
  have qq3 := AddTwice (c := 1) (id := 258) (ls := [⟨1, 2, 9999⟩]) HB8.out (by decide) (HQ.out _ D8.out) (Nat.le_refl _) (by simp) (Nat.le_refl _) (ok14 (by decide) (by decide)) (by decide) (by simp)
  refine Calls.mono qq3 ?_
  rintro e w9 ⟨rfl, D9⟩
  clear qq3
  have HB9 := Lib.hid (HB8.out.fr (Fr.of_below D9.out) (fun _ _ _ h => h))
  have D9' := Lib.hid (D8.out.trans (D9.out.mono D8.out.size))
  clear D8 HB8 D9
  go_wp2_with fail
  have qq4 := GetC (k := 0) (id := 258) HB9.out (by simp) (o := ⟨258, A8, c8', [⟨1, 2, 9999⟩]⟩) rfl rfl (by simp)
  refine Calls.mono qq4 ?_
  rintro e w10 ⟨A10, c10, rfl, HM10, D10⟩
  clear qq4
  have HB10 := Lib.hid ((HB9.out.fr (Fr.of_below D10.out) (fun _ _ _ h => h)).fr ((Fr.refl (fun _ => False) w10).alloc (.cells #[.int .u32 258, .slice A10 1 c10] 25)) (fun _ _ _ h => h))
  have D10' := Lib.hid ((D9'.out.trans (D10.out.mono D9'.out.size)).alloc (Nat.le_trans D9'.out.size D10.out.size) (.cells #[.int .u32 258, .slice A10 1 c10] 25))
  have KY : Hid (Blk (w10.alloc (.cells #[.int .u32 258, .slice A10 1 c10] 25)) w10.heap.size 25 #[.int .u32 258, .slice A10 1 c10]) := Lib.hid (Blk.new _ _ _)
  have HVY : Hid (∀ j, v8.ownBlock = some j → j < w10.heap.size) := Lib.hid (fun j e => ((HB9.out.fr (Fr.of_below D10.out) (fun _ _ _ h => h)).row.lt j e).2)
  clear HB9 D9' D10
  go_wp2_with fail
  generalize w10.alloc (.cells #[.int .u32 258, .slice A10 1 c10] 25) = W10 at *
  generalize w10.heap.size = py at *
  have qq5 := CancelE (CloseC (k := 0) (id := 258) HB10.out (by simp) rfl)
  refine Calls.mono qq5 ?_
  rintro e w11 ⟨rfl, v11, hv11, HB11, HF11⟩
  clear qq5
  have hb11 : Bk B0 b g v11 [] [258] w11 := HB11.out
  have HB11' := Lib.hid hb11
  have D11 : Hid (Below W2.heap.size W2 w11) := Lib.hid (D10'.out.trans (HF11.out.below (fun j _ e => by
    have := HB10.out.low
    rcases e with e | e
    · omega
    · have := (HB10.out.row.lt j e).1; omega) D10'.out.size))
  have KY11 := Lib.hid (KY.out.fr HF11.out (fun e => by
    rcases e with e | e
    · exact Blk.ne_ KY.out HB10.out.blk (by decide) e
    · have := HVY.out _ e; omega))
  clear hb11 HB11 HF11 HB10 D10' KY HVY
  go_wp2_with fail
  have qq6 := CloseNo (id := 258) HB11'.out (by decide) rfl
  refine Calls.mono qq6 ?_
  rintro e w12 ⟨rfl, D12⟩
  clear qq6
  have HB12 := Lib.hid (HB11'.out.fr (Fr.of_below D12.out) (fun _ _ _ h => h))
  have D12' := Lib.hid (D11.out.trans (D12.out.mono D11.out.size))
  have KY12 := Lib.hid (KY11.out.below D12.out KY11.out.lt)
  have K12 := K2.out.below D12'.out K2.out.lt
  have k0 := K12.cell 0
  have k1 := K12.cell 1
  clear HB11' D11 D12 KY11 K12
  go_wp2_with fail
  have qq7 := AddTwice (c := 1) (id := 258) (ls := [⟨1, 2, 9999⟩]) HB12.out (by decide) (HQ.out _ D12'.out) (Nat.le_refl _) (by simp) (Nat.le_refl _) (ok14 (by decide) (by decide)) (by decide) (by simp)
  refine Calls.mono qq7 ?_
  rintro e w13 ⟨rfl, D13⟩
  clear qq7
  have HB13 := Lib.hid (HB12.out.fr (Fr.of_below D13.out) (fun _ _ _ h => h))
  have D13' := Lib.hid (D12'.out.trans (D13.out.mono D12'.out.size))
  have y0 := (KY12.out.below D13.out KY12.out.lt).cell 0
  have x0 := (KX.out.below D13'.out KX.out.lt).cell 0
  have x1 := (KX.out.below D13'.out KX.out.lt).cell 1
  obtain ⟨ad, rfl, _, z0, z1, z2⟩ := (QX.out.now D13'.out).ln (k := 0) (by decide)
  have s1 : (convert 26 9 (.slice A1 11 c1)).run Tryd.prog w13 = .ok (.string ⟨#[0, 0, 1, 2, 1, 0, 1, 0, 2, 39, 15]⟩) w13 := str_row (l := L14) (R2.out.now D13'.out)
  have z2' : w13.cell? ⟨ad.block, ad.off + 2, none⟩ = some (.int .i64 9999) := by simpa [Addr.add] using z2
  clear HB12 D12' D13 KY12 k0 k1 z0 z1 z2
  go_wp2_with fail
  have qq8 := OpenC HB13.out (by decide)
  refine Calls.mono qq8 ?_
  rintro e w14 ⟨v14, rfl, HO14, D14⟩
  clear qq8
  obtain ⟨A14, c14, rfl, _⟩ := own_form HO14.out
  go_wp2
  go_ret
  exact ⟨rfl, Lib.hid (B2.out.trans ((D13'.out.trans (D14.out.mono D13'.out.size)).mono (by have := HA1.out; omega)))⟩
end Go.Proofs.YtigknfkkegccgaaDoor.K

/- Orders: few: at most twelve lines, in a row of the call's own. -/
namespace Go.Proofs.YtigknfkkegccgaaDoor.K
open Go.RowKit
set_option linter.unusedVariables false
set_option linter.unusedSimpArgs false
attribute [local go_sem ↓] Go.wp_at_zero Go.wp_at_succ
attribute [local go_sem] min2_min min_two
set_option maxHeartbeats 4000000 in
set_option maxRecDepth 10000 in
theorem FewC {A : Option Addr} {c : Nat} {id : Int} {ls : List Ln} {w : World} (hc : ls.length ≤ c) (h : RowOf cL 3 w w.heap.size A ls) :
    Calls Tryd.prog 10 #[.agg #[.int .u32 id, .slice A ls.length c]] w fun e w' => ∃ A' c', e = .returned (.agg #[.int .u32 id, .slice A' (ls.take 12).length c']) ∧ Hid (MadeL w.heap.size A' c' (ls.take 12) w') ∧ Hid (Fr0 w w') := by
  have hk : (ls.take 12).length = min ls.length 12 := by rw [List.length_take, Nat.min_comm]
  have hn : min (ls.length : Int) 12 = ((ls.take 12).length : Int) := by rw [hk]; omega
  have hl12 : (ls.take 12).length ≤ 12 := by omega
  have hcut := fun W => lcut_hi A ls.length c (ls.take 12).length (by omega) W
  have HR := Lib.hid (RowOf.take_ h 12)
  generalize ls.take 12 = l at *
  clear h hk
  obtain ⟨W, hW⟩ : ∃ W, W = (w.alloc (.cells #[.int .u32 id, .slice A ls.length c] 25)).alloc (.cells #[.int .u32 0, .slice none 0 0] 25) := ⟨_, rfl⟩
  have hp : Blk W w.heap.size 25 #[.int .u32 id, .slice A ls.length c] := by rw [hW]; exact (Blk.new w _ _).alloc _
  have hq : Blk W (w.heap.size + 1) 25 #[.int .u32 0, .slice none 0 0] := by rw [hW]; exact Blk.new_at (by simp)
  have hb : Below w.heap.size w W := by rw [hW]; exact ((Below.refl _ w).alloc (Nat.le_refl _) _).alloc (by simp) _
  have hs : W.heap.size = w.heap.size + 2 := by rw [hW]; simp
  have c0 := hp.cell 0
  have c1 := hp.cell 1
  have hmin : min (ls.length : Int) 12 = (l.length : Int) := hn
  have hz : W.drew.heap.size = w.heap.size + 2 := hs
  have HRow := Lib.hid (RowOf.below HR.out hb)
  have HO : Hid ((W.drew.alloc (.cells #[] 51)).ownsRow (w.heap.size + 2) 51 3 (.slice (some ⟨w.heap.size + 2, 0, none⟩) 0 0) 0 ([] : List Value)) := Lib.hid (by
    have := World.ownsRow_lit (base := w.heap.size + 2) (e := 51) (size := 3) W.drew #[] 0 (by omega) (by decide) rfl
    rwa [hz] at this)
  have HP := Lib.hid hp
  have HQ := Lib.hid hq
  have HB := Lib.hid hb
  have HWE := Lib.hid hW.symm
  clear hp hq hb hW hn HR
  go_enter Tryd.func10, Tryd.ntmps10
  go_wp2_with fail
  rw [HWE.out]
  clear HWE
  go_region_held_law (fun w' => w'.cell? ⟨w.heap.size, 0, none⟩ = some (.int .u32 id) ∧ w'.cell? ⟨w.heap.size, 1, none⟩ = some (.slice A ls.length c)) (first | go_keep | exact hk3) ((refine stepR (c := cL) rfl _ _ _ rfl 51 (.agg #[.int .u16 0, .int .u16 0, .int .i64 0]) 3 16 Tryd.underlying23 info_ln rfl (by omega) (by omega) (fun _ => rfl) one_ln (w.heap.size + 2) w.heap.size (.slice (some ⟨w.heap.size + 2, 0, none⟩) 0 0) [] l _ _ (by first | rfl | (show Value.slice (some ⟨W.heap.size, 0, none⟩) 0 0 = _; rw [hs])) rfl (RowOf.below HRow.out (((Below.refl w.heap.size W).drew).alloc (by omega) _)) HO.out (by simp; omega) (by simp only [List.length_nil]; omega) ?_; intro v3 w3 h3 h4 h5; have F3 : Hid (Fr0 W w3) := Lib.hid ((((Fr.refl (fun _ => False) W).drew).alloc _).trans h4 (fun j hj e => by have := Option.some.inj e; simp at this; omega)); obtain ⟨A3, c3, rfl, hm3⟩ := madeL_of (B := w.heap.size + 2) (v := v3) (l := l) h3; have M3 := Lib.hid hm3; have hp3 := HP.out.fr F3.out (fun h => h); have hk3 := And.intro (hp3.cell 0) (hp3.cell 1); have hq3 := HQ.out.fr F3.out (fun h => h); have e0 := hq3.cell 0; have g0 := hq3.frozen 0; have hq4 : Blk (w3.setCell ⟨w.heap.size + 1, 0, none⟩ (.int .u32 id)) (w.heap.size + 1) 25 #[.int .u32 id, .slice none 0 0] := (by simpa using hq3.set_ 0 (.int .u32 id)); have e1 := hq4.cell 1; have g1 := hq4.frozen 1; have hq5 : Blk ((w3.setCell ⟨w.heap.size + 1, 0, none⟩ (.int .u32 id)).setCell ⟨w.heap.size + 1, 1, none⟩ (.slice A3 l.length c3)) (w.heap.size + 1) 25 #[.int .u32 id, .slice A3 l.length c3] := (by simpa using hq4.set_ 1 (.slice A3 l.length c3)); have HQ5 := Lib.hid hq5; have HQ3 := Lib.hid hq3; clear h3 h4 h5 hm3 hp3 hq3 hq4 hq5))
  all_goals
    go_wp2
    refine bodyPost_ret_by (results_cell_row rfl _ _ (w.heap.size + 1) 25 _ (0, 0) _ rfl HQ5.out Tryd.underlying25 rfl (by kernel_rfl)) rfl ?_
    have hF : Fr (fun j => j = w.heap.size + 1) w3 ((w3.setCell ⟨w.heap.size + 1, 0, none⟩ (.int .u32 id)).setCell ⟨w.heap.size + 1, 1, none⟩ (.slice A3 l.length c3)) := ((Fr.refl (fun j => j = w.heap.size + 1) w3).setCell (p := ⟨w.heap.size + 1, 0, none⟩) (fun _ => rfl) _).setCell (p := ⟨w.heap.size + 1, 1, none⟩) (fun _ => rfl) _
    exact ⟨A3, c3, rfl, Lib.hid ((M3.out.fr hF (fun j e h => by have := (M3.out.1.lt j e).1; omega)).low (by omega)), Lib.hid (Fr.of_below (below_fr (HB.out.trans (F3.out.below0.mono (by omega))) hF (by have := F3.out.size; omega) (fun j e => by omega)))⟩
end Go.Proofs.YtigknfkkegccgaaDoor.K

/- Orders: a cell of a row of lines is laid anew. -/
namespace Go.Proofs.YtigknfkkegccgaaDoor.K
open Go.RowKit
set_option linter.unusedVariables false
set_option linter.unusedSimpArgs false
theorem flat_set {α : Type} {c : α → List Value} {size : Nat} (hc : ∀ x, (c x).length = size) : ∀ (l : List α) (k : Nat) (x : α) (f : Nat) (u : Value) (hk : k < l.length), f < size → c x = (c l[k]).set f u → (l.flatMap c).set (k * size + f) u = (l.set k x).flatMap c := by
  intro l
  induction l with
  | nil => intro k x f u hk; simp at hk
  | cons y l ih =>
    intro k x f u hk hf h
    cases k with
    | zero =>
      simp only [List.getElem_cons_zero] at h
      rw [Nat.zero_mul, Nat.zero_add, List.flatMap_cons, List.set_append_left _ _ (by rw [hc]; exact hf), List.set_cons_zero, List.flatMap_cons, h]
    | succ k =>
      simp only [List.getElem_cons_succ] at h
      rw [List.flatMap_cons, List.set_append_right _ _ (by rw [hc, Nat.succ_mul]; omega), hc, List.set_cons_succ, List.flatMap_cons, ← ih k x f u (by simpa using hk) hf h, show (k + 1) * size + f - size = k * size + f by rw [Nat.succ_mul]; omega]
theorem MadeL.set {B c k f : Nat} {A : Option Addr} {l : List Ln} {w : World} (h : MadeL B A c l w) (hk : k < l.length) (hf : f < 3) :
    ∃ g, A = some ⟨g, 0, none⟩ ∧ B ≤ g ∧ g < w.heap.size ∧ w.cell? ⟨g, k * 3 + f, none⟩ = (cL l[k])[f]? ∧ w.frozen? ⟨g, k * 3 + f, none⟩ = false ∧ ∀ x u, cL x = (cL l[k]).set f u → MadeL B (some ⟨g, 0, none⟩) c (l.set k x) (w.setCell ⟨g, k * 3 + f, none⟩ u) := by
  obtain ⟨h1, h2, h3⟩ := h
  obtain ⟨g, cap, hv, hb, hlt⟩ := h1.form (by omega)
  have hA : A = some ⟨g, 0, none⟩ := by injection hv
  subst hA
  have hcell : w.cell? ⟨g, k * 3 + f, none⟩ = (cL l[k])[f]? := by
    have hx : (cL l[k])[f]? = some ((cL l[k])[f]'hf) := List.getElem?_eq_getElem hf
    have := flat_at (c := cL) (size := 3) (fun _ => rfl) l k l[k] (List.getElem?_eq_getElem hk) f _ hx
    rw [hx, ← this]
    exact h1.cellAt (k * 3 + f) (by omega)
  refine ⟨g, rfl, hb, hlt, hcell, h1.frozenAt (k * 3 + f), fun x u hx => ?_⟩
  have h4 := (h1.stored (k * 3 + f) u).1
  rw [flat_set (c := cL) (size := 3) (fun _ => rfl) l k x f u hk hf hx] at h4
  exact ⟨by rw [List.length_set]; exact h4, row_own (c := cL) (fun _ => rfl) (by rw [List.length_set]; exact h4), by rw [List.length_set]; exact h3⟩
theorem idx_ln {g n c k : Nat} (h : k < n) (W : World) : (Instr.indexAt 23 (.slice (some ⟨g, 0, none⟩) n c) (.int .i64 k)).run Tryd.prog W = .ok (.pointer (some ⟨g, k * 3, none⟩)) W := by
  obtain ⟨i, hi, hz⟩ := info_parts info_ln
  have hel : Tryd.prog.elem 23 = 51 := by simp [Program.elem, Tryd.underlying23]
  rw [run_indexAt_slice W 23 _ _ _ .i64 k (by rw [hel]; exact Tryd.underlying23), hel, if_pos (by omega)]
  simp [sizeOf, typeInfo, hi, hz, Result.andThen, add_plain]
theorem RightE {A : Option Addr} {c m : Nat} {id v : Int} {ls : List Ln} {w : World} (hr : RowOf cL 3 w w.heap.size A ls) (hm : ls.length = m) (hl : m ≤ 1000) (hc : m ≤ c) (ho : ∀ l ∈ ls, l.ok) (hv : rightO ls = v) :
    Calls Tryd.prog 13 #[.agg #[.int .u32 id, .slice A m c]] w fun e w' => e = .returned (.int .i64 v) ∧ Hid (Below w.heap.size w w') := by
  subst hm hv
  exact RightC hr (Nat.le_refl _) (by omega) hc ho
end Go.Proofs.YtigknfkkegccgaaDoor.K

/- Orders: the document's Same. -/
namespace Go.Proofs.YtigknfkkegccgaaDoor.K
open Go.RowKit
set_option linter.unusedVariables false
set_option linter.unusedSimpArgs false
attribute [local go_sem ↓] Go.wp_at_zero Go.wp_at_succ
theorem neqL (x y : Ln) (W : World) : (binOp .neq 51 (.agg #[.int .u16 x.item, .int .u16 x.loc, .int .i64 x.qty]) (.agg #[.int .u16 y.item, .int .u16 y.loc, .int .i64 y.qty])).run Tryd.prog W = .ok (.bool (decide (x ≠ y))) W := by
  have hp : Tryd.prog.stoodInHeld 51 = false := by kernel_rfl
  have hu := Tryd.underlying51
  obtain ⟨xi, xl, xq⟩ := x
  obtain ⟨yi, yl, yq⟩ := y
  rw [run_neq_struct]
  simp only
  generalize hF : (#[.int .u16 xi, .int .u16 xl, .int .i64 xq] : Array Value) = xs
  generalize hG : (#[.int .u16 yi, .int .u16 yl, .int .i64 yq] : Array Value) = ys
  rw [run_equalIn_agg _ _ _ _ _ (by unfold Program.fieldsOf; rw [hu]) hp]
  unfold Program.fieldsOf
  rw [hu]
  subst hF
  subst hG
  by_cases h1 : xi = yi
  · by_cases h2 : xl = yl
    · by_cases h3 : xq = yq
      · subst h1 h2 h3
        simp [go_sem, Tryd.underlying49, Tryd.underlying3]
      · subst h1 h2
        have : decide (xq = yq) = false := by simp [h3]
        simp [go_sem, Tryd.underlying49, Tryd.underlying3, h3]
    · subst h1
      simp [go_sem, Tryd.underlying49, Tryd.underlying3, h2]
  · simp [go_sem, Tryd.underlying49, Tryd.underlying3, h1]
theorem cell_lt {w : World} {p : Addr} {u : Value} (h : w.cell? p = some u) : p.block < w.heap.size := by
  rcases Nat.lt_or_ge p.block w.heap.size with h' | h'
  · exact h'
  · simp [World.cell?, Array.getElem?_eq_none h'] at h
set_option maxHeartbeats 2000000 in
set_option maxRecDepth 10000 in
theorem SameC {A B : Option Addr} {c d : Nat} {i j : Int} {ls ms : List Ln} {w : World} (hA : RowOf cL 3 w w.heap.size A ls) (hB : RowOf cL 3 w w.heap.size B ms) (hl : ls.length ≤ 1000) :
    Calls Tryd.prog 17 #[.agg #[.int .u32 i, .slice A ls.length c], .agg #[.int .u32 j, .slice B ms.length d]] w fun e w' => e = .returned (.bool (decide (i = j ∧ ls = ms))) ∧ Hid (Below w.heap.size w w') := by
  have hp : Blk ((w.alloc (.cells #[.int .u32 i, .slice A ls.length c] 25)).alloc (.cells #[.int .u32 j, .slice B ms.length d] 25)) w.heap.size 25 #[.int .u32 i, .slice A ls.length c] := (Blk.new w _ _).alloc _
  have hq : Blk ((w.alloc (.cells #[.int .u32 i, .slice A ls.length c] 25)).alloc (.cells #[.int .u32 j, .slice B ms.length d] 25)) (w.heap.size + 1) 25 #[.int .u32 j, .slice B ms.length d] := Blk.new_at (by simp)
  have hb : Below w.heap.size w ((w.alloc (.cells #[.int .u32 i, .slice A ls.length c] 25)).alloc (.cells #[.int .u32 j, .slice B ms.length d] 25)) := ((Below.refl _ w).alloc (Nat.le_refl _) _).alloc (by simp) _
  have p0 := hp.cell 0
  have p1 := hp.cell 1
  have q0 := hq.cell 0
  have q1 := hq.cell 1
  have HA := Lib.hid hA
  have HB := Lib.hid hB
  have HP := Lib.hid hp
  have HQ := Lib.hid hq
  have HW := Lib.hid hb
  clear hp hq hb hA hB
  by_cases hij : i = j
  · subst hij
    by_cases hlm : ls.length = ms.length
    · rw [hlm] at p0 p1 q0 q1 HP HQ HW hl ⊢
      have HLM := Lib.hid hlm
      clear hlm
      go_enter Tryd.func17, Tryd.ntmps17
      go_wp2
      go_loopw [5] (fun s wr => ∃ k : Nat, s = .int .i64 k ∧ k ≤ ms.length ∧ ls.take k = ms.take k ∧ Below w.heap.size w wr ∧ Blk wr w.heap.size 25 #[.int .u32 i, .slice A ms.length c] ∧ Blk wr (w.heap.size + 1) 25 #[.int .u32 i, .slice B ms.length d]) (fun i _ => ms.length - (intOf i).toNat)
      case atStart => exact ⟨0, rfl, by omega, rfl, HW.out, HP.out, HQ.out⟩
      case round =>
        clear p0 p1 q0 q1 HP HQ HW
        obtain ⟨k, rfl, hk, ht, hf, hp, hq⟩ := hrel
        have HT := Lib.hid ht
        have HF := Lib.hid hf
        have p1 := hp.cell 1
        have q1 := hq.cell 1
        have HP := Lib.hid hp
        have HQ := Lib.hid hq
        clear hf ht hp hq
        by_cases hlt2 : k < ms.length
        · have hlt : k < ls.length := by rw [HLM.out]; exact hlt2
          obtain ⟨ad, rfl, _, a0, a1, a2⟩ := (RowOf.below HA.out HF.out).ln hlt
          obtain ⟨bd, rfl, _, b0, b1, b2⟩ := (RowOf.below HB.out HF.out).ln hlt2
          have hs1 : Hid (ls.take (k + 1) = ls.take k ++ [ls[k]]) := Lib.hid (List.take_succ_eq_append_getElem hlt)
          have hs2 : Hid (ms.take (k + 1) = ms.take k ++ [ms[k]]) := Lib.hid (List.take_succ_eq_append_getElem hlt2)
          have hd1 : Hid (ls = ms → ls[k] = ms[k]) := Lib.hid (fun h => by subst h; rfl)
          have hneq := fun W => neqL ls[k] ms[k] W
          generalize ls[k] = x at *
          generalize ms[k] = y at *
          clear hlt
          by_cases hxy : x = y
          · rw [show decide (x ≠ y) = false by simp [hxy]] at hneq
            have HXY := Lib.hid hxy
            clear hxy
            go_wp2_with fail
            go_region
            go_wp2
            go_roundw
            case rel => exact ⟨k + 1, by go_num, by omega, by rw [hs1.out, hs2.out, HT.out, HXY.out], below_dr HF.out, HP.out, HQ.out⟩
            case measure => simp [intOf]; omega
          · rw [show decide (x ≠ y) = true by simp [hxy]] at hneq
            have HRES : Hid (decide (ls = ms) = false) := Lib.hid (by simp; exact fun h => hxy (hd1.out h))
            clear hxy
            go_wp2_with fail
            go_region
            go_wp2
            go_ret
            exact ⟨ret_bool (by simpa using HRES.out), Lib.hid (below_dr HF.out)⟩
        · have hkl : k = ms.length := by omega
          have HRES : Hid (decide (ls = ms) = true) := Lib.hid (by
            have := HT.out
            rw [hkl, List.take_length, ← HLM.out, List.take_length] at this
            simp [this])
          subst hkl
          go_wp2
          go_ret
          exact ⟨ret_bool (by simpa using HRES.out), HF⟩
    · have hne : decide (ls = ms) = false := by simp; intro h; exact hlm (by rw [h])
      have hlI2 : (ls.length : Int) ≠ (ms.length : Int) := by omega
      have HNE := Lib.hid hne
      clear hne hlm
      go_enter Tryd.func17, Tryd.ntmps17
      go_wp2
      go_ret
      exact ⟨ret_bool (by simpa using HNE.out), HW⟩
  · have hne : decide (i = j ∧ ls = ms) = false := by simp [hij]
    have HNE := Lib.hid hne
    have hijb : (i == j) = false := by simpa using hij
    clear hne
    go_enter Tryd.func17, Tryd.ntmps17
    go_wp2
    go_ret
    exact ⟨ret_bool HNE.out.symm, HW⟩
end Go.Proofs.YtigknfkkegccgaaDoor.K

/- OrderOnce: its walk. -/
namespace Go.Proofs.YtigknfkkegccgaaDoor.K
open Go.RowKit
set_option linter.unusedVariables false
set_option linter.unusedSimpArgs false
attribute [local go_sem ↓] Go.wp_at_zero Go.wp_at_succ
/-- The flags of all that ever were. -/
def evA (ids : List Int) : Array Value := ((List.range 256).map (fun x : Nat => Value.bool (decide ((x : Int) ∈ ids)))).toArray
theorem evA_get (ids : List Int) (x : Nat) (h : x < 256) : (evA ids)[x]? = some (.bool (decide ((x : Int) ∈ ids))) := by
  unfold evA
  rw [List.getElem?_toArray, List.getElem?_map, List.getElem?_range h]; rfl
theorem evA_put (ids : List Int) (x : Nat) : (evA ids).setIfInBounds x (.bool true) = evA (ids ++ [(x : Int)]) := by
  apply Array.ext_getElem?
  intro i
  rw [Array.getElem?_setIfInBounds]
  have hs : (evA ids).size = 256 := by simp [evA]
  by_cases hi : i < 256
  · rw [evA_get _ i hi, evA_get _ i hi, hs]
    by_cases e : x = i
    · subst e; simp [hi]
    · rw [if_neg e]
      have : (i : Int) ≠ (x : Int) := by omega
      simp [this]
  · have h1 : (evA ids)[i]? = none := Array.getElem?_eq_none (by simp [evA]; omega)
    have h2 : (evA (ids ++ [(x : Int)]))[i]? = none := Array.getElem?_eq_none (by simp [evA]; omega)
    rw [h1, h2, hs]
    by_cases e : x = i
    · subst e; simp [hi]
    · rw [if_neg e]
theorem evA_nil : evA [] = Array.replicate 256 (.bool false) := by
  apply Array.ext_getElem?
  intro i
  by_cases hi : i < 256
  · rw [evA_get _ i hi]; simp [hi]
  · rw [Array.getElem?_eq_none (by simp [evA]; omega), Array.getElem?_eq_none (by simp; omega)]
theorem ever_blk_ne {g p : Nat} {ids : List Int} {t : TypeId} {cs : Array Value} {w : World} (h : Ever g ids w) (h' : Blk w p t cs) : p ≠ g := by
  rintro rfl
  obtain ⟨D, ⟨es, clock, hh, _⟩, _⟩ := h
  unfold Blk at h'
  rw [hh] at h'
  cases h'
/-- A book stays behind a turn of a block of another kind. -/
theorem Bk.far {B b g p : Nat} {v : Value} {os : List So} {ids : List Int} {cs : Array Value} {w w' : World} (h : Bk B b g v os ids w) (k : Fr (fun j => j = p) w w') (hp : Blk w p 58 cs) : Bk B b g v os ids w' :=
  ⟨h.blk.fr k (Blk.ne_ h.blk hp (by decide)), own_fr h.row k (fun j e e' => own_blk_ne h.row hp (by decide) (e' ▸ e)), fun o ho => (h.each o ho).fr k (fun j e e' => own_blk_ne (h.each o ho).1 hp (by decide) (e' ▸ e)), h.ever.fr k (fun e => ever_blk_ne h.ever hp e.symm), h.low⟩
theorem getD_mem {l : List Int} {k : Nat} (h : k < l.length) : l.getD k 0 ∈ l := by
  rw [List.getD_eq_getElem?_getD, List.getElem?_eq_getElem h]; exact List.getElem_mem h
theorem idxO_mem {os : List So} {m : Nat} (h : m < os.length) : ∃ j, idxO (os[m]).id os = some j := by
  cases e : idxO (os[m]).id os with
  | some j => exact ⟨j, rfl⟩
  | none =>
    unfold idxO at e
    rw [List.findIdx?_eq_none_iff] at e
    have := e _ (List.getElem_mem h)
    simp at this
abbrev cB : Bool → List Value := fun x => [.bool x]
set_option maxHeartbeats 8000000 in
set_option maxRecDepth 20000 in
theorem oonce_walk (A Q : Option Addr) (c q : Nat) (l : List Int) (z : List Bool) (w : World) (hr : RowOf c8 1 w w.heap.size A l) (hz : RowOf cB 1 w w.heap.size Q z) (hi : InB l) :
    Calls Tryd.prog 5 #[.slice A l.length c, .slice Q z.length q] w fun e w' => e = .returned (.bool true) ∧ Below w.heap.size w w' := by
  have HR := Lib.hid hr
  have HZ := Lib.hid hz
  have HI := Lib.hid hi
  clear hr hz hi
  go_enter Tryd.func5, Tryd.ntmps5
  go_wp2_with fail
  refine Calls.mono shown14_walk ?_
  rintro e w1 ⟨rfl, F1⟩
  go_wp2_with fail
  refine Calls.mono (NewBookC w1) ?_
  rintro e w2 ⟨b, g, rfl, HB2, HF2⟩
  have B2 := Lib.hid (F1.out.trans (HF2.out.below0.mono F1.out.size))
  have HE2 : Hid (Blk (w2.alloc (.cells Tryd.zeroCells58 58)) w2.heap.size 58 (evA [])) := Lib.hid (by rw [evA_nil]; exact Blk.new w2 _ _)
  have HB3 := Lib.hid (HB2.out.fr ((Fr.refl (fun _ => False) w2).alloc (.cells Tryd.zeroCells58 58)) (fun _ _ _ h => h))
  have B3 := Lib.hid (B2.out.alloc B2.out.size (.cells Tryd.zeroCells58 58))
  have hB0 := F1.out.size
  have hpe : w.heap.size ≤ w2.heap.size := B2.out.size
  have HE2 : Hid (Blk (w2.alloc (.cells Tryd.zeroCells58 58)) w2.heap.size 58 (evA [])) := Lib.hid (by rw [evA_nil]; exact Blk.new w2 _ _)
  have HB3 := Lib.hid (HB2.out.fr ((Fr.refl (fun _ => False) w2).alloc (.cells Tryd.zeroCells58 58)) (fun _ _ _ h => h))
  have B3 := Lib.hid (B2.out.alloc B2.out.size (.cells Tryd.zeroCells58 58))
  have hB0 := F1.out.size
  have hpe : w.heap.size ≤ w2.heap.size := B2.out.size
  have HE2 : Hid (Blk (w2.alloc (.cells Tryd.zeroCells58 58)) w2.heap.size 58 (evA [])) := Lib.hid (by rw [evA_nil]; exact Blk.new w2 _ _)
  have HB3 := Lib.hid (HB2.out.fr ((Fr.refl (fun _ => False) w2).alloc (.cells Tryd.zeroCells58 58)) (fun _ _ _ h => h))
  have B3 := Lib.hid (B2.out.alloc B2.out.size (.cells Tryd.zeroCells58 58))
  have hB0 := F1.out.size
  have hpe : w.heap.size ≤ w2.heap.size := B2.out.size
  have HE2 : Hid (Blk (w2.alloc (.cells Tryd.zeroCells58 58)) w2.heap.size 58 (evA [])) := Lib.hid (by rw [evA_nil]; exact Blk.new w2 _ _)
  have HB3 := Lib.hid (HB2.out.fr ((Fr.refl (fun _ => False) w2).alloc (.cells Tryd.zeroCells58 58)) (fun _ _ _ h => h))
  have B3 := Lib.hid (B2.out.alloc B2.out.size (.cells Tryd.zeroCells58 58))
  have hB0 := F1.out.size
  have hpe : w.heap.size ≤ w2.heap.size := B2.out.size
  have HE2 : Hid (Blk (w2.alloc (.cells Tryd.zeroCells58 58)) w2.heap.size 58 (evA [])) := Lib.hid (by rw [evA_nil]; exact Blk.new w2 _ _)
  have HB3 := Lib.hid (HB2.out.fr ((Fr.refl (fun _ => False) w2).alloc (.cells Tryd.zeroCells58 58)) (fun _ _ _ h => h))
  have B3 := Lib.hid (B2.out.alloc B2.out.size (.cells Tryd.zeroCells58 58))
  have hB0 := F1.out.size
  have hpe : w.heap.size ≤ w2.heap.size := B2.out.size
  go_wp2
  generalize w2.alloc (.cells Tryd.zeroCells58 58) = W3 at *
  generalize w2.heap.size = pe at *
  generalize w1.heap.size = B0 at *
  clear HB2 HF2 B2 F1 w2 w1
  go_loopw [8, 9] (fun o i wr => ∃ (k : Nat) (v : Value) (os : List So) (ids : List Int), i = .int .i64 k ∧ o = .int .i64 os.length ∧ k ≤ l.length ∧ k ≤ 200 ∧ os.length ≤ 16 ∧ ids.length ≤ k ∧ Bk B0 b g v os ids wr ∧ Blk wr pe 58 (evA ids) ∧ Below w.heap.size w wr) (fun _ i _ => 200 - (intOf i).toNat)
  case atStart => exact ⟨0, _, [], [], rfl, rfl, by omega, by omega, by simp, by simp, HB3.out, HE2.out, B3.out⟩
  case round =>
    clear HB3 HE2 B3
    obtain ⟨k, v, os, ids, rfl, rfl, hkl, hk2, hos, hids, hbk, hev, hf⟩ := hrel
    have HBK := Lib.hid hbk
    have HEV0 := Lib.hid hev
    have HF := Lib.hid hf
    clear hbk hev hf
    by_cases hgo : k < l.length ∧ k < 200
    · obtain ⟨hlt, h200⟩ := hgo
      obtain ⟨ad, rfl, hadb, hcell⟩ := (RowOf.below HR.out HF.out).num hlt
      have hxb := HI.out (l.getD k 0) (getD_mem hlt)
      have hadall : ∀ W, Below w.heap.size w W → W.cell? (ad.add k) = some (.int .u8 (l.getD k 0)) := fun W hW => by
        obtain ⟨ad', e', _, hc'⟩ := (RowOf.below HR.out hW).num hlt
        rw [Option.some.inj e']; exact hc'
      generalize l.getD k 0 = x at *
      obtain ⟨xn, rfl⟩ : ∃ xn : Nat, x = xn := ⟨x.toNat, by omega⟩
      have hxn : xn < 256 := by omega
      have hid : (0 : Int) ≤ xn ∧ (xn : Int) < 4294967296 := by omega
      have hx256 : (xn : Int) < 256 := by omega
      have HAD := Lib.hid hadall
      have F1 : Fr0 wr (wr.alloc (.cells #[.int .u16 1, .int .u16 1, .int .i64 1] 51)) := (Fr.refl (fun _ => False) wr).alloc _
      have HB1 := Lib.hid (HBK.out.fr F1 (fun _ _ _ h => h))
      have HE1 := Lib.hid (HEV0.out.alloc (.cells #[.int .u16 1, .int .u16 1, .int .i64 1] 51))
      have HF1 := Lib.hid (HF.out.alloc HF.out.size (.cells #[.int .u16 1, .int .u16 1, .int .i64 1] 51))
      have HL1 : Hid (RowOf cL 3 (wr.alloc (.cells #[.int .u16 1, .int .u16 1, .int .i64 1] 51)) (wr.alloc (.cells #[.int .u16 1, .int .u16 1, .int .i64 1] 51)).heap.size (some ⟨wr.heap.size, 0, none⟩) [⟨1, 1, 1⟩]) := Lib.hid (row_blk1 (Blk.new wr 51 (lvs ⟨1, 1, 1⟩)) (by simp))
      have ok1 : ∀ l ∈ [(⟨1, 1, 1⟩ : Ln)], l.ok := fun l hl => by
        rw [List.mem_singleton] at hl; subst hl
        exact ⟨⟨by decide, by decide⟩, ⟨by decide, by decide⟩, ⟨by decide, by decide⟩⟩
      have right1 : rightO [⟨1, 1, 1⟩] = 0 := by decide
      clear hadall F1 hadb HBK HEV0 hxb
      by_cases hmem : (xn : Int) ∈ ids
      · by_cases h16 : 16 ≤ os.length
        · have qA := AddTwice (c := 1) (id := xn) HB1.out hid HL1.out (Nat.le_refl _) (by simp) (Nat.le_refl _) ok1 right1 hmem
          clear ok1 right1
          go_wp2_with fail
          refine Calls.mono qA ?_
          clear qA
          rintro e w5 ⟨rfl, F5⟩
          have D5 := Lib.hid (HF1.out.trans (F5.out.mono HF1.out.size))
          have HE5 := Lib.hid (HE1.out.below F5.out HE1.out.lt)
          obtain ⟨os2, hos2⟩ : ∃ os2, os2 = os := ⟨_, rfl⟩
          obtain ⟨ids2, hids2⟩ : ∃ ids2, ids2 = ids := ⟨_, rfl⟩
          obtain ⟨v2, hv2⟩ : ∃ v2, v2 = v := ⟨_, rfl⟩
          have HB5 : Hid (Bk B0 b g v2 os2 ids2 w5) := Lib.hid (by rw [hos2, hids2, hv2]; exact HB1.out.fr (Fr.of_below F5.out) (fun _ _ _ h => h))
          have HEV : Hid (Blk w5 pe 58 (evA ids2)) := Lib.hid (by rw [hids2]; exact HE5.out)
          have DV := D5
          have hl2 : os2.length ≤ 16 := by rw [hos2]; exact hos
          have hd2 : ids2.length ≤ k + 1 := by rw [hids2]; omega
          have he5 : w5.cell? ⟨pe, xn, none⟩ = _ := (HE5.out.cell xn).trans (evA_get ids xn hxn)
          have he5f := HE5.out.frozen xn
          rw [show decide ((xn : Int) ∈ ids) = true by simp [hmem]] at he5
          have hcell := HAD.out w5 D5.out
          clear D5 HE5 HB1 HE1 HF1 HL1
          go_upto_region 22 with (fail)
          rw [show os.length = os2.length by rw [hos2]]
          clear hos2 hids2 hv2 he5 he5f hcell
          have HBV := HB5
          clear HB5
          generalize w5 = wq at *
          by_cases hz1 : k < z.length
          · have hzc := HZ.out k z[k] (List.getElem?_eq_getElem hz1)
            obtain ⟨zd, rfl, hzb, -⟩ := hzc
            have hzc : wq.cell? (zd.add k) = some (.bool z[k]) := by
              obtain ⟨zd', e', _, hc'⟩ := (RowOf.below HZ.out DV.out) k z[k] (List.getElem?_eq_getElem hz1)
              rw [Option.some.inj e']
              simpa using hc' 0 _ rfl
            clear hzb
            generalize z[k] = zb at *
            cases zb
            · have qO := OpenC HBV.out (by omega)
              go_wp2_with fail
              refine Calls.mono qO ?_
              clear qO
              rintro e w6 ⟨v6, rfl, HO6, F6⟩
              obtain ⟨A6, c6, rfl, hc6⟩ := own_form HO6.out
              clear hc6
              go_wp2
              go_roundw
              case rel => exact ⟨k + 1, v2, os2, ids2, by go_num, rfl, by omega, by omega, hl2, hd2, HBV.out.fr (Fr.of_below F6.out) (fun _ _ _ h => h), HEV.out.below F6.out HEV.out.lt, DV.out.trans (F6.out.mono DV.out.size)⟩
              case measure => simp [intOf]; omega
            · by_cases ho : 0 < os2.length
              · obtain ⟨m, hm⟩ : ∃ m, m = k % os2.length := ⟨_, rfl⟩
                have hml : m < os2.length := by rw [hm]; exact Nat.mod_lt _ ho
                have hmod : (k : Int) % (os2.length : Int) = (m : Int) := by rw [hm]; simp
                have hnz : (os2.length : Int) ≠ 0 := by omega
                clear hm
                have qO := OpenC HBV.out (by omega)
                go_wp2_with fail
                refine Calls.mono qO ?_
                clear qO
                rintro e w6 ⟨v6, rfl, HO6, F6⟩
                obtain ⟨g6, c6, rfl, -, -⟩ := HO6.out.form ho
                have hy : w6.cell? ⟨g6, m, none⟩ = some (.int .u32 (os2[m]).id) := (HO6.out.cellAt m (by omega)).trans (by simp [nums, hml])
                obtain ⟨j, hj⟩ := idxO_mem hml
                have hHB6 := HBV.out.fr (Fr.of_below F6.out) (fun _ _ _ h => h)
                generalize (os2[m]).id = y at *
                have qC := CloseC (k := j) hHB6 (by omega) hj
                have HB6v := Lib.hid hHB6
                have HIJ := Lib.hid hj
                clear hHB6 hj
                go_wp2_with fail
                refine Calls.mono qC ?_
                clear qC
                rintro e w7 ⟨rfl, v7, -, HB7, HF7⟩
                have D7 : Hid (Below w.heap.size w w7) := Lib.hid ((DV.out.trans (F6.out.mono DV.out.size)).trans (HF7.out.below (fun j _ e => by
                  have h1 := HB6v.out.low
                  rcases e with e | e
                  · omega
                  · have := (HB6v.out.row.lt j e).1; omega) (Nat.le_trans DV.out.size F6.out.size)))
                have HE6 := Lib.hid (HEV.out.below F6.out HEV.out.lt)
                have HE7 : Hid (Blk w7 pe 58 (evA ids2)) := Lib.hid (HE6.out.fr HF7.out (fun e => by
                  rcases e with e | e
                  · exact Blk.ne_ HE6.out HB6v.out.blk (by decide) e
                  · exact own_blk_ne HB6v.out.row HE6.out (by decide) e))
                obtain ⟨os3, hos3⟩ : ∃ os3, os3 = os2.eraseIdx j := ⟨_, rfl⟩
                obtain ⟨hjl, -⟩ := idxO_some HIJ.out
                have hlen3 : (os2.length : Int) - 1 = (os3.length : Int) := by rw [hos3, List.length_eraseIdx, if_pos hjl]; omega
                rw [← hos3] at HB7
                clear hos3 hjl HB6v HIJ HE6 HF7 HO6 hy
                have qO := OpenC HB7.out (by omega)
                go_wp2_with fail
                refine Calls.mono qO ?_
                clear qO
                rintro e w8 ⟨v8, rfl, HO8, F8⟩
                obtain ⟨A8, c8', rfl, hc8⟩ := own_form HO8.out
                clear hc8
                go_wp2
                go_roundw
                case rel => exact ⟨k + 1, v7, os3, ids2, by go_num, rfl, by omega, by omega, by omega, hd2, HB7.out.fr (Fr.of_below F8.out) (fun _ _ _ h => h), HE7.out.below F8.out HE7.out.lt, D7.out.trans (F8.out.mono D7.out.size)⟩
                case measure => simp [intOf]; omega
              · have qO := OpenC HBV.out (by omega)
                go_wp2_with fail
                refine Calls.mono qO ?_
                clear qO
                rintro e w6 ⟨v6, rfl, HO6, F6⟩
                obtain ⟨A6, c6, rfl, hc6⟩ := own_form HO6.out
                clear hc6
                go_wp2
                go_roundw
                case rel => exact ⟨k + 1, v2, os2, ids2, by go_num, rfl, by omega, by omega, hl2, hd2, HBV.out.fr (Fr.of_below F6.out) (fun _ _ _ h => h), HEV.out.below F6.out HEV.out.lt, DV.out.trans (F6.out.mono DV.out.size)⟩
                case measure => simp [intOf]; omega
          · have qO := OpenC HBV.out (by omega)
            go_wp2_with fail
            refine Calls.mono qO ?_
            clear qO
            rintro e w6 ⟨v6, rfl, HO6, F6⟩
            obtain ⟨A6, c6, rfl, hc6⟩ := own_form HO6.out
            clear hc6
            go_wp2
            go_roundw
            case rel => exact ⟨k + 1, v2, os2, ids2, by go_num, rfl, by omega, by omega, hl2, hd2, HBV.out.fr (Fr.of_below F6.out) (fun _ _ _ h => h), HEV.out.below F6.out HEV.out.lt, DV.out.trans (F6.out.mono DV.out.size)⟩
            case measure => simp [intOf]; omega

        · have qA := AddTwice (c := 1) (id := xn) HB1.out hid HL1.out (Nat.le_refl _) (by simp) (Nat.le_refl _) ok1 right1 hmem
          clear ok1 right1
          go_wp2_with fail
          refine Calls.mono qA ?_
          clear qA
          rintro e w5 ⟨rfl, F5⟩
          have D5 := Lib.hid (HF1.out.trans (F5.out.mono HF1.out.size))
          have HE5 := Lib.hid (HE1.out.below F5.out HE1.out.lt)
          obtain ⟨os2, hos2⟩ : ∃ os2, os2 = os := ⟨_, rfl⟩
          obtain ⟨ids2, hids2⟩ : ∃ ids2, ids2 = ids := ⟨_, rfl⟩
          obtain ⟨v2, hv2⟩ : ∃ v2, v2 = v := ⟨_, rfl⟩
          have HB5 : Hid (Bk B0 b g v2 os2 ids2 w5) := Lib.hid (by rw [hos2, hids2, hv2]; exact HB1.out.fr (Fr.of_below F5.out) (fun _ _ _ h => h))
          have HEV : Hid (Blk w5 pe 58 (evA ids2)) := Lib.hid (by rw [hids2]; exact HE5.out)
          have DV := D5
          have hl2 : os2.length ≤ 16 := by rw [hos2]; exact hos
          have hd2 : ids2.length ≤ k + 1 := by rw [hids2]; omega
          have he5 : w5.cell? ⟨pe, xn, none⟩ = _ := (HE5.out.cell xn).trans (evA_get ids xn hxn)
          have he5f := HE5.out.frozen xn
          rw [show decide ((xn : Int) ∈ ids) = true by simp [hmem]] at he5
          have hcell := HAD.out w5 D5.out
          clear D5 HE5 HB1 HE1 HF1 HL1
          go_upto_region 22 with (fail)
          rw [show os.length = os2.length by rw [hos2]]
          clear hos2 hids2 hv2 he5 he5f hcell
          have HBV := HB5
          clear HB5
          generalize w5 = wq at *
          by_cases hz1 : k < z.length
          · have hzc := HZ.out k z[k] (List.getElem?_eq_getElem hz1)
            obtain ⟨zd, rfl, hzb, -⟩ := hzc
            have hzc : wq.cell? (zd.add k) = some (.bool z[k]) := by
              obtain ⟨zd', e', _, hc'⟩ := (RowOf.below HZ.out DV.out) k z[k] (List.getElem?_eq_getElem hz1)
              rw [Option.some.inj e']
              simpa using hc' 0 _ rfl
            clear hzb
            generalize z[k] = zb at *
            cases zb
            · have qO := OpenC HBV.out (by omega)
              go_wp2_with fail
              refine Calls.mono qO ?_
              clear qO
              rintro e w6 ⟨v6, rfl, HO6, F6⟩
              obtain ⟨A6, c6, rfl, hc6⟩ := own_form HO6.out
              clear hc6
              go_wp2
              go_roundw
              case rel => exact ⟨k + 1, v2, os2, ids2, by go_num, rfl, by omega, by omega, hl2, hd2, HBV.out.fr (Fr.of_below F6.out) (fun _ _ _ h => h), HEV.out.below F6.out HEV.out.lt, DV.out.trans (F6.out.mono DV.out.size)⟩
              case measure => simp [intOf]; omega
            · by_cases ho : 0 < os2.length
              · obtain ⟨m, hm⟩ : ∃ m, m = k % os2.length := ⟨_, rfl⟩
                have hml : m < os2.length := by rw [hm]; exact Nat.mod_lt _ ho
                have hmod : (k : Int) % (os2.length : Int) = (m : Int) := by rw [hm]; simp
                have hnz : (os2.length : Int) ≠ 0 := by omega
                clear hm
                have qO := OpenC HBV.out (by omega)
                go_wp2_with fail
                refine Calls.mono qO ?_
                clear qO
                rintro e w6 ⟨v6, rfl, HO6, F6⟩
                obtain ⟨g6, c6, rfl, -, -⟩ := HO6.out.form ho
                have hy : w6.cell? ⟨g6, m, none⟩ = some (.int .u32 (os2[m]).id) := (HO6.out.cellAt m (by omega)).trans (by simp [nums, hml])
                obtain ⟨j, hj⟩ := idxO_mem hml
                have hHB6 := HBV.out.fr (Fr.of_below F6.out) (fun _ _ _ h => h)
                generalize (os2[m]).id = y at *
                have qC := CloseC (k := j) hHB6 (by omega) hj
                have HB6v := Lib.hid hHB6
                have HIJ := Lib.hid hj
                clear hHB6 hj
                go_wp2_with fail
                refine Calls.mono qC ?_
                clear qC
                rintro e w7 ⟨rfl, v7, -, HB7, HF7⟩
                have D7 : Hid (Below w.heap.size w w7) := Lib.hid ((DV.out.trans (F6.out.mono DV.out.size)).trans (HF7.out.below (fun j _ e => by
                  have h1 := HB6v.out.low
                  rcases e with e | e
                  · omega
                  · have := (HB6v.out.row.lt j e).1; omega) (Nat.le_trans DV.out.size F6.out.size)))
                have HE6 := Lib.hid (HEV.out.below F6.out HEV.out.lt)
                have HE7 : Hid (Blk w7 pe 58 (evA ids2)) := Lib.hid (HE6.out.fr HF7.out (fun e => by
                  rcases e with e | e
                  · exact Blk.ne_ HE6.out HB6v.out.blk (by decide) e
                  · exact own_blk_ne HB6v.out.row HE6.out (by decide) e))
                obtain ⟨os3, hos3⟩ : ∃ os3, os3 = os2.eraseIdx j := ⟨_, rfl⟩
                obtain ⟨hjl, -⟩ := idxO_some HIJ.out
                have hlen3 : (os2.length : Int) - 1 = (os3.length : Int) := by rw [hos3, List.length_eraseIdx, if_pos hjl]; omega
                rw [← hos3] at HB7
                clear hos3 hjl HB6v HIJ HE6 HF7 HO6 hy
                have qO := OpenC HB7.out (by omega)
                go_wp2_with fail
                refine Calls.mono qO ?_
                clear qO
                rintro e w8 ⟨v8, rfl, HO8, F8⟩
                obtain ⟨A8, c8', rfl, hc8⟩ := own_form HO8.out
                clear hc8
                go_wp2
                go_roundw
                case rel => exact ⟨k + 1, v7, os3, ids2, by go_num, rfl, by omega, by omega, by omega, hd2, HB7.out.fr (Fr.of_below F8.out) (fun _ _ _ h => h), HE7.out.below F8.out HE7.out.lt, D7.out.trans (F8.out.mono D7.out.size)⟩
                case measure => simp [intOf]; omega
              · have qO := OpenC HBV.out (by omega)
                go_wp2_with fail
                refine Calls.mono qO ?_
                clear qO
                rintro e w6 ⟨v6, rfl, HO6, F6⟩
                obtain ⟨A6, c6, rfl, hc6⟩ := own_form HO6.out
                clear hc6
                go_wp2
                go_roundw
                case rel => exact ⟨k + 1, v2, os2, ids2, by go_num, rfl, by omega, by omega, hl2, hd2, HBV.out.fr (Fr.of_below F6.out) (fun _ _ _ h => h), HEV.out.below F6.out HEV.out.lt, DV.out.trans (F6.out.mono DV.out.size)⟩
                case measure => simp [intOf]; omega
          · have qO := OpenC HBV.out (by omega)
            go_wp2_with fail
            refine Calls.mono qO ?_
            clear qO
            rintro e w6 ⟨v6, rfl, HO6, F6⟩
            obtain ⟨A6, c6, rfl, hc6⟩ := own_form HO6.out
            clear hc6
            go_wp2
            go_roundw
            case rel => exact ⟨k + 1, v2, os2, ids2, by go_num, rfl, by omega, by omega, hl2, hd2, HBV.out.fr (Fr.of_below F6.out) (fun _ _ _ h => h), HEV.out.below F6.out HEV.out.lt, DV.out.trans (F6.out.mono DV.out.size)⟩
            case measure => simp [intOf]; omega

      · by_cases h16 : 16 ≤ os.length
        · have qA := AddFull (c := 1) (id := xn) HB1.out hid HL1.out (Nat.le_refl _) (by simp) (Nat.le_refl _) ok1 right1 hmem (by omega) (by omega) (.inl h16)
          clear ok1 right1
          go_wp2_with fail
          refine Calls.mono qA ?_
          clear qA
          rintro e w5 ⟨rfl, F5⟩
          have D5 := Lib.hid (HF1.out.trans (F5.out.mono HF1.out.size))
          have HE5 := Lib.hid (HE1.out.below F5.out HE1.out.lt)
          obtain ⟨os2, hos2⟩ : ∃ os2, os2 = os := ⟨_, rfl⟩
          obtain ⟨ids2, hids2⟩ : ∃ ids2, ids2 = ids := ⟨_, rfl⟩
          obtain ⟨v2, hv2⟩ : ∃ v2, v2 = v := ⟨_, rfl⟩
          have HB5 : Hid (Bk B0 b g v2 os2 ids2 w5) := Lib.hid (by rw [hos2, hids2, hv2]; exact HB1.out.fr (Fr.of_below F5.out) (fun _ _ _ h => h))
          have HEV : Hid (Blk w5 pe 58 (evA ids2)) := Lib.hid (by rw [hids2]; exact HE5.out)
          have DV := D5
          have hl2 : os2.length ≤ 16 := by rw [hos2]; exact hos
          have hd2 : ids2.length ≤ k + 1 := by rw [hids2]; omega
          have he5 : w5.cell? ⟨pe, xn, none⟩ = _ := (HE5.out.cell xn).trans (evA_get ids xn hxn)
          have he5f := HE5.out.frozen xn
          rw [show decide ((xn : Int) ∈ ids) = false by simp [hmem]] at he5
          have hcell := HAD.out w5 D5.out
          clear D5 HE5 HB1 HE1 HF1 HL1
          go_upto_region 22 with (fail)
          rw [show os.length = os2.length by rw [hos2]]
          clear hos2 hids2 hv2 he5 he5f hcell
          have HBV := HB5
          clear HB5
          generalize w5 = wq at *
          by_cases hz1 : k < z.length
          · have hzc := HZ.out k z[k] (List.getElem?_eq_getElem hz1)
            obtain ⟨zd, rfl, hzb, -⟩ := hzc
            have hzc : wq.cell? (zd.add k) = some (.bool z[k]) := by
              obtain ⟨zd', e', _, hc'⟩ := (RowOf.below HZ.out DV.out) k z[k] (List.getElem?_eq_getElem hz1)
              rw [Option.some.inj e']
              simpa using hc' 0 _ rfl
            clear hzb
            generalize z[k] = zb at *
            cases zb
            · have qO := OpenC HBV.out (by omega)
              go_wp2_with fail
              refine Calls.mono qO ?_
              clear qO
              rintro e w6 ⟨v6, rfl, HO6, F6⟩
              obtain ⟨A6, c6, rfl, hc6⟩ := own_form HO6.out
              clear hc6
              go_wp2
              go_roundw
              case rel => exact ⟨k + 1, v2, os2, ids2, by go_num, rfl, by omega, by omega, hl2, hd2, HBV.out.fr (Fr.of_below F6.out) (fun _ _ _ h => h), HEV.out.below F6.out HEV.out.lt, DV.out.trans (F6.out.mono DV.out.size)⟩
              case measure => simp [intOf]; omega
            · by_cases ho : 0 < os2.length
              · obtain ⟨m, hm⟩ : ∃ m, m = k % os2.length := ⟨_, rfl⟩
                have hml : m < os2.length := by rw [hm]; exact Nat.mod_lt _ ho
                have hmod : (k : Int) % (os2.length : Int) = (m : Int) := by rw [hm]; simp
                have hnz : (os2.length : Int) ≠ 0 := by omega
                clear hm
                have qO := OpenC HBV.out (by omega)
                go_wp2_with fail
                refine Calls.mono qO ?_
                clear qO
                rintro e w6 ⟨v6, rfl, HO6, F6⟩
                obtain ⟨g6, c6, rfl, -, -⟩ := HO6.out.form ho
                have hy : w6.cell? ⟨g6, m, none⟩ = some (.int .u32 (os2[m]).id) := (HO6.out.cellAt m (by omega)).trans (by simp [nums, hml])
                obtain ⟨j, hj⟩ := idxO_mem hml
                have hHB6 := HBV.out.fr (Fr.of_below F6.out) (fun _ _ _ h => h)
                generalize (os2[m]).id = y at *
                have qC := CloseC (k := j) hHB6 (by omega) hj
                have HB6v := Lib.hid hHB6
                have HIJ := Lib.hid hj
                clear hHB6 hj
                go_wp2_with fail
                refine Calls.mono qC ?_
                clear qC
                rintro e w7 ⟨rfl, v7, -, HB7, HF7⟩
                have D7 : Hid (Below w.heap.size w w7) := Lib.hid ((DV.out.trans (F6.out.mono DV.out.size)).trans (HF7.out.below (fun j _ e => by
                  have h1 := HB6v.out.low
                  rcases e with e | e
                  · omega
                  · have := (HB6v.out.row.lt j e).1; omega) (Nat.le_trans DV.out.size F6.out.size)))
                have HE6 := Lib.hid (HEV.out.below F6.out HEV.out.lt)
                have HE7 : Hid (Blk w7 pe 58 (evA ids2)) := Lib.hid (HE6.out.fr HF7.out (fun e => by
                  rcases e with e | e
                  · exact Blk.ne_ HE6.out HB6v.out.blk (by decide) e
                  · exact own_blk_ne HB6v.out.row HE6.out (by decide) e))
                obtain ⟨os3, hos3⟩ : ∃ os3, os3 = os2.eraseIdx j := ⟨_, rfl⟩
                obtain ⟨hjl, -⟩ := idxO_some HIJ.out
                have hlen3 : (os2.length : Int) - 1 = (os3.length : Int) := by rw [hos3, List.length_eraseIdx, if_pos hjl]; omega
                rw [← hos3] at HB7
                clear hos3 hjl HB6v HIJ HE6 HF7 HO6 hy
                have qO := OpenC HB7.out (by omega)
                go_wp2_with fail
                refine Calls.mono qO ?_
                clear qO
                rintro e w8 ⟨v8, rfl, HO8, F8⟩
                obtain ⟨A8, c8', rfl, hc8⟩ := own_form HO8.out
                clear hc8
                go_wp2
                go_roundw
                case rel => exact ⟨k + 1, v7, os3, ids2, by go_num, rfl, by omega, by omega, by omega, hd2, HB7.out.fr (Fr.of_below F8.out) (fun _ _ _ h => h), HE7.out.below F8.out HE7.out.lt, D7.out.trans (F8.out.mono D7.out.size)⟩
                case measure => simp [intOf]; omega
              · have qO := OpenC HBV.out (by omega)
                go_wp2_with fail
                refine Calls.mono qO ?_
                clear qO
                rintro e w6 ⟨v6, rfl, HO6, F6⟩
                obtain ⟨A6, c6, rfl, hc6⟩ := own_form HO6.out
                clear hc6
                go_wp2
                go_roundw
                case rel => exact ⟨k + 1, v2, os2, ids2, by go_num, rfl, by omega, by omega, hl2, hd2, HBV.out.fr (Fr.of_below F6.out) (fun _ _ _ h => h), HEV.out.below F6.out HEV.out.lt, DV.out.trans (F6.out.mono DV.out.size)⟩
                case measure => simp [intOf]; omega
          · have qO := OpenC HBV.out (by omega)
            go_wp2_with fail
            refine Calls.mono qO ?_
            clear qO
            rintro e w6 ⟨v6, rfl, HO6, F6⟩
            obtain ⟨A6, c6, rfl, hc6⟩ := own_form HO6.out
            clear hc6
            go_wp2
            go_roundw
            case rel => exact ⟨k + 1, v2, os2, ids2, by go_num, rfl, by omega, by omega, hl2, hd2, HBV.out.fr (Fr.of_below F6.out) (fun _ _ _ h => h), HEV.out.below F6.out HEV.out.lt, DV.out.trans (F6.out.mono DV.out.size)⟩
            case measure => simp [intOf]; omega

        · have qA := AddC (c := 1) (id := xn) HB1.out hid HL1.out (Nat.le_refl _) ok1 right1 hmem (by omega) (by omega)
          clear ok1 right1
          go_wp2_with fail
          refine Calls.mono qA ?_
          clear qA
          rintro e w5 ⟨rfl, A', c', v2, -, HB5, HF5, -⟩
          have D5 : Hid (Below w.heap.size w w5) := Lib.hid (HF1.out.trans (HF5.out.below (fun j _ e => by
            have h1 := HB1.out.low
            rcases e with e | e | e
            · omega
            · omega
            · have := (HB1.out.row.lt j e).1; omega) HF1.out.size))
          have HE5 : Hid (Blk w5 pe 58 (evA ids)) := Lib.hid (HE1.out.fr HF5.out (fun e => by
            rcases e with e | e | e
            · exact Blk.ne_ HE1.out HB1.out.blk (by decide) e
            · exact ever_blk_ne HB1.out.ever HE1.out e
            · exact own_blk_ne HB1.out.row HE1.out (by decide) e))
          obtain ⟨os2, hos2⟩ : ∃ os2, os2 = os ++ [⟨(xn : Int), A', c', [⟨1, 1, 1⟩]⟩] := ⟨_, rfl⟩
          obtain ⟨ids2, hids2⟩ : ∃ ids2, ids2 = ids ++ [(xn : Int)] := ⟨_, rfl⟩
          rw [← hos2, ← hids2] at HB5
          have hW : Fr (fun j => j = pe) w5 (w5.setCell ⟨pe, xn, none⟩ (.bool true)) := (Fr.refl (fun j => j = pe) w5).setCell (p := ⟨pe, xn, none⟩) (fun _ => rfl) _
          have HEV : Hid (Blk (w5.setCell ⟨pe, xn, none⟩ (.bool true)) pe 58 (evA ids2)) := Lib.hid (by rw [hids2, ← evA_put]; exact HE5.out.set_ xn (.bool true))
          have HB6 : Hid (Bk B0 b g v2 os2 ids2 (w5.setCell ⟨pe, xn, none⟩ (.bool true))) := Lib.hid (HB5.out.far hW HE5.out)
          have DV : Hid (Below w.heap.size w (w5.setCell ⟨pe, xn, none⟩ (.bool true))) := Lib.hid (below_fr D5.out hW D5.out.size (fun j e => by omega))
          have hl2 : os2.length ≤ 16 := by rw [hos2, List.length_append, List.length_singleton]; omega
          have hd2 : ids2.length ≤ k + 1 := by rw [hids2, List.length_append, List.length_singleton]; omega
          have hlen : (os.length : Int) + 1 = (os2.length : Int) := by rw [hos2, List.length_append, List.length_singleton]; omega
          have HLEN := Lib.hid hlen
          have HB6d := HB6
          clear hlen hos2 hids2
          have he5 : w5.cell? ⟨pe, xn, none⟩ = _ := (HE5.out.cell xn).trans (evA_get ids xn hxn)
          have he5f := HE5.out.frozen xn
          rw [show decide ((xn : Int) ∈ ids) = false by simp [hmem]] at he5
          have hcell := HAD.out w5 D5.out
          clear D5 HE5 HB1 HE1 HF1 HL1
          go_upto_region 22 with (fail)
          rw [HLEN.out]
          clear HB6d HLEN he5 he5f HB5 HF5 hcell
          have HBV := HB6
          generalize (w5.setCell ⟨pe, xn, none⟩ (.bool true)) = wq at *
          clear HB6 hW w5
          by_cases hz1 : k < z.length
          · have hzc := HZ.out k z[k] (List.getElem?_eq_getElem hz1)
            obtain ⟨zd, rfl, hzb, -⟩ := hzc
            have hzc : wq.cell? (zd.add k) = some (.bool z[k]) := by
              obtain ⟨zd', e', _, hc'⟩ := (RowOf.below HZ.out DV.out) k z[k] (List.getElem?_eq_getElem hz1)
              rw [Option.some.inj e']
              simpa using hc' 0 _ rfl
            clear hzb
            generalize z[k] = zb at *
            cases zb
            · have qO := OpenC HBV.out (by omega)
              go_wp2_with fail
              refine Calls.mono qO ?_
              clear qO
              rintro e w6 ⟨v6, rfl, HO6, F6⟩
              obtain ⟨A6, c6, rfl, hc6⟩ := own_form HO6.out
              clear hc6
              go_wp2
              go_roundw
              case rel => exact ⟨k + 1, v2, os2, ids2, by go_num, rfl, by omega, by omega, hl2, hd2, HBV.out.fr (Fr.of_below F6.out) (fun _ _ _ h => h), HEV.out.below F6.out HEV.out.lt, DV.out.trans (F6.out.mono DV.out.size)⟩
              case measure => simp [intOf]; omega
            · by_cases ho : 0 < os2.length
              · obtain ⟨m, hm⟩ : ∃ m, m = k % os2.length := ⟨_, rfl⟩
                have hml : m < os2.length := by rw [hm]; exact Nat.mod_lt _ ho
                have hmod : (k : Int) % (os2.length : Int) = (m : Int) := by rw [hm]; simp
                have hnz : (os2.length : Int) ≠ 0 := by omega
                clear hm
                have qO := OpenC HBV.out (by omega)
                go_wp2_with fail
                refine Calls.mono qO ?_
                clear qO
                rintro e w6 ⟨v6, rfl, HO6, F6⟩
                obtain ⟨g6, c6, rfl, -, -⟩ := HO6.out.form ho
                have hy : w6.cell? ⟨g6, m, none⟩ = some (.int .u32 (os2[m]).id) := (HO6.out.cellAt m (by omega)).trans (by simp [nums, hml])
                obtain ⟨j, hj⟩ := idxO_mem hml
                have hHB6 := HBV.out.fr (Fr.of_below F6.out) (fun _ _ _ h => h)
                generalize (os2[m]).id = y at *
                have qC := CloseC (k := j) hHB6 (by omega) hj
                have HB6v := Lib.hid hHB6
                have HIJ := Lib.hid hj
                clear hHB6 hj
                go_wp2_with fail
                refine Calls.mono qC ?_
                clear qC
                rintro e w7 ⟨rfl, v7, -, HB7, HF7⟩
                have D7 : Hid (Below w.heap.size w w7) := Lib.hid ((DV.out.trans (F6.out.mono DV.out.size)).trans (HF7.out.below (fun j _ e => by
                  have h1 := HB6v.out.low
                  rcases e with e | e
                  · omega
                  · have := (HB6v.out.row.lt j e).1; omega) (Nat.le_trans DV.out.size F6.out.size)))
                have HE6 := Lib.hid (HEV.out.below F6.out HEV.out.lt)
                have HE7 : Hid (Blk w7 pe 58 (evA ids2)) := Lib.hid (HE6.out.fr HF7.out (fun e => by
                  rcases e with e | e
                  · exact Blk.ne_ HE6.out HB6v.out.blk (by decide) e
                  · exact own_blk_ne HB6v.out.row HE6.out (by decide) e))
                obtain ⟨os3, hos3⟩ : ∃ os3, os3 = os2.eraseIdx j := ⟨_, rfl⟩
                obtain ⟨hjl, -⟩ := idxO_some HIJ.out
                have hlen3 : (os2.length : Int) - 1 = (os3.length : Int) := by rw [hos3, List.length_eraseIdx, if_pos hjl]; omega
                rw [← hos3] at HB7
                clear hos3 hjl HB6v HIJ HE6 HF7 HO6 hy
                have qO := OpenC HB7.out (by omega)
                go_wp2_with fail
                refine Calls.mono qO ?_
                clear qO
                rintro e w8 ⟨v8, rfl, HO8, F8⟩
                obtain ⟨A8, c8', rfl, hc8⟩ := own_form HO8.out
                clear hc8
                go_wp2
                go_roundw
                case rel => exact ⟨k + 1, v7, os3, ids2, by go_num, rfl, by omega, by omega, by omega, hd2, HB7.out.fr (Fr.of_below F8.out) (fun _ _ _ h => h), HE7.out.below F8.out HE7.out.lt, D7.out.trans (F8.out.mono D7.out.size)⟩
                case measure => simp [intOf]; omega
              · have qO := OpenC HBV.out (by omega)
                go_wp2_with fail
                refine Calls.mono qO ?_
                clear qO
                rintro e w6 ⟨v6, rfl, HO6, F6⟩
                obtain ⟨A6, c6, rfl, hc6⟩ := own_form HO6.out
                clear hc6
                go_wp2
                go_roundw
                case rel => exact ⟨k + 1, v2, os2, ids2, by go_num, rfl, by omega, by omega, hl2, hd2, HBV.out.fr (Fr.of_below F6.out) (fun _ _ _ h => h), HEV.out.below F6.out HEV.out.lt, DV.out.trans (F6.out.mono DV.out.size)⟩
                case measure => simp [intOf]; omega
          · have qO := OpenC HBV.out (by omega)
            go_wp2_with fail
            refine Calls.mono qO ?_
            clear qO
            rintro e w6 ⟨v6, rfl, HO6, F6⟩
            obtain ⟨A6, c6, rfl, hc6⟩ := own_form HO6.out
            clear hc6
            go_wp2
            go_roundw
            case rel => exact ⟨k + 1, v2, os2, ids2, by go_num, rfl, by omega, by omega, hl2, hd2, HBV.out.fr (Fr.of_below F6.out) (fun _ _ _ h => h), HEV.out.below F6.out HEV.out.lt, DV.out.trans (F6.out.mono DV.out.size)⟩
            case measure => simp [intOf]; omega

    · rcases (by omega : (¬ k < l.length) ∨ (k < l.length ∧ ¬ k < 200)) with hlt | ⟨hlt, h200⟩
      all_goals
        go_wp2
        go_ret
        exact ⟨rfl, HF.out⟩
end Go.Proofs.YtigknfkkegccgaaDoor.K

/- OrderBookOrder: its words. -/
namespace Go.Proofs.YtigknfkkegccgaaDoor.K
open Go.RowKit
set_option linter.unusedVariables false
set_option linter.unusedSimpArgs false
abbrev c32 : Int → List Value := fun x => [.int .u32 x]
theorem nums32_flat (l : List Int) : nums .u32 l = l.flatMap c32 := by
  induction l with
  | nil => rfl
  | cons x l ih => rw [List.flatMap_cons, ← ih]; rfl
theorem idxO_nodup {os : List So} (h : (os.map So.id).Nodup) {m : Nat} (hm : m < os.length) : idxO (os[m]).id os = some m := by
  unfold idxO
  rw [List.findIdx?_eq_some_iff_getElem]
  refine ⟨hm, by simp, fun j hj => ?_⟩
  have := List.pairwise_iff_getElem.1 h j m (by simp; omega) (by simp; omega) hj
  simpa using this
theorem erase_map (os : List So) (m : Nat) : (os.eraseIdx m).map So.id = (os.map So.id).eraseIdx m := by
  rw [List.eraseIdx_eq_take_drop_succ, List.eraseIdx_eq_take_drop_succ, List.map_append, List.map_take, List.map_drop]
theorem nodup_erase {os : List So} (h : (os.map So.id).Nodup) (m : Nat) : ((os.eraseIdx m).map So.id).Nodup := by
  rw [erase_map]; exact h.sublist (List.eraseIdx_sublist _ _)
theorem idxO_gone {os : List So} (h : (os.map So.id).Nodup) {m : Nat} (hm : m < os.length) : idxO (os[m]).id (os.eraseIdx m) = none := by
  unfold idxO
  rw [List.findIdx?_eq_none_iff]
  intro o ho
  rw [List.eraseIdx_eq_take_drop_succ, List.mem_append] at ho
  have hp : ∀ (i j : Nat) (hi : i < os.length) (hj : j < os.length), i < j → (os[i]).id ≠ (os[j]).id := fun i j hi hj hij => by
    have := List.pairwise_iff_getElem.1 h i j (by simpa using hi) (by simpa using hj) hij
    rw [List.getElem_map, List.getElem_map] at this
    exact this
  have hne : ∀ j (hj : j < os.length), j ≠ m → (os[j]).id ≠ (os[m]).id := fun j hj hjm => by
    rcases Nat.lt_or_ge j m with a | a
    · exact hp j m hj hm a
    · exact fun e => hp m j hm hj (by omega) e.symm
  rcases ho with ho | ho
  · obtain ⟨j, hj, rfl⟩ := List.getElem_of_mem ho
    rw [List.length_take] at hj
    rw [List.getElem_take]
    simpa using hne j (by omega) (by omega)
  · obtain ⟨j, hj, rfl⟩ := List.getElem_of_mem ho
    rw [List.length_drop] at hj
    rw [List.getElem_drop]
    simpa using hne (m + 1 + j) (by omega) (by omega)
/-- A book stays behind a turn of a row of another kind. -/
theorem Bk.fr2 {B b g base n size : Nat} {t : TypeId} {v v2 : Value} {xs : List Value} {os : List So} {ids : List Int} {w w' : World} (h : Bk B b g v os ids w) (k : Fr (fun j => v2.ownBlock = some j) w w') (h2 : w.ownsRow base t size v2 n xs) (e1 : t ≠ 95) (e2 : t ≠ 25) (e3 : t ≠ 51) : Bk B b g v os ids w' :=
  ⟨h.blk.fr k (fun e => own_blk_ne h2 h.blk e1 e), own_fr h.row k (fun j e e' => own_ne h2 h.row e2 j e' e), fun o ho => (h.each o ho).fr k (fun j e e' => own_ne h2 (h.each o ho).1 e3 j e' e), h.ever.fr k (fun e => ever_own_ne h.ever h2 e), h.low⟩
theorem ownU_cap {w : World} {base g n c : Nat} {xs : List Value} (h : w.ownsRow base 22 1 (.slice (some ⟨g, 0, none⟩) n c) n xs) : n ≤ c ∧ c ≤ 9223372036854775807 := by
  rcases h.2 with ⟨e, _⟩ | ⟨g', cap, cur, e, _, _, h1, h2, _⟩
  · cases e
  · injection e with _ _ e
    subst e
    exact ⟨h1, h2⟩
/-- What the law puts into an order. -/
structure OkB (o : So) : Prop where
  one : ∃ it, o.ls = [⟨it, 5, 701 - o.id⟩]
  lo : 684 ≤ o.id
  hi : o.id ≤ 700
def lftB (k : Nat) : List Int := (List.range k).map (fun i : Nat => 700 - (i : Int))
theorem lftB_len (k : Nat) : (lftB k).length = k := by simp [lftB]
theorem lftB_succ (k : Nat) : lftB (k + 1) = lftB k ++ [700 - (k : Int)] := by simp [lftB, List.range_succ]
theorem lftB_new (k : Nat) : (700 - (k : Int)) ∉ lftB k := by
  intro h
  obtain ⟨i, hi, e⟩ := List.mem_map.1 h
  have := List.mem_range.1 hi
  omega
theorem lftB_nodup (k : Nat) : (lftB k).Nodup := by
  unfold lftB
  rw [List.Nodup, List.pairwise_map]
  exact List.Pairwise.imp (fun {a b} h => by omega) (List.nodup_range (n := k))
end Go.Proofs.YtigknfkkegccgaaDoor.K

/- Orders: Add and Close, whatever they answer. -/
namespace Go.Proofs.YtigknfkkegccgaaDoor.K
open Go.RowKit
set_option linter.unusedVariables false
set_option linter.unusedSimpArgs false
/-- What Add answers. -/
def addN (os : List So) (ids : List Int) (id : Int) (ls : List Ln) : Int := if rightO ls ≠ 0 then rightO ls else if id ∈ ids then 8 else if 16 ≤ os.length ∨ 1024 ≤ ids.length then 5 else 0
/-- What Add does with a book; H: the heap's size ahead of it. -/
def AddR (H : Nat) (os : List So) (ids : List Int) (id : Int) (ls : List Ln) (n : Int) (os' : List So) (ids' : List Int) : Prop :=
  n = addN os ids id ls ∧ ((n ≠ 0 ∧ os' = os ∧ ids' = ids) ∨ (n = 0 ∧ ∃ A' c', os' = os ++ [⟨id, A', c', ls⟩] ∧ ids' = ids ++ [id] ∧ ∀ k, (Value.slice A' ls.length c').ownBlock = some k → H ≤ k))
theorem AddAny {Bb b g c : Nat} {v : Value} {os : List So} {ids : List Int} {id : Int} {A : Option Addr} {ls : List Ln} {w : World} (h : Bk Bb b g v os ids w) (hid : 0 ≤ id ∧ id < 4294967296) (hr : RowOf cL 3 w w.heap.size A ls) (hl : ls.length ≤ 1000) (hc : ls.length ≤ c) (ho : ∀ l ∈ ls, l.ok) (hos : os.length ≤ 1000) (hids : ids.length ≤ 100000) :
    Calls Tryd.prog 20 #[.pointer (some ⟨b, 0, none⟩), .agg #[.int .u32 id, .slice A ls.length c]] w fun e w' => ∃ n v' os' ids', e = .returned (.int .i64 n) ∧ AddR w.heap.size os ids id ls n os' ids' ∧ Hid (Bk Bb b g v' os' ids' w') ∧ Hid (Fr (fun j => j = b ∨ j = g ∨ v.ownBlock = some j) w w') ∧ Hid (∀ k, v'.ownBlock = some k → v.ownBlock = some k ∨ w.heap.size ≤ k) := by
  by_cases hn : rightO ls = 0
  · by_cases hm : id ∈ ids
    · refine (AddTwice h hid hr (Nat.le_refl _) (by omega) hc ho hn hm).mono ?_
      rintro e w' ⟨rfl, F⟩
      exact ⟨_, v, os, ids, rfl, ⟨by simp [addN, hn, hm], .inl ⟨by decide, rfl, rfl⟩⟩, Lib.hid (h.fr (Fr.of_below F.out) (fun _ _ _ h => h)), Lib.hid ((Fr.of_below F.out).mono (fun _ _ h => h.elim)), Lib.hid (fun k e => .inl e)⟩
    · by_cases hf : 16 ≤ os.length ∨ 1024 ≤ ids.length
      · refine (AddFull h hid hr (Nat.le_refl _) (by omega) hc ho hn hm hos hids hf).mono ?_
        rintro e w' ⟨rfl, F⟩
        exact ⟨_, v, os, ids, rfl, ⟨by simp [addN, hn, hm, hf], .inl ⟨by decide, rfl, rfl⟩⟩, Lib.hid (h.fr (Fr.of_below F.out) (fun _ _ _ h => h)), Lib.hid ((Fr.of_below F.out).mono (fun _ _ h => h.elim)), Lib.hid (fun k e => .inl e)⟩
      · refine (AddC h hid hr hc ho hn hm (by omega) (by omega)).mono ?_
        rintro e w' ⟨rfl, A', c', v', HM, HB, HF, HV⟩
        exact ⟨_, v', _, _, rfl, ⟨by simp [addN, hn, hm, hf], .inr ⟨rfl, A', c', rfl, rfl, fun k e => (HM.out.1.lt k e).1⟩⟩, HB, HF, HV⟩
  · refine (AddNo hr (Nat.le_refl _) (by omega) hc ho hn).mono ?_
    rintro e w' ⟨rfl, F⟩
    exact ⟨_, v, os, ids, rfl, ⟨by simp [addN, hn], .inl ⟨hn, rfl, rfl⟩⟩, Lib.hid (h.fr (Fr.of_below F.out) (fun _ _ _ h => h)), Lib.hid ((Fr.of_below F.out).mono (fun _ _ h => h.elim)), Lib.hid (fun k e => .inl e)⟩
def closeN (os : List So) (id : Int) : Int := if idxO id os = none then 6 else 0
def closeO (os : List So) (id : Int) : List So := match idxO id os with
  | some k => os.eraseIdx k
  | none => os
theorem CloseAny {B b g : Nat} {v : Value} {os : List So} {ids : List Int} {id : Int} {w : World} (h : Bk B b g v os ids w) (hl : os.length ≤ 1000) :
    Calls Tryd.prog 22 #[.pointer (some ⟨b, 0, none⟩), .int .u32 id] w fun e w' => e = .returned (.int .i64 (closeN os id)) ∧ ∃ v', v'.ownBlock = v.ownBlock ∧ Hid (Bk B b g v' (closeO os id) ids w') ∧ Hid (Fr (fun j => j = b ∨ v.ownBlock = some j) w w') := by
  unfold closeN closeO
  cases hi : idxO id os with
  | none =>
    refine (CloseNo h hl hi).mono ?_
    rintro e w' ⟨rfl, F⟩
    exact ⟨rfl, v, rfl, Lib.hid (h.fr (Fr.of_below F.out) (fun _ _ _ h => h)), Lib.hid ((Fr.of_below F.out).mono (fun _ _ h => h.elim))⟩
  | some k => exact CloseC h hl hi
end Go.Proofs.YtigknfkkegccgaaDoor.K

/- Orders: steps, as they come in; what stays beside a book. -/
namespace Go.Proofs.YtigknfkkegccgaaDoor.K
open Go.RowKit
set_option linter.unusedVariables false
set_option linter.unusedSimpArgs false
/-- A step. -/
structure Sp where
  kind : Int
  oid : Int
  A : Option Addr
  c : Nat
  ls : List Ln
  id : Int
abbrev cS : Sp → List Value := fun s => [.int .i64 s.kind, .int .u32 s.oid, .slice s.A s.ls.length s.c, .int .u32 s.id]
structure SpOk (w : World) (s : Sp) : Prop where
  k : -9223372036854775808 ≤ s.kind ∧ s.kind < 9223372036854775808
  o : 0 ≤ s.oid ∧ s.oid < 4294967296
  i : 0 ≤ s.id ∧ s.id < 4294967296
  row : RowOf cL 3 w w.heap.size s.A s.ls
  cap : s.ls.length ≤ s.c
  ok : ∀ l ∈ s.ls, l.ok
theorem RowOf.sp {w : World} {B : Nat} {A : Option Addr} {l : List Sp} (h : RowOf cS 4 w B A l) {k : Nat} (hk : k < l.length) : ∃ ad, A = some ad ∧ ad.block < B ∧ w.cell? (ad.add (k * 4)) = some (.int .i64 (l[k]).kind) ∧
    w.cell? ⟨(ad.add (k * 4)).block, (ad.add (k * 4)).off + 1, none⟩ = some (.int .u32 (l[k]).oid) ∧ w.cell? ⟨(ad.add (k * 4)).block, (ad.add (k * 4)).off + 2, none⟩ = some (.slice (l[k]).A (l[k]).ls.length (l[k]).c) ∧ w.cell? ⟨(ad.add (k * 4)).block, (ad.add (k * 4)).off + 3, none⟩ = some (.int .u32 (l[k]).id) := by
  obtain ⟨ad, rfl, hb, hcc⟩ := h k (l[k]) (List.getElem?_eq_getElem hk)
  have c0 := hcc 0 _ rfl
  have c1 := hcc 1 _ rfl
  have c2 := hcc 2 _ rfl
  have c3 := hcc 3 _ rfl
  rw [add_field ad (k * 4) _ (by omega)] at c1 c2 c3
  exact ⟨ad, rfl, hb, c0, c1, c2, c3⟩
section
variable {B b g : Nat} {v : Value} {os : List So} {ids : List Int} {w w' : World}
theorem Bk.keepB {p : Nat} {t : TypeId} {cs : Array Value} (h : Bk B b g v os ids w) (k : Fr (fun j => j = b ∨ j = g ∨ v.ownBlock = some j) w w') (hp : Blk w p t cs) (hl : p < B) : Blk w' p t cs :=
  hp.fr k (fun e => by
    have := h.low
    rcases e with e | e | e
    · omega
    · omega
    · have := (h.row.lt p e).1; omega)
theorem Bk.keepL {B' c : Nat} {A : Option Addr} {l : List Ln} (h : Bk B b g v os ids w) (k : Fr (fun j => j = b ∨ j = g ∨ v.ownBlock = some j) w w') (hm : MadeL B' A c l w) : MadeL B' A c l w' :=
  hm.fr k (fun j e e' => by
    rcases e' with e' | e' | e'
    · exact own_blk_ne hm.1 h.blk (by decide) (e' ▸ e)
    · exact ever_own_ne h.ever hm.1 (e' ▸ e)
    · exact own_ne hm.1 h.row (by decide) j e e')
theorem Bk.keepD {B0 : Nat} {w0 : World} (h : Bk B b g v os ids w) (k : Fr (fun j => j = b ∨ j = g ∨ v.ownBlock = some j) w w') (hd : Below B0 w0 w) (h0 : B0 ≤ B) (h1 : B0 ≤ w0.heap.size) : Below B0 w0 w' :=
  hd.trans (k.below (fun j _ e => by
    have := h.low
    rcases e with e | e | e
    · omega
    · omega
    · have := (h.row.lt j e).1; omega) (Nat.le_trans h1 hd.size))
theorem Fr.cl {v' : Value} (k : Fr (fun j => j = b ∨ v.ownBlock = some j) w w') : Fr (fun j => j = b ∨ j = g ∨ v.ownBlock = some j) w w' := k.mono (fun j _ e => e.imp id (fun e => .inr e))
end
theorem closeO_cons {id id0 : Int} {A : Option Addr} {c : Nat} {ls : List Ln} {r : List So} (h : id ≠ id0) : ∃ r', closeO (⟨id0, A, c, ls⟩ :: r) id = ⟨id0, A, c, ls⟩ :: r' ∧ r'.length ≤ r.length := by
  unfold closeO
  cases hi : idxO id (⟨id0, A, c, ls⟩ :: r) with
  | none => exact ⟨r, rfl, Nat.le_refl _⟩
  | some k =>
    obtain ⟨hk, he⟩ := idxO_some hi
    cases k with
    | zero => exact absurd he.symm h
    | succ k => exact ⟨r.eraseIdx k, rfl, by rw [List.length_eraseIdx]; split <;> omega⟩
theorem idxO_first {id : Int} {A : Option Addr} {c : Nat} {ls : List Ln} {r : List So} : idxO id (⟨id, A, c, ls⟩ :: r) = some 0 := by
  unfold idxO
  rw [List.findIdx?_cons]
  simp
theorem addR_cons {H : Nat} {id0 id n : Int} {A : Option Addr} {c : Nat} {ls ms : List Ln} {r os' : List So} {ids ids' : List Int} (h : AddR H (⟨id0, A, c, ls⟩ :: r) ids id ms n os' ids') (hl : r.length + 1 ≤ 16) : (∃ r', os' = ⟨id0, A, c, ls⟩ :: r' ∧ r'.length + 1 ≤ 16) ∧ ids'.length ≤ ids.length + 1 ∧ ∀ x ∈ ids, x ∈ ids' := by
  obtain ⟨hn, h⟩ := h
  rcases h with ⟨_, rfl, rfl⟩ | ⟨h0, A', c', rfl, rfl, _⟩
  · exact ⟨⟨r, rfl, hl⟩, by omega, fun x h => h⟩
  · have : ¬ 16 ≤ r.length + 1 := fun h => by
      have : addN (⟨id0, A, c, ls⟩ :: r) ids id ms ≠ 0 := by
        unfold addN
        split
        · assumption
        · split
          · decide
          · rw [if_pos (.inl (by simpa using h))]; decide
      omega
    exact ⟨⟨r ++ [⟨id, A', c', ms⟩], rfl, by rw [List.length_append, List.length_singleton]; omega⟩, by rw [List.length_append, List.length_singleton]; omega, fun x h => List.mem_append_left _ h⟩
end Go.Proofs.YtigknfkkegccgaaDoor.K

/- Arguments opened: slices of steps. -/
namespace Go.Proofs.YtigknfkkegccgaaDoor.K
open Go.RowKit Go.ChangeShapes Go.WideShapes Go.Joins Go.Deep
set_option linter.unusedVariables false
set_option linter.constructorNameAsVariable false
set_option linter.unusedSimpArgs false
section
variable {H : Type} {enc : TypeId × Value → H} {P : Program} {w : World} {base : Nat} {spare : Nat → Bool} {held : Bool}
/-- A struct of 3 fields, of one, two and one cell. -/
theorem trod_fields121 {t : TypeId} {f0 f1 f2 : Field} {fuel : Nat} {cs : List Value} {x : DataW H × List MemPlace} (hs : P.underlying t = some (.struct #[f0, f1, f2])) (h0 : f0.offset = 0 ∧ P.cellsOf f0.type = 1) (h1 : f1.offset = 1 ∧ P.cellsOf f1.type = 2) (h2 : f2.offset = 3 ∧ P.cellsOf f2.type = 1) (hC : P.cellsOf t = 4)
    (h : DataW.trod enc P w base spare held fuel t cs = some x) :
    ∃ (v0 v1 v2 v3 : Value) (y0 y1 y2 : DataW H × List MemPlace) (n : Nat), cs = [v0, v1, v2, v3] ∧ DataW.trod enc P w base spare held n f0.type [v0] = some y0 ∧ DataW.trod enc P w base spare held n f1.type [v1, v2] = some y1 ∧ DataW.trod enc P w base spare held n f2.type [v3] = some y2 := by
  obtain ⟨xs, n, _, hx, hcl, hlen, hg⟩ := DataW.trod_struct hs h
  rw [hC] at hcl
  match cs, hcl with
  | [c0, c1, c2, c3], _ =>
    match xs, hlen with
    | [y0, y1, y2], _ => exact ⟨c0, c1, c2, c3, y0, y1, y2, n, rfl, by simpa [h0.1, h0.2] using hg 0 f0 rfl, by simpa [h1.1, h1.2] using hg 1 f1 rfl, by simpa [h2.1, h2.2] using hg 2 f2 rfl⟩
end
section
variable {H : Type} {enc : TypeId × Value → H} {w : World} {base : Nat} {spare : Nat → Bool} {held : Bool}
set_option maxRecDepth 10000 in
theorem dec_step : Dec enc Tryd.prog w base spare held 48 cS (SpOk w) := by
  intro n cs y h
  have hs := Tryd.underlying48
  have hc : Tryd.prog.cellsOf 48 = 4 := by kernel_rfl
  have g0 : Tryd.prog.cellsOf 3 = 1 := by kernel_rfl
  have g1 : Tryd.prog.cellsOf 25 = 2 := by kernel_rfl
  have g2 : Tryd.prog.cellsOf 22 = 1 := by kernel_rfl
  have ht := trod_fields121 hs ⟨rfl, g0⟩ ⟨rfl, g1⟩ ⟨rfl, g2⟩ hc h
  obtain ⟨v0, v1, v2, v3, y0, y1, y2, m, hcs, t0, t1, t2⟩ := ht
  subst hcs
  obtain ⟨a, h1, _, h2⟩ := DataW.trod_int Tryd.underlying3 t0
  obtain ⟨i, h3, _, h4⟩ := DataW.trod_int Tryd.underlying22 t2
  injection h1 with h1
  injection h3 with h3
  subst h1 h3
  obtain ⟨id, ls, A, c, rfl, rfl, q1, q2, q3, q4⟩ := dec_ord t1
  have b2 := bounds_i64 h2
  have b4 := bounds_u32 h4
  exact ⟨⟨a, id, A, c, ls, i⟩, rfl, ⟨by simp only; omega, q1, by simp only; omega, q2, q3, q4⟩⟩
end
end Go.Proofs.YtigknfkkegccgaaDoor.K

/- Orders: lines that are right together, one of which is another one: in plain Lean. -/
namespace Go.Proofs.YtigknfkkegccgaaDoor.K
set_option linter.unusedVariables false
set_option linter.unusedSimpArgs false
/-- The error of the k-th of lines that are told by their places. -/
def errAt (f : Nat → Ln) (k : Nat) : Int := lineF ((List.range k).map f) (f k)
theorem rightL_map (f : Nat → Ln) (E : Int) (n : Nat) (h : ∀ k, k < n → errAt f k = 0 ∨ errAt f k = E) :
    ∀ m k, k + m = n → ((∀ j, k ≤ j → j < n → errAt f j = 0) → rightL ((List.range k).map f) ((List.range' k m).map f) = 0) ∧ ((∃ j, k ≤ j ∧ j < n ∧ errAt f j ≠ 0) → rightL ((List.range k).map f) ((List.range' k m).map f) = E) := by
  intro m
  induction m with
  | zero =>
    intro k hk
    exact ⟨fun _ => rfl, fun ⟨j, h1, h2, _⟩ => by omega⟩
  | succ m ih =>
    intro k hk
    have hk1 := ih (k + 1) (by omega)
    have hs : (List.range k).map f ++ [f k] = (List.range (k + 1)).map f := by rw [List.range_succ, List.map_append]; rfl
    have hu : rightL ((List.range k).map f) ((List.range' k (m + 1)).map f) = if errAt f k = 0 then rightL ((List.range (k + 1)).map f) ((List.range' (k + 1) m).map f) else errAt f k := by
      rw [List.range'_succ, List.map_cons]
      conv => lhs; unfold rightL
      rw [hs]
      rfl
    rw [hu]
    refine ⟨fun h0 => ?_, fun ⟨j, h1, h2, h3⟩ => ?_⟩
    · rw [if_pos (h0 k (Nat.le_refl _) (by omega))]
      exact hk1.1 (fun j a b => h0 j (by omega) b)
    · by_cases e : errAt f k = 0
      · rw [if_pos e]
        refine hk1.2 ⟨j, ?_, h2, h3⟩
        rcases Nat.lt_or_ge k j with a | a
        · exact a
        · have : j = k := by omega
          subst this; exact absurd e h3
      · rw [if_neg e]
        exact (h k (by omega)).resolve_left e
theorem rightO_map (f : Nat → Ln) (E : Int) (n : Nat) (h1 : 1 ≤ n) (h8 : n ≤ 8) (h : ∀ k, k < n → errAt f k = 0 ∨ errAt f k = E) :
    ((∀ j, j < n → errAt f j = 0) → rightO ((List.range n).map f) = 0) ∧ ((∃ j, j < n ∧ errAt f j ≠ 0) → rightO ((List.range n).map f) = E) := by
  unfold rightO
  rw [List.length_map, List.length_range, if_neg (by omega), if_neg (by omega)]
  have := rightL_map f E n h n 0 (by omega)
  rw [← List.range_eq_range'] at this
  exact ⟨fun h0 => this.1 (fun j _ b => h0 j b), fun ⟨j, a, b⟩ => this.2 ⟨j, by omega, a, b⟩⟩
theorem any_map (f : Nat → Ln) (k : Nat) (l : Ln) : ((List.range k).map f).any (sameL l) = true ↔ ∃ j, j < k ∧ ((f j).item = l.item ∨ (f j).loc = l.loc) := by
  rw [List.any_eq_true]
  constructor
  · rintro ⟨x, hx, h⟩
    obtain ⟨j, hj, rfl⟩ := List.mem_map.1 hx
    exact ⟨j, List.mem_range.1 hj, by simpa [sameL] using h⟩
  · rintro ⟨j, hj, h⟩
    exact ⟨f j, List.mem_map.2 ⟨j, List.mem_range.2 hj, rfl⟩, by simpa [sameL] using h⟩
theorem errAt_eq (f : Nat → Ln) (k : Nat) : (64 ≤ (f k).loc ∧ errAt f k = 1) ∨ ((f k).loc < 64 ∧ ((f k).qty < 1 ∨ 9999 < (f k).qty) ∧ errAt f k = 10) ∨
    ((f k).loc < 64 ∧ 1 ≤ (f k).qty ∧ (f k).qty ≤ 9999 ∧ (((∃ j, j < k ∧ ((f j).item = (f k).item ∨ (f j).loc = (f k).loc)) ∧ errAt f k = 8) ∨ ((∀ j, j < k → (f j).item ≠ (f k).item ∧ (f j).loc ≠ (f k).loc) ∧ errAt f k = 0))) := by
  unfold errAt lineF
  by_cases h1 : 64 ≤ (f k).loc
  · exact .inl ⟨h1, by rw [if_pos h1]⟩
  · rw [if_neg h1]
    by_cases h2 : (f k).qty < 1 ∨ 9999 < (f k).qty
    · exact .inr (.inl ⟨by omega, h2, by rw [if_pos h2]⟩)
    · rw [if_neg h2]
      refine .inr (.inr ⟨by omega, by omega, by omega, ?_⟩)
      by_cases h3 : ∃ j, j < k ∧ ((f j).item = (f k).item ∨ (f j).loc = (f k).loc)
      · exact .inl ⟨h3, by rw [if_pos ((any_map f k (f k)).2 h3)]⟩
      · refine .inr ⟨fun j hj => ⟨fun e => h3 ⟨j, hj, .inl e⟩, fun e => h3 ⟨j, hj, .inr e⟩⟩, ?_⟩
        rw [if_neg (fun e => h3 ((any_map f k (f k)).1 e))]
def baseL (i : Nat) : Ln := ⟨1000 + i, i, 1 + i⟩
def linesL (n : Nat) : List Ln := (List.range n).map baseL
theorem linesL_len (n : Nat) : (linesL n).length = n := by simp [linesL]
theorem linesL_succ (n : Nat) : linesL (n + 1) = linesL n ++ [baseL n] := by simp [linesL, List.range_succ]
theorem linesL_get (n k : Nat) (h : k < (linesL n).length) : (linesL n)[k] = baseL k := by simp [linesL]
theorem linesL_set (n k : Nat) (x : Ln) : (linesL n).set k x = (List.range n).map (fun i => if i = k then x else baseL i) := by
  apply List.ext_getElem?
  intro i
  rw [List.getElem?_set, linesL, List.getElem?_map, List.getElem?_map, List.length_map, List.length_range]
  by_cases hi : i < n
  · rw [List.getElem?_range hi]
    by_cases e : k = i
    · subst e; simp [hi]
    · rw [if_neg e]; simp [Ne.symm e]
  · rw [List.getElem?_eq_none (by simp; omega)]
    by_cases e : k = i
    · subst e; simp [hi]
    · rw [if_neg e]; rfl
theorem right_base {n : Nat} (h1 : 1 ≤ n) (h8 : n ≤ 8) : rightO (linesL n) = 0 := by
  have h : ∀ k, k < n → errAt baseL k = 0 := fun k hk => by
    rcases errAt_eq baseL k with ⟨a, _⟩ | ⟨_, a, _⟩ | ⟨_, _, _, ⟨⟨j, hj, a⟩, _⟩ | ⟨_, e⟩⟩
    · simp only [baseL] at a; omega
    · simp only [baseL] at a; omega
    · simp only [baseL] at a; omega
    · exact e
  exact (rightO_map baseL 0 n h1 h8 (fun k hk => .inl (h k hk))).1 h
theorem right_full {n : Nat} (h8 : 8 < n) : rightO (linesL n) = 5 := by
  unfold rightO
  rw [linesL_len, if_neg (by omega), if_pos h8]
/-- Another quantity. -/
theorem right_qty {n k : Nat} {q : Int} (hk : k < n) (h8 : n ≤ 8) : (1 ≤ q ∧ q ≤ 9999 ∧ rightO ((linesL n).set k ⟨1000 + k, k, q⟩) = 0) ∨ ((q < 1 ∨ 9999 < q) ∧ rightO ((linesL n).set k ⟨1000 + k, k, q⟩) = 10) := by
  rw [linesL_set]
  have hn : ∀ i, i < n → i ≠ k → errAt (fun i => if i = k then (⟨1000 + k, k, q⟩ : Ln) else baseL i) i = 0 := fun i hi hik => by
    rcases errAt_eq (fun i => if i = k then (⟨1000 + k, k, q⟩ : Ln) else baseL i) i with ⟨a, _⟩ | ⟨_, a, _⟩ | ⟨_, _, _, ⟨⟨j, hj, a⟩, _⟩ | ⟨_, e⟩⟩
    · simp only [if_neg hik, baseL] at a; omega
    · simp only [if_neg hik, baseL] at a; omega
    · simp only [if_neg hik] at a
      by_cases e : j = k
      · simp only [if_pos e, baseL] at a; omega
      · simp only [if_neg e, baseL] at a; omega
    · exact e
  have hk2 : (1 ≤ q ∧ q ≤ 9999 ∧ errAt (fun i => if i = k then (⟨1000 + k, k, q⟩ : Ln) else baseL i) k = 0) ∨ ((q < 1 ∨ 9999 < q) ∧ errAt (fun i => if i = k then (⟨1000 + k, k, q⟩ : Ln) else baseL i) k = 10) := by
    rcases errAt_eq (fun i => if i = k then (⟨1000 + k, k, q⟩ : Ln) else baseL i) k with ⟨a, _⟩ | ⟨_, a, e⟩ | ⟨_, a, b, ⟨⟨j, hj, c⟩, _⟩ | ⟨_, e⟩⟩
    · simp only [if_true] at a; omega
    · simp only [if_true] at a; exact .inr ⟨a, e⟩
    · simp only [if_true, if_neg (by omega : ¬ j = k), baseL] at c; omega
    · simp only [if_true] at a b; exact .inl ⟨a, b, e⟩
  have hr := rightO_map (fun i => if i = k then (⟨1000 + k, k, q⟩ : Ln) else baseL i) 10 n (by omega) h8 (fun i hi => by
    by_cases e : i = k
    · subst e; rcases hk2 with ⟨_, _, e⟩ | ⟨_, e⟩
      · exact .inl e
      · exact .inr e
    · exact .inl (hn i hi e))
  rcases hk2 with ⟨a, b, e⟩ | ⟨a, e⟩
  · exact .inl ⟨a, b, hr.1 (fun j hj => by
      by_cases e' : j = k
      · subst e'; exact e
      · exact hn j hj e')⟩
  · exact .inr ⟨a, hr.2 ⟨k, hk, by rw [e]; decide⟩⟩
/-- Another location. -/
theorem right_loc {n k : Nat} {x : Int} (hk : k < n) (h8 : n ≤ 8) (hx : 0 ≤ x) : (64 ≤ x ∧ rightO ((linesL n).set k ⟨1000 + k, x, 1 + k⟩) = 1) ∨ (x < 64 ∧ x < n ∧ x ≠ k ∧ rightO ((linesL n).set k ⟨1000 + k, x, 1 + k⟩) = 8) ∨ (x < 64 ∧ (x = k ∨ n ≤ x) ∧ rightO ((linesL n).set k ⟨1000 + k, x, 1 + k⟩) = 0) := by
  rw [linesL_set]
  generalize hf : (fun i => if i = k then (⟨1000 + k, x, 1 + k⟩ : Ln) else baseL i) = f
  have fk : f k = ⟨1000 + k, x, 1 + k⟩ := by rw [← hf]; simp
  have fn : ∀ i, i ≠ k → f i = baseL i := fun i hi => by rw [← hf]; simp [hi]
  by_cases h64 : 64 ≤ x
  · refine .inl ⟨h64, (rightO_map f 1 n (by omega) h8 (fun i hi => ?_)).2 ⟨k, hk, ?_⟩⟩
    · by_cases e : i = k
      · subst e
        rcases errAt_eq f i with ⟨_, e⟩ | ⟨a, _⟩ | ⟨a, _⟩
        · exact .inr e
        · rw [fk] at a; simp only at a; omega
        · rw [fk] at a; simp only at a; omega
      · rcases errAt_eq f i with ⟨a, _⟩ | ⟨_, a, _⟩ | ⟨_, _, _, ⟨⟨j, hj, a⟩, _⟩ | ⟨_, e⟩⟩
        · rw [fn i e] at a; simp only [baseL] at a; omega
        · rw [fn i e] at a; simp only [baseL] at a; omega
        · rw [fn i e] at a
          by_cases e' : j = k
          · subst e'; rw [fk] at a; simp only [baseL] at a; omega
          · rw [fn j e'] at a; simp only [baseL] at a; omega
        · exact .inl e
    · rcases errAt_eq f k with ⟨_, e⟩ | ⟨a, _⟩ | ⟨a, _⟩
      · rw [e]; decide
      · rw [fk] at a; simp only at a; omega
      · rw [fk] at a; simp only at a; omega
  · have hb : ∀ i, i < n → errAt f i = 0 ∨ errAt f i = 8 := fun i hi => by
      by_cases e : i = k
      · subst e
        rcases errAt_eq f i with ⟨a, _⟩ | ⟨_, a, _⟩ | ⟨_, _, _, ⟨_, e⟩ | ⟨_, e⟩⟩
        · rw [fk] at a; simp only at a; omega
        · rw [fk] at a; simp only at a; omega
        · exact .inr e
        · exact .inl e
      · rcases errAt_eq f i with ⟨a, _⟩ | ⟨_, a, _⟩ | ⟨_, _, _, ⟨_, e⟩ | ⟨_, e⟩⟩
        · rw [fn i e] at a; simp only [baseL] at a; omega
        · rw [fn i e] at a; simp only [baseL] at a; omega
        · exact .inr e
        · exact .inl e
    have hr := rightO_map f 8 n (by omega) h8 hb
    by_cases ht : x < n ∧ x ≠ k
    · refine .inr (.inl ⟨by omega, ht.1, ht.2, hr.2 ?_⟩)
      obtain ⟨m, rfl⟩ : ∃ m : Nat, x = m := ⟨x.toNat, by omega⟩
      rcases Nat.lt_or_ge m k with hmk | hmk
      · refine ⟨k, hk, fun e0 => ?_⟩
        rcases errAt_eq f k with ⟨_, e⟩ | ⟨_, _, e⟩ | ⟨_, _, _, ⟨_, e⟩ | ⟨a, _⟩⟩
        · rw [e] at e0; exact absurd e0 (by decide)
        · rw [e] at e0; exact absurd e0 (by decide)
        · rw [e] at e0; exact absurd e0 (by decide)
        · have := (a m hmk).2
          rw [fn m (by omega), fk] at this
          exact this rfl
      · refine ⟨m, by omega, fun e0 => ?_⟩
        rcases errAt_eq f m with ⟨_, e⟩ | ⟨_, _, e⟩ | ⟨_, _, _, ⟨_, e⟩ | ⟨a, _⟩⟩
        · rw [e] at e0; exact absurd e0 (by decide)
        · rw [e] at e0; exact absurd e0 (by decide)
        · rw [e] at e0; exact absurd e0 (by decide)
        · have := (a k (by omega)).2
          rw [fn m (by omega), fk] at this
          exact this rfl
    · refine .inr (.inr ⟨by omega, by omega, hr.1 (fun i hi => ?_)⟩)
      rcases errAt_eq f i with ⟨a, _⟩ | ⟨_, a, _⟩ | ⟨_, _, _, ⟨⟨j, hj, a⟩, _⟩ | ⟨_, e⟩⟩
      · by_cases e : i = k
        · subst e; rw [fk] at a; simp only at a; omega
        · rw [fn i e] at a; simp only [baseL] at a; omega
      · by_cases e : i = k
        · subst e; rw [fk] at a; simp only at a; omega
        · rw [fn i e] at a; simp only [baseL] at a; omega
      · by_cases e : i = k
        · subst e; rw [fk, fn j (by omega)] at a; simp only [baseL] at a; omega
        · rw [fn i e] at a
          by_cases e' : j = k
          · subst e'; rw [fk] at a; simp only [baseL] at a; omega
          · rw [fn j e'] at a; simp only [baseL] at a; omega
      · exact e
/-- Another item: that of another line. -/
theorem right_item {n k o : Nat} (hk : k < n) (ho : o < n) (h8 : n ≤ 8) : (k = o ∧ rightO ((linesL n).set k ⟨1000 + o, k, 1 + k⟩) = 0) ∨ (k ≠ o ∧ rightO ((linesL n).set k ⟨1000 + o, k, 1 + k⟩) = 8) := by
  rw [linesL_set]
  generalize hf : (fun i => if i = k then (⟨1000 + o, k, 1 + k⟩ : Ln) else baseL i) = f
  have fk : f k = ⟨1000 + o, k, 1 + k⟩ := by rw [← hf]; simp
  have fn : ∀ i, i ≠ k → f i = baseL i := fun i hi => by rw [← hf]; simp [hi]
  have hb : ∀ i, i < n → errAt f i = 0 ∨ errAt f i = 8 := fun i hi => by
    by_cases e : i = k
    · subst e
      rcases errAt_eq f i with ⟨a, _⟩ | ⟨_, a, _⟩ | ⟨_, _, _, ⟨_, e⟩ | ⟨_, e⟩⟩
      · rw [fk] at a; simp only at a; omega
      · rw [fk] at a; simp only at a; omega
      · exact .inr e
      · exact .inl e
    · rcases errAt_eq f i with ⟨a, _⟩ | ⟨_, a, _⟩ | ⟨_, _, _, ⟨_, e⟩ | ⟨_, e⟩⟩
      · rw [fn i e] at a; simp only [baseL] at a; omega
      · rw [fn i e] at a; simp only [baseL] at a; omega
      · exact .inr e
      · exact .inl e
  have hr := rightO_map f 8 n (by omega) h8 hb
  by_cases ht : k = o
  · refine .inl ⟨ht, hr.1 (fun i hi => ?_)⟩
    rcases errAt_eq f i with ⟨a, _⟩ | ⟨_, a, _⟩ | ⟨_, _, _, ⟨⟨j, hj, a⟩, _⟩ | ⟨_, e⟩⟩
    · by_cases e : i = k
      · subst e; rw [fk] at a; simp only at a; omega
      · rw [fn i e] at a; simp only [baseL] at a; omega
    · by_cases e : i = k
      · subst e; rw [fk] at a; simp only at a; omega
      · rw [fn i e] at a; simp only [baseL] at a; omega
    · by_cases e : i = k
      · subst e; rw [fk, fn j (by omega)] at a; simp only [baseL] at a; omega
      · rw [fn i e] at a
        by_cases e' : j = k
        · subst e'; rw [fk] at a; simp only [baseL] at a; omega
        · rw [fn j e'] at a; simp only [baseL] at a; omega
    · exact e
  · refine .inr ⟨ht, hr.2 ?_⟩
    rcases Nat.lt_or_ge o k with hmk | hmk
    · refine ⟨k, hk, fun e0 => ?_⟩
      rcases errAt_eq f k with ⟨_, e⟩ | ⟨_, _, e⟩ | ⟨_, _, _, ⟨_, e⟩ | ⟨a, _⟩⟩
      · rw [e] at e0; exact absurd e0 (by decide)
      · rw [e] at e0; exact absurd e0 (by decide)
      · rw [e] at e0; exact absurd e0 (by decide)
      · have := (a o hmk).1
        rw [fn o (by omega), fk] at this
        exact this rfl
    · refine ⟨o, ho, fun e0 => ?_⟩
      rcases errAt_eq f o with ⟨_, e⟩ | ⟨_, _, e⟩ | ⟨_, _, _, ⟨_, e⟩ | ⟨a, _⟩⟩
      · rw [e] at e0; exact absurd e0 (by decide)
      · rw [e] at e0; exact absurd e0 (by decide)
      · rw [e] at e0; exact absurd e0 (by decide)
      · have := (a k (by omega)).1
        rw [fn o (by omega), fk] at this
        exact this rfl
theorem linesL_ok (n : Nat) (h : n ≤ 10) : ∀ l ∈ linesL n, l.ok := by
  intro l hl
  obtain ⟨j, hj, rfl⟩ := List.mem_map.1 hl
  have := List.mem_range.1 hj
  exact ⟨by simp only [baseL]; omega, by simp only [baseL]; omega, by simp only [baseL]; omega⟩
theorem set_ok {ls : List Ln} {k : Nat} {x : Ln} (h : ∀ l ∈ ls, l.ok) (hx : x.ok) : ∀ l ∈ ls.set k x, l.ok := fun l hl => by
  rcases List.mem_or_eq_of_mem_set hl with h' | rfl
  · exact h l h'
  · exact hx
end Go.Proofs.YtigknfkkegccgaaDoor.K

/- The document's Right. -/
namespace Go.Proofs.YtigknfkkegccgaaDoor.K
open Go.RowKit
set_option linter.unusedVariables false
set_option linter.unusedSimpArgs false
attribute [local go_sem ↓] Go.wp_at_zero Go.wp_at_succ
set_option maxHeartbeats 4000000 in
set_option maxRecDepth 10000 in
theorem RightRC {A : Option Addr} {c : Nat} {id : Int} {ls : List Ln} {w : World} (hr : RowOf cL 3 w w.heap.size A ls) (hl : ls.length ≤ 140737488355328) (ho : ∀ l ∈ ls, l.ok) :
    Calls Tryd.prog 11 #[.agg #[.int .u32 id, .slice A ls.length c]] w fun e w' => e = .returned (.int .i64 (rightO ls)) ∧ Hid (Below w.heap.size w w') := by
  unfold rightO
  rcases (by omega : ls.length = 0 ∨ 8 < ls.length ∨ 1 ≤ ls.length ∧ ls.length ≤ 8) with h0 | h8 | ⟨h1, h8⟩
  · rw [if_pos h0]
    clear hr ho
    rw [h0]
    go_enter Tryd.func11, Tryd.ntmps11
    go_wp2
    go_ret
    exact ⟨rfl, Lib.hid ((Below.refl _ w).alloc (Nat.le_refl _) _)⟩
  · rw [if_neg (by omega), if_pos h8]
    clear hr ho
    go_enter Tryd.func11, Tryd.ntmps11
    go_wp2
    go_ret
    exact ⟨rfl, Lib.hid ((Below.refl _ w).alloc (Nat.le_refl _) _)⟩
  · rw [if_neg (by omega), if_neg (by omega)]
    have HR := Lib.hid hr
    have HO := Lib.hid ho
    clear hr ho
    go_enter Tryd.func11, Tryd.ntmps11
    go_wp2
    go_loopw [3] (fun i wr => ∃ k : Nat, i = .int .i64 k ∧ k ≤ ls.length ∧ rightL [] ls = rightL (ls.take k) (ls.drop k) ∧ Below w.heap.size w wr ∧ Blk wr w.heap.size 25 #[.int .u32 id, .slice A ls.length c]) (fun i _ => ls.length - (intOf i).toNat)
    case atStart => exact ⟨0, rfl, by omega, by simp, (Below.refl _ w).alloc (Nat.le_refl _) _, Blk.new _ _ _⟩
    case round =>
      obtain ⟨k, rfl, hk, hno, hf, hblk⟩ := hrel
      rename ((ls.length : Int) == 0) = false => hz
      clear hz
      have HN := Lib.hid hno
      have HF := Lib.hid hf
      have HBK := Lib.hid hblk
      have b1 := hblk.cell 1
      clear hno hf hblk
      by_cases hlt : k < ls.length
      · obtain ⟨ad, rfl, hb', c0, c1, c2⟩ := (RowOf.below HR.out HF.out).ln hlt
        have hsz := HF.out.size
        have HT := Lib.hid (rightL_take ls k hlt)
        have hok := HO.out _ (List.getElem_mem hlt)
        have HLT := Lib.hid hlt
        have HXE : Hid (∃ x, x = ls[k]) := Lib.hid ⟨_, rfl⟩
        generalize ls[k] = x at *
        obtain ⟨⟨o1, o2⟩, ⟨o3, o4⟩, o5, o6⟩ := hok
        obtain ⟨xi, xl, xq⟩ := x
        simp only at o1 o2 o3 o4 o5 o6 c0 c1 c2
        have hB : Below w.heap.size w (wr.alloc (.cells #[.int .u16 xi, .int .u16 xl, .int .i64 xq] 51)) := HF.out.alloc hsz _
        have hnb := Blk.new wr 51 #[.int .u16 xi, .int .u16 xl, .int .i64 xq]
        have n0 := hnb.cell 0
        have n1 := hnb.cell 1
        have n2 := hnb.cell 2
        have hbk' := HBK.out.alloc (.cells #[.int .u16 xi, .int .u16 xl, .int .i64 xq] 51)
        have HB := Lib.hid hB
        have HNB := Lib.hid hnb
        have HBK' := Lib.hid hbk'
        clear hB hnb hbk' hb'
        by_cases g1 : 64 ≤ xl
        · have hv : lineF (ls.take k) ⟨xi, xl, xq⟩ = 1 := by unfold lineF; rw [if_pos g1]
          rw [hv] at HT
          have hres : rightL [] ls = 1 := by rw [HN.out, HT.out]; rfl
          have HRES := Lib.hid hres
          clear hres hv
          go_wp2
          go_ret
          exact ⟨ret_int HRES.out.symm, HB⟩
        · rcases (by omega : xq < 1 ∨ 1 ≤ xq ∧ 9999 < xq ∨ 1 ≤ xq ∧ xq ≤ 9999) with g2 | ⟨g2, g3⟩ | ⟨g2, g3⟩
          · have hv : lineF (ls.take k) ⟨xi, xl, xq⟩ = 10 := by unfold lineF; rw [if_neg g1, if_pos (.inl g2)]
            rw [hv] at HT
            have hres : rightL [] ls = 10 := by rw [HN.out, HT.out]; rfl
            have HRES := Lib.hid hres
            clear hres hv
            go_wp2
            go_ret
            exact ⟨ret_int HRES.out.symm, HB⟩
          · have hv : lineF (ls.take k) ⟨xi, xl, xq⟩ = 10 := by unfold lineF; rw [if_neg g1, if_pos (.inr g3)]
            rw [hv] at HT
            have hres : rightL [] ls = 10 := by rw [HN.out, HT.out]; rfl
            have HRES := Lib.hid hres
            clear hres hv
            go_wp2
            go_ret
            exact ⟨ret_int HRES.out.symm, HB⟩
          · have hv : Hid (lineF (ls.take k) ⟨xi, xl, xq⟩ = if (ls.take k).any (sameL ⟨xi, xl, xq⟩) then 8 else 0) := Lib.hid (by unfold lineF; rw [if_neg g1, if_neg (by simp only; omega)])
            go_wp2
            go_loopw [5] (fun j wx => ∃ m : Nat, j = .int .i64 m ∧ m ≤ k ∧ (ls.take m).any (sameL ⟨xi, xl, xq⟩) = false ∧ Below w.heap.size w wx ∧ Blk wx wr.heap.size 51 #[.int .u16 xi, .int .u16 xl, .int .i64 xq] ∧ Blk wx w.heap.size 25 #[.int .u32 id, .slice (some ad) ls.length c]) (fun j _ => k - (intOf j).toNat)
            case atStart => exact ⟨0, rfl, by omega, by simp, HB.out, HNB.out, HBK'.out⟩
            case round =>
              clear HNB HBK' n0 n1 n2 HB
              obtain ⟨m, rfl, hm, hany, hfx, hnx, hbx⟩ := hrel
              have HANY := Lib.hid hany
              have HFX := Lib.hid hfx
              have HNX := Lib.hid hnx
              have HBX := Lib.hid hbx
              have n0 := hnx.cell 0
              have n1 := hnx.cell 1
              have y1 := hbx.cell 1
              clear hany hfx hnx hbx
              by_cases hmk : m < k
              · have hml : m < ls.length := by omega
                obtain ⟨bd, e, _, d0, d1, d2⟩ := (RowOf.below HR.out HFX.out).ln hml
                obtain rfl := Option.some.inj e
                have HTM : Hid (ls.take (m + 1) = ls.take m ++ [ls[m]]) := Lib.hid (List.take_succ_eq_append_getElem hml)
                have HMEM : Hid (ls[m] ∈ ls.take k) := Lib.hid (by
                  have h : m < (ls.take k).length := by rw [List.length_take]; omega
                  have := List.getElem_mem h
                  rwa [List.getElem_take] at this)
                have hyok := HO.out _ (List.getElem_mem hml)
                generalize ls[m] = y at *
                obtain ⟨yi, yl, yq⟩ := y
                simp only at d0 d1 d2
                clear hyok
                by_cases hi : yi = xi
                · subst hi
                  have hres : rightL [] ls = 8 := by
                    rw [HN.out, HT.out, hv.out, if_pos (List.any_eq_true.2 ⟨_, HMEM.out, by simp [sameL]⟩)]; rfl
                  have HRES := Lib.hid hres
                  clear hres
                  go_wp2_with fail
                  go_quiet (fail)
                  go_wp2
                  go_ret
                  exact ⟨ret_int HRES.out.symm, Lib.hid (below_drewN HFX.out _)⟩
                · have hib : (yi == xi) = false := by simpa using hi
                  have hid2 : decide (yi = xi) = false := by simpa using hi
                  by_cases hj : yl = xl
                  · subst hj
                    have hres : rightL [] ls = 8 := by
                      rw [HN.out, HT.out, hv.out, if_pos (List.any_eq_true.2 ⟨_, HMEM.out, by simp [sameL]⟩)]; rfl
                    have HRES := Lib.hid hres
                    clear hres hi
                    go_wp2_with fail
                    go_quiet (fail)
                    go_wp2
                    go_ret
                    exact ⟨ret_int HRES.out.symm, Lib.hid (below_drewN HFX.out _)⟩
                  · have hjb : (yl == xl) = false := by simpa using hj
                    have hjd : decide (yl = xl) = false := by simpa using hj
                    have HST : Hid (sameL ⟨xi, xl, xq⟩ ⟨yi, yl, yq⟩ = false) := Lib.hid (by simp [sameL, hi, hj])
                    clear hi hj
                    go_wp2_with fail
                    go_quiet (fail)
                    go_wp2
                    go_roundw
                    case rel => exact ⟨m + 1, by go_num, by omega, by rw [HTM.out, List.any_append, HANY.out]; simp [HST.out], below_drewN HFX.out _, HNX.out.drewN _, HBX.out.drewN _⟩
                    case measure => simp [intOf]; omega
              · obtain rfl : k = m := by omega
                go_wp2
                go_roundw
                case rel => exact ⟨k + 1, by go_num, by omega, by rw [HN.out, HT.out, hv.out, HANY.out]; rfl, HFX.out, HBX.out⟩
                case measure => simp [intOf]; omega
      · obtain rfl : k = ls.length := by omega
        have hend : rightL [] ls = 0 := by rw [HN.out, List.drop_length]; rfl
        go_wp2
        go_ret
        exact ⟨ret_int hend.symm, Lib.hid HF.out⟩
end Go.Proofs.YtigknfkkegccgaaDoor.K

/- The document's Book: what it is; find. -/
namespace Go.Proofs.YtigknfkkegccgaaDoor.K
open Go.RowKit
set_option linter.unusedVariables false
set_option linter.unusedSimpArgs false
attribute [local go_sem ↓] Go.wp_at_zero Go.wp_at_succ
/-- The document's book at r: all orders that were there, and which of them are open. -/
structure RBk (B r : Nat) (vL vO : Value) (os : List So) (fl : List Bool) (w : World) : Prop where
  blk : Blk w r 46 #[vL, vO]
  rowL : w.ownsRow B 25 2 vL os.length (os.flatMap cO)
  rowO : w.ownsRow B 4 1 vO fl.length (fl.flatMap cB)
  each : ∀ o ∈ os, MadeL B o.A o.c o.ls w
  low : B ≤ r
  len : fl.length = os.length
theorem RBk.fr {B r : Nat} {vL vO : Value} {os : List So} {fl : List Bool} {S : Nat → Prop} {w w' : World} (h : RBk B r vL vO os fl w) (k : Fr S w w') (hs : ∀ j, B ≤ j → j < w.heap.size → ¬ S j) : RBk B r vL vO os fl w' :=
  ⟨h.blk.fr k (hs r h.low h.blk.lt), own_fr h.rowL k (fun j e => hs j (h.rowL.lt j e).1 (h.rowL.lt j e).2), own_fr h.rowO k (fun j e => hs j (h.rowO.lt j e).1 (h.rowO.lt j e).2), fun o ho => (h.each o ho).fr k (fun j e => hs j ((h.each o ho).1.lt j e).1 ((h.each o ho).1.lt j e).2), h.low, h.len⟩
/-- The place of an order that is open. -/
def findR (id : Int) : List So → List Bool → Nat → Option Nat
  | o :: os, f :: fl, k => if o.id = id ∧ f = true then some k else findR id os fl (k + 1)
  | _, _, _ => none
def findI (id : Int) (os : List So) (fl : List Bool) : Int := match findR id os fl 0 with
  | some k => k
  | none => -1
theorem findR_step (id : Int) (os : List So) (fl : List Bool) (k : Nat) (h : k < os.length) (h2 : k < fl.length) : findR id (os.drop k) (fl.drop k) k = if (os[k]).id = id ∧ fl[k] = true then some k else findR id (os.drop (k + 1)) (fl.drop (k + 1)) (k + 1) := by
  rw [List.drop_eq_getElem_cons h, List.drop_eq_getElem_cons h2]
  conv => lhs; unfold findR
/-- A flag of a row, at its place. -/
theorem flag_at {w : World} {B n c : Nat} {A : Option Addr} {fl : List Bool} (h : w.ownsRow B 4 1 (.slice A n c) n (fl.flatMap cB)) {k : Nat} (hk : k < fl.length) (hn : k < n) : ∃ g, A = some ⟨g, 0, none⟩ ∧ w.cell? ⟨g, k, none⟩ = some (.bool fl[k]) := by
  obtain ⟨g, cap, hv, _, _⟩ := h.form (by omega)
  have hA : A = some ⟨g, 0, none⟩ := by injection hv
  subst hA
  refine ⟨g, rfl, (h.cellAt k (by omega)).trans ?_⟩
  have := flat_at (c := cB) (size := 1) (fun _ => rfl) fl k fl[k] (List.getElem?_eq_getElem hk) 0 _ rfl
  simpa using this
set_option maxHeartbeats 1000000 in
set_option maxRecDepth 10000 in
theorem findC {B r : Nat} {vL vO : Value} {os : List So} {fl : List Bool} {id : Int} {w : World} (h : RBk B r vL vO os fl w) (hl : os.length ≤ 100000) :
    Calls Tryd.prog 47 #[.pointer (some ⟨r, 0, none⟩), .int .u32 id] w fun e w' => e = .returned (.int .i64 (findI id os fl)) ∧ w' = w := by
  obtain ⟨LA, lc, rfl, hlc⟩ := own_form h.rowL
  obtain ⟨OA, oc, rfl, hoc⟩ := own_form h.rowO
  have c0 := h.blk.cell 0
  have c1 := h.blk.cell 1
  have hlen := h.len
  have HLEN := Lib.hid hlen
  have hr := row_own (c := cO) (fun _ => rfl) h.rowL
  have HR := Lib.hid hr
  have HO := Lib.hid h.rowO
  clear h hr hlen
  go_enter Tryd.func47, Tryd.ntmps47
  go_wp2
  go_loop [5] (fun i => ∃ k : Nat, i = .int .i64 k ∧ k ≤ os.length ∧ findR id os fl 0 = findR id (os.drop k) (fl.drop k) k) (fun i => os.length - (intOf i).toNat)
  case atStart => exact ⟨0, rfl, by omega, by simp⟩
  case round =>
    obtain ⟨k, rfl, hk, hf⟩ := hrel
    have HF := Lib.hid hf
    clear hf
    by_cases hlt : k < os.length
    · have hlt2 : k < fl.length := by rw [HLEN.out]; exact hlt
      obtain ⟨ad, rfl, _, d0, d1⟩ := HR.out.so hlt
      obtain ⟨g, rfl, f0⟩ := flag_at HO.out hlt2 hlt2
      have HS := Lib.hid (findR_step id os fl k hlt hlt2)
      clear d1
      generalize (os[k]).id = x at *
      generalize fl[k] = f at *
      by_cases hx : x = id
      · subst hx
        cases f
        · have HN : Hid (findR x os fl 0 = findR x (os.drop (k + 1)) (fl.drop (k + 1)) (k + 1)) := Lib.hid (by rw [HF.out, HS.out]; simp)
          go_wp2
          go_round
          case rel => exact ⟨k + 1, by go_num, by omega, HN.out⟩
          case measure => simp [intOf]; omega
        · have HN : Hid (findI x os fl = k) := Lib.hid (by unfold findI; rw [HF.out, HS.out]; simp)
          go_wp2
          go_ret
          exact ⟨ret_int HN.out.symm, rfl⟩
      · have hxb : (x == id) = false := by simpa using hx
        have HN : Hid (findR id os fl 0 = findR id (os.drop (k + 1)) (fl.drop (k + 1)) (k + 1)) := Lib.hid (by rw [HF.out, HS.out]; simp [hx])
        go_wp2
        go_round
        case rel => exact ⟨k + 1, by go_num, by omega, HN.out⟩
        case measure => simp [intOf]; omega
    · obtain rfl : k = os.length := by omega
      have HN : Hid (findI id os fl = -1) := Lib.hid (by unfold findI; rw [HF.out, List.drop_length]; rfl)
      go_wp2
      go_ret
      exact ⟨ret_int HN.out.symm, rfl⟩
end Go.Proofs.YtigknfkkegccgaaDoor.K

/- The document's Book: IDs. -/
namespace Go.Proofs.YtigknfkkegccgaaDoor.K
open Go.RowKit
set_option linter.unusedVariables false
set_option linter.unusedSimpArgs false
attribute [local go_sem ↓] Go.wp_at_zero Go.wp_at_succ
/-- The IDs of those that are open. -/
def idsR : List So → List Bool → List Int
  | o :: os, f :: fl => if f = true then o.id :: idsR os fl else idsR os fl
  | _, _ => []
theorem idsR_app : ∀ (os : List So) (fl : List Bool) (o : So) (f : Bool), os.length = fl.length → idsR (os ++ [o]) (fl ++ [f]) = idsR os fl ++ (if f = true then [o.id] else []) := by
  intro os
  induction os with
  | nil => intro fl o f h; cases fl with
    | nil => cases f <;> rfl
    | cons x l => simp at h
  | cons y os ih =>
    intro fl o f h
    cases fl with
    | nil => simp at h
    | cons x fl =>
      simp only [List.cons_append, idsR]
      rw [ih fl o f (by simpa using h)]
      cases x <;> simp
theorem idsR_len (os : List So) : ∀ (fl : List Bool), (idsR os fl).length ≤ os.length := by
  induction os with
  | nil => intro fl; cases fl <;> simp [idsR]
  | cons o os ih =>
    intro fl
    cases fl with
    | nil => simp [idsR]
    | cons f fl =>
      have := ih fl
      cases f <;> simp [idsR] <;> omega
set_option maxHeartbeats 2000000 in
set_option maxRecDepth 10000 in
theorem IDsC {B r : Nat} {vL vO : Value} {os : List So} {fl : List Bool} {w : World} (h : RBk B r vL vO os fl w) (hl : os.length ≤ 100000) :
    Calls Tryd.prog 27 #[.pointer (some ⟨r, 0, none⟩)] w fun e w' => ∃ v', e = .returned v' ∧ Hid (w'.ownsRow w.heap.size 22 1 v' (idsR os fl).length (nums .u32 (idsR os fl))) ∧ Hid (Below w.heap.size w w') := by
  obtain ⟨LA, lc, rfl, hlc⟩ := own_form h.rowL
  obtain ⟨OA, oc, rfl, hoc⟩ := own_form h.rowO
  have HLEN := Lib.hid h.len
  have HK := Lib.hid h
  clear h
  go_enter Tryd.func27, Tryd.ntmps27
  go_wp2
  go_loopw [3, 4] (fun a i wr => ∃ k : Nat, i = .int .i64 k ∧ k ≤ os.length ∧ wr.ownsRow w.heap.size 22 1 a (idsR (os.take k) (fl.take k)).length (nums .u32 (idsR (os.take k) (fl.take k))) ∧ Below w.heap.size w wr) (fun _ i _ => os.length - (intOf i).toNat)
  case atStart => exact ⟨0, rfl, by omega, by simpa [idsR, nums] using World.ownsRow_lit (base := w.heap.size) (e := 22) (size := 1) w #[] 0 (Nat.le_refl _) (by decide) rfl, (Below.refl _ w).alloc (Nat.le_refl _) _⟩
  case round =>
    obtain ⟨k, rfl, hk, hown, hf⟩ := hrel
    have HF := Lib.hid hf
    obtain ⟨VA, vc, rfl, hvc⟩ := own_form hown
    have HO := Lib.hid hown
    have hkb := HK.out.fr (Fr.of_below hf) (fun _ _ _ h => h)
    have c0 := hkb.blk.cell 0
    have c1 := hkb.blk.cell 1
    clear hown hf
    by_cases hlt : k < os.length
    · have hlt2 : k < fl.length := by rw [HLEN.out]; exact hlt
      obtain ⟨ad, rfl, _, d0, d1⟩ := (row_own (c := cO) (fun _ => rfl) hkb.rowL).so hlt
      obtain ⟨g, rfl, f0⟩ := flag_at hkb.rowO hlt2 hlt2
      have HS : Hid (idsR (os.take (k + 1)) (fl.take (k + 1)) = idsR (os.take k) (fl.take k) ++ (if fl[k] = true then [(os[k]).id] else [])) := Lib.hid (by
        rw [List.take_succ_eq_append_getElem hlt, List.take_succ_eq_append_getElem hlt2, idsR_app _ _ _ _ (by rw [List.length_take, List.length_take]; omega)])
      have hil := idsR_len (os.take k) (fl.take k)
      rw [List.length_take] at hil
      have hil2 : (idsR (os.take k) (fl.take k)).length ≤ 100000 := by omega
      clear d1 hkb hil
      generalize (os[k]).id = x at *
      generalize fl[k] = f at *
      generalize idsR (os.take k) (fl.take k) = L at *
      cases f
      · have HN : Hid (idsR (os.take (k + 1)) (fl.take (k + 1)) = L) := Lib.hid (by rw [HS.out]; simp)
        go_wp2
        go_roundw
        case rel => exact ⟨k + 1, by go_num, by omega, by rw [HN.out]; exact HO.out, HF.out⟩
        case measure => simp [intOf]; omega
      · have HN : Hid (idsR (os.take (k + 1)) (fl.take (k + 1)) = L ++ [x]) := Lib.hid (by rw [HS.out]; simp)
        go_wp2_with (at_builtin; go_loud (refine app1g rfl _ _ _ rfl 22 (.int .u32 0) 1 4 Tryd.underlying55 info_u32x rfl (by omega) (by omega) w.heap.size (wr.heap.size) rfl (.slice VA L.length vc) L.length _ [.int .u32 x] rfl rfl rfl (fun u hu => by simp at hu; subst hu; rfl) HO.out HF.out.size (by omega) ?_; intro v2 w2 h3 h4 h5; have H3 := Lib.hid h3; have H4 := Lib.hid h4; clear h3 h4 h5))
        go_wp2
        go_roundw
        case rel => exact ⟨k + 1, by go_num, by omega, by rw [HN.out, nums_append, List.length_append]; exact H3.out, below_fr HF.out H4.out HF.out.size (fun j e => (HO.out.lt j e).1)⟩
        case measure => simp [intOf]; omega
    · obtain rfl : k = os.length := by omega
      have HT : Hid (idsR (os.take os.length) (fl.take os.length) = idsR os fl) := Lib.hid (by rw [List.take_length, ← HLEN.out, List.take_length])
      clear hkb
      generalize idsR (os.take os.length) (fl.take os.length) = L at *
      have hLL := HT.out
      clear HT
      subst hLL
      go_wp2
      go_ret
      exact ⟨_, rfl, HO, HF⟩
end Go.Proofs.YtigknfkkegccgaaDoor.K

/- The document's Book: Close. -/
namespace Go.Proofs.YtigknfkkegccgaaDoor.K
open Go.RowKit
set_option linter.unusedVariables false
set_option linter.unusedSimpArgs false
attribute [local go_sem ↓] Go.wp_at_zero Go.wp_at_succ
theorem findR_lt {id : Int} : ∀ (os : List So) (fl : List Bool) (k j : Nat), findR id os fl k = some j → k ≤ j ∧ j < k + os.length ∧ j < k + fl.length := by
  intro os
  induction os with
  | nil => intro fl k j h; cases fl <;> simp [findR] at h
  | cons o os ih =>
    intro fl k j h
    cases fl with
    | nil => simp [findR] at h
    | cons f fl =>
      unfold findR at h
      split at h
      · obtain rfl := Option.some.inj h; simp
      · have := ih fl (k + 1) j h
        simp only [List.length_cons]; omega
set_option maxHeartbeats 1000000 in
set_option maxRecDepth 10000 in
theorem CloseRNo {B r : Nat} {vL vO : Value} {os : List So} {fl : List Bool} {id : Int} {w : World} (h : RBk B r vL vO os fl w) (hl : os.length ≤ 100000) (hf : findR id os fl 0 = none) :
    Calls Tryd.prog 21 #[.pointer (some ⟨r, 0, none⟩), .int .u32 id] w fun e w' => e = .returned (.int .i64 6) ∧ w' = w := by
  have HC := Lib.hid (findC (id := id) h hl)
  rw [show findI id os fl = -1 by unfold findI; rw [hf]] at HC
  clear h hf
  go_enter Tryd.func21, Tryd.ntmps21
  go_wp2_with fail
  refine Calls.mono HC.out ?_
  rintro e w1 ⟨rfl, rfl⟩
  go_wp2
  go_ret
  exact ⟨rfl, rfl⟩
set_option maxHeartbeats 1000000 in
set_option maxRecDepth 10000 in
theorem CloseRC {B r k : Nat} {vL vO : Value} {os : List So} {fl : List Bool} {id : Int} {w : World} (h : RBk B r vL vO os fl w) (hl : os.length ≤ 100000) (hf : findR id os fl 0 = some k) :
    Calls Tryd.prog 21 #[.pointer (some ⟨r, 0, none⟩), .int .u32 id] w fun e w' => e = .returned (.int .i64 0) ∧ Hid (RBk B r vL vO os (fl.set k false) w') ∧ Hid (Fr (fun j => vO.ownBlock = some j) w w') := by
  have HC := Lib.hid (findC (id := id) h hl)
  have hfi : findI id os fl = (k : Int) := by unfold findI; rw [hf]
  rw [hfi] at HC
  obtain ⟨_, hk1, hk2⟩ := findR_lt os fl 0 k hf
  have hk : k < fl.length := by omega
  obtain ⟨OA, oc, rfl, hoc⟩ := own_form h.rowO
  obtain ⟨g, rfl, f0⟩ := flag_at h.rowO hk hk
  have f1 := h.rowO.frozenAt k
  have c1 := h.blk.cell 1
  have hst := (h.rowO.stored k (.bool false)).1
  have hset : (fl.flatMap cB).set k (.bool false) = (fl.set k false).flatMap cB := by
    have := flat_set (c := cB) (size := 1) (fun _ => rfl) fl k false 0 (.bool false) hk (by decide) rfl
    simpa using this
  rw [hset] at hst
  have hF : Fr (fun j => (Value.slice (some ⟨g, 0, none⟩) fl.length oc).ownBlock = some j) w (w.setCell ⟨g, k, none⟩ (.bool false)) := (Fr.refl (fun j => (Value.slice (some ⟨g, 0, none⟩) fl.length oc).ownBlock = some j) w).setCell (p := ⟨g, k, none⟩) (fun _ => rfl) _
  have hres : RBk B r vL (.slice (some ⟨g, 0, none⟩) fl.length oc) os (fl.set k false) (w.setCell ⟨g, k, none⟩ (.bool false)) :=
    ⟨h.blk.fr hF (fun e => own_blk_ne h.rowO h.blk (by decide) e), own_fr h.rowL hF (fun j e e' => own_ne h.rowO h.rowL (by decide) j e' e), by rw [List.length_set]; exact hst, fun o ho => (h.each o ho).fr hF (fun j e e' => own_ne h.rowO (h.each o ho).1 (by decide) j e' e), h.low, by rw [List.length_set]; exact h.len⟩
  have HRES := Lib.hid hres
  have HF := Lib.hid hF
  clear h hf hst hset hF hres
  go_enter Tryd.func21, Tryd.ntmps21
  go_wp2_with fail
  refine Calls.mono HC.out ?_
  rintro e w1 ⟨rfl, rfl⟩
  go_wp2
  go_ret
  exact ⟨rfl, HRES, HF⟩
end Go.Proofs.YtigknfkkegccgaaDoor.K

/- The document's Book: Get. -/
namespace Go.Proofs.YtigknfkkegccgaaDoor.K
open Go.RowKit
set_option linter.unusedVariables false
set_option linter.unusedSimpArgs false
attribute [local go_sem ↓] Go.wp_at_zero Go.wp_at_succ
set_option maxHeartbeats 1000000 in
set_option maxRecDepth 10000 in
theorem GetRNo {B r : Nat} {vL vO : Value} {os : List So} {fl : List Bool} {id : Int} {w : World} (h : RBk B r vL vO os fl w) (hl : os.length ≤ 100000) (hf : findR id os fl 0 = none) :
    Calls Tryd.prog 25 #[.pointer (some ⟨r, 0, none⟩), .int .u32 id] w fun e w' => e = .returned (.tuple #[.agg #[.int .u32 0, .slice none 0 0], .bool false]) ∧ Hid (Below w.heap.size w w') := by
  have hb := h.fr ((Fr.refl (fun _ => False) w).alloc (.cells #[.int .u32 0, .slice none 0 0] 25)) (fun _ _ _ h => h)
  have HC := Lib.hid (findC (id := id) hb hl)
  rw [show findI id os fl = -1 by unfold findI; rw [hf]] at HC
  have HN := Lib.hid (Blk.new w 25 #[.int .u32 0, .slice none 0 0])
  have HB := Lib.hid ((Below.refl _ w).alloc (Nat.le_refl _) (.cells #[.int .u32 0, .slice none 0 0] 25))
  clear h hf hb
  go_enter Tryd.func25, Tryd.ntmps25
  go_wp2_with fail
  refine Calls.mono HC.out ?_
  rintro e w1 ⟨rfl, rfl⟩
  go_wp2
  refine bodyPost_ret_by (results_row_tmp rfl _ _ w.heap.size 25 _ (0, 0) _ rfl HN.out Tryd.underlying25 rfl (by kernel_rfl)) rfl ?_
  exact ⟨rfl, HB⟩
set_option maxHeartbeats 1000000 in
set_option maxRecDepth 10000 in
theorem GetRC {B r k : Nat} {vL vO : Value} {os : List So} {fl : List Bool} {id : Int} {o : So} {w : World} (h : RBk B r vL vO os fl w) (hl : os.length ≤ 100000) (hf : findR id os fl 0 = some k) (ho : os[k]? = some o) :
    Calls Tryd.prog 25 #[.pointer (some ⟨r, 0, none⟩), .int .u32 id] w fun e w' => e = .returned (.tuple #[.agg #[.int .u32 o.id, .slice o.A o.ls.length o.c], .bool true]) ∧ Hid (Below w.heap.size w w') := by
  have hb := h.fr ((Fr.refl (fun _ => False) w).alloc (.cells #[.int .u32 0, .slice none 0 0] 25)) (fun _ _ _ h => h)
  have HC := Lib.hid (findC (id := id) hb hl)
  have hfi : findI id os fl = (k : Int) := by unfold findI; rw [hf]
  rw [hfi] at HC
  obtain ⟨hk, hko⟩ := List.getElem?_eq_some_iff.1 ho
  obtain ⟨LA, lc, rfl, hlc⟩ := own_form hb.rowL
  have c0 := hb.blk.cell 0
  obtain ⟨ad, rfl, _, d0, d1⟩ := (row_own (c := cO) (fun _ => rfl) hb.rowL).so hk
  rw [hko] at d0 d1
  obtain ⟨x, xa, xc, xl⟩ := o
  simp only at d0 d1 ⊢
  have hN : Blk (w.alloc (.cells #[.int .u32 x, .slice xa xl.length xc] 25)) w.heap.size 25 #[.int .u32 x, .slice xa xl.length xc] := Blk.new w _ _
  have HN := Lib.hid hN
  have HB := Lib.hid ((Below.refl _ w).alloc (Nat.le_refl _) (.cells #[.int .u32 x, .slice xa xl.length xc] 25))
  clear h hf hb hN hko ho hfi
  go_enter Tryd.func25, Tryd.ntmps25
  go_wp2_with fail
  refine Calls.mono HC.out ?_
  rintro e w1 ⟨rfl, rfl⟩
  go_wp2
  refine bodyPost_ret_by (results_row_tmp rfl _ _ w.heap.size 25 _ (0, 0) _ rfl HN.out Tryd.underlying25 rfl (by kernel_rfl)) rfl ?_
  exact ⟨rfl, HB⟩
end Go.Proofs.YtigknfkkegccgaaDoor.K

/- The document's Own: a copy of an order. -/
namespace Go.Proofs.YtigknfkkegccgaaDoor.K
open Go.RowKit
set_option linter.unusedVariables false
set_option linter.unusedSimpArgs false
attribute [local go_sem ↓] Go.wp_at_zero Go.wp_at_succ
attribute [local go_sem] min2_min min_two
set_option maxHeartbeats 4000000 in
set_option maxRecDepth 10000 in
theorem OwnRC {A : Option Addr} {c : Nat} {id : Int} {l : List Ln} {w : World} (hl12 : l.length ≤ 1000) (h : RowOf cL 3 w w.heap.size A l) :
    Calls Tryd.prog 45 #[.agg #[.int .u32 id, .slice A l.length c]] w fun e w' => ∃ A' c', e = .returned (.agg #[.int .u32 id, .slice A' l.length c']) ∧ Hid (MadeL w.heap.size A' c' l w') ∧ Hid (Fr0 w w') := by
  have HR := Lib.hid h
  clear h
  obtain ⟨W, hW⟩ : ∃ W, W = (w.alloc (.cells #[.int .u32 id, .slice A l.length c] 25)).alloc (.cells #[.int .u32 0, .slice none 0 0] 25) := ⟨_, rfl⟩
  have hp : Blk W w.heap.size 25 #[.int .u32 id, .slice A l.length c] := by rw [hW]; exact (Blk.new w _ _).alloc _
  have hq : Blk W (w.heap.size + 1) 25 #[.int .u32 0, .slice none 0 0] := by rw [hW]; exact Blk.new_at (by simp)
  have hb : Below w.heap.size w W := by rw [hW]; exact ((Below.refl _ w).alloc (Nat.le_refl _) _).alloc (by simp) _
  have hs : W.heap.size = w.heap.size + 2 := by rw [hW]; simp
  have c0 := hp.cell 0
  have c1 := hp.cell 1
  have hz : W.drew.heap.size = w.heap.size + 2 := hs
  have HRow := Lib.hid (RowOf.below HR.out hb)
  have HO : Hid ((W.drew.alloc (.cells #[] 51)).ownsRow (w.heap.size + 2) 51 3 (.slice (some ⟨w.heap.size + 2, 0, none⟩) 0 0) 0 ([] : List Value)) := Lib.hid (by
    have := World.ownsRow_lit (base := w.heap.size + 2) (e := 51) (size := 3) W.drew #[] 0 (by omega) (by decide) rfl
    rwa [hz] at this)
  have HP := Lib.hid hp
  have HQ := Lib.hid hq
  have HB := Lib.hid hb
  have HWE := Lib.hid hW.symm
  clear hp hq hb hW HR
  go_enter Tryd.func45, Tryd.ntmps45
  go_wp2_with fail
  rw [HWE.out]
  clear HWE
  go_region_held_law (fun w' => w'.cell? ⟨w.heap.size, 0, none⟩ = some (.int .u32 id) ∧ w'.cell? ⟨w.heap.size, 1, none⟩ = some (.slice A l.length c)) (first | go_keep | exact hk3) ((refine stepR (c := cL) rfl _ _ _ rfl 51 (.agg #[.int .u16 0, .int .u16 0, .int .i64 0]) 3 16 Tryd.underlying23 info_ln rfl (by omega) (by omega) (fun _ => rfl) one_ln (w.heap.size + 2) w.heap.size (.slice (some ⟨w.heap.size + 2, 0, none⟩) 0 0) [] l _ _ (by first | rfl | (show Value.slice (some ⟨W.heap.size, 0, none⟩) 0 0 = _; rw [hs])) rfl (RowOf.below HRow.out (((Below.refl w.heap.size W).drew).alloc (by omega) _)) HO.out (by simp; omega) (by simp only [List.length_nil]; omega) ?_; intro v3 w3 h3 h4 h5; have F3 : Hid (Fr0 W w3) := Lib.hid ((((Fr.refl (fun _ => False) W).drew).alloc _).trans h4 (fun j hj e => by have := Option.some.inj e; simp at this; omega)); obtain ⟨A3, c3, rfl, hm3⟩ := madeL_of (B := w.heap.size + 2) (v := v3) (l := l) h3; have M3 := Lib.hid hm3; have hp3 := HP.out.fr F3.out (fun h => h); have hk3 := And.intro (hp3.cell 0) (hp3.cell 1); have hq3 := HQ.out.fr F3.out (fun h => h); have e0 := hq3.cell 0; have g0 := hq3.frozen 0; have hq4 : Blk (w3.setCell ⟨w.heap.size + 1, 0, none⟩ (.int .u32 id)) (w.heap.size + 1) 25 #[.int .u32 id, .slice none 0 0] := (by simpa using hq3.set_ 0 (.int .u32 id)); have e1 := hq4.cell 1; have g1 := hq4.frozen 1; have hq5 : Blk ((w3.setCell ⟨w.heap.size + 1, 0, none⟩ (.int .u32 id)).setCell ⟨w.heap.size + 1, 1, none⟩ (.slice A3 l.length c3)) (w.heap.size + 1) 25 #[.int .u32 id, .slice A3 l.length c3] := (by simpa using hq4.set_ 1 (.slice A3 l.length c3)); have HQ5 := Lib.hid hq5; have HQ3 := Lib.hid hq3; clear h3 h4 h5 hm3 hp3 hq3 hq4 hq5))
  all_goals
    go_wp2
    refine bodyPost_ret_by (results_cell_row rfl _ _ (w.heap.size + 1) 25 _ (0, 0) _ rfl HQ5.out Tryd.underlying25 rfl (by kernel_rfl)) rfl ?_
    have hF : Fr (fun j => j = w.heap.size + 1) w3 ((w3.setCell ⟨w.heap.size + 1, 0, none⟩ (.int .u32 id)).setCell ⟨w.heap.size + 1, 1, none⟩ (.slice A3 l.length c3)) := ((Fr.refl (fun j => j = w.heap.size + 1) w3).setCell (p := ⟨w.heap.size + 1, 0, none⟩) (fun _ => rfl) _).setCell (p := ⟨w.heap.size + 1, 1, none⟩) (fun _ => rfl) _
    exact ⟨A3, c3, rfl, Lib.hid ((M3.out.fr hF (fun j e h => by have := (M3.out.1.lt j e).1; omega)).low (by omega)), Lib.hid (Fr.of_below (below_fr (HB.out.trans (F3.out.below0.mono (by omega))) hF (by have := F3.out.size; omega) (fun j e => by omega)))⟩
end Go.Proofs.YtigknfkkegccgaaDoor.K

/- A region that draws its order, by a table of what its operations yield and by phases: the invariant, once for all such regions. -/
namespace Go.Proofs.YtigknfkkegccgaaDoor.K
set_option linter.unusedVariables false
set_option linter.unusedSimpArgs false
/-- The fixed things of a region: its first slot, how many slots are written (operation j yields into slot s0 + j), the size of the frame, the frame it begins with, the table, the operations that turn the world (in order), what must be listed by which phase, and how the world stands in which phase. -/
structure RG where
  s0 : Nat
  n : Nat
  T : Nat
  a0 : Act
  V : Nat → Option Value
  tr : List Nat
  need : List (Nat × Nat)
  Ph : (Nat → Value) → World → Nat → Prop
structure RI (R : RG) (l : Array Bool) (a : Act) (w : World) : Prop where
  size : a.tmps.size = R.T
  defs : a.defers = R.a0.defers
  base : ∀ s, s < R.s0 ∨ R.s0 + R.n ≤ s → slot a s = slot R.a0 s
  vals : ∀ j v, R.V j = some v → l.getD j false = true → slot a (R.s0 + j) = v
  ph : ∃ k, k ≤ R.tr.length ∧ (∀ i j, R.tr[i]? = some j → l.getD j false = decide (i < k)) ∧ (∀ p ∈ R.need, p.1 ≤ k → l.getD p.2 false = true) ∧ R.Ph (fun j => slot a (R.s0 + j)) w k
theorem getD_put {l : Array Bool} {j : Nat} (hj : j < l.size) (k : Nat) : (l.setIfInBounds j true).getD k false = if k = j then true else l.getD k false := by
  by_cases h : k = j
  · subst h; simp [Array.getD, hj]
  · rw [if_neg h, Array.getD_eq_getD_getElem?, Array.getD_eq_getD_getElem?, Array.getElem?_setIfInBounds_ne (Ne.symm h)]
theorem rep_no (n j : Nat) : (Array.replicate n false).getD j false = false := by
  by_cases h : j < n <;> simp [Array.getD, h]
theorem wanted_not {ops : Array Oper} {a : Act} {o g : Oper} {i d : Nat} {b c : Bool} (h : o.guard = some (i, b)) (hg : ops[i]? = some g) (hd : g.dst = some d) (hv : slot a d = .bool c) (hbc : c ≠ b) : Region.wanted o (yielded ops a.tmps) = false := by
  have : a.tmps[d]? = some (.bool c) := by
    unfold slot at hv
    rw [Array.getD_eq_getD_getElem?] at hv
    cases h2 : a.tmps[d]? with
    | none => rw [h2] at hv; simp [undef] at hv
    | some v => rw [h2] at hv; simpa using hv
  simp [Region.wanted, h, yielded, hg, hd, this, hbc]
theorem stepU {P : Program} {ops : Array Oper} {Q : Exit → Act → World → Prop} {K : Act → World → Prop} {j : Nat} {o : Oper} {a : Act} {w : World} (ho : ops[j]? = some o) (hw : Region.wanted o (yielded ops a.tmps) = false) (h : K (a.put o.dst undef) w) : wpOp P ops Q j K a w := by
  unfold wpOp
  rw [ho]
  simp only [hw]
  first
    | exact h
    | simpa using h
section
variable {R : RG} {l : Array Bool} {a : Act} {w w2 : World} {j : Nat} {v : Value}
theorem slot_keepR (hs : a.tmps.size = R.T) (hj : R.s0 + j < R.T) {s : Nat} (h : s ≠ R.s0 + j) : slot (a.put (some (R.s0 + j)) v) s = slot a s := by
  rw [put_at (by omega), if_neg h]
theorem slot_newR (hs : a.tmps.size = R.T) (hj : R.s0 + j < R.T) : slot (a.put (some (R.s0 + j)) v) (R.s0 + j) = v := by
  rw [put_at (by omega), if_pos rfl]
theorem RI.core (h : RI R l a w) (hj : j < R.n) (hT : R.s0 + R.n ≤ R.T) (hsz : j < l.size) (hv : ∀ u, R.V j = some u → v = u)
    (hp : ∃ k, k ≤ R.tr.length ∧ (∀ i j', R.tr[i]? = some j' → (l.setIfInBounds j true).getD j' false = decide (i < k)) ∧ (∀ p ∈ R.need, p.1 ≤ k → (l.setIfInBounds j true).getD p.2 false = true) ∧ R.Ph (fun i => slot (a.put (some (R.s0 + j)) v) (R.s0 + i)) w2 k) :
    RI R (l.setIfInBounds j true) (a.put (some (R.s0 + j)) v) w2 := by
  refine ⟨put_size.trans h.size, put_defers.trans h.defs, fun s hs => (slot_keepR h.size (by omega) (by omega)).trans (h.base s hs), fun k u hk hl => ?_, hp⟩
  by_cases e : k = j
  · subst e
    rw [slot_newR h.size (by omega)]
    exact hv u hk
  · rw [getD_put (by omega), if_neg e] at hl
    exact (slot_keepR h.size (by omega) (by omega)).trans (h.vals k u hk hl)
/-- An operation that does not turn the world. -/
theorem RI.stay (h : RI R l a w) (hT : R.s0 + R.n ≤ R.T) (loc : ∀ f g w k, (∀ j ∈ R.tr, f j = g j) → R.Ph f w k → R.Ph g w k) (hj : j < R.n) (hjt : j ∉ R.tr) (hsz : j < l.size) (hv : ∀ u, R.V j = some u → v = u) : RI R (l.setIfInBounds j true) (a.put (some (R.s0 + j)) v) w := by
  obtain ⟨k, hk, htr, hneed, hph⟩ := h.ph
  refine h.core hj hT hsz hv ⟨k, hk, fun i j' hi => ?_, fun p hp hpk => ?_, loc _ _ _ _ (fun i hi => ?_) hph⟩
  · have : j' ≠ j := fun e => hjt (e ▸ List.mem_of_getElem? hi)
    rw [getD_put (by omega), if_neg this]
    exact htr i j' hi
  · rw [getD_put (by omega)]
    split
    · rfl
    · exact hneed p hp hpk
  · have : i ≠ j := fun e => hjt (e ▸ hi)
    exact (slot_keepR h.size (by omega) (by omega)).symm
/-- An operation that turns the world, where the phase says nothing of it. -/
theorem RI.stayW (h : RI R l a w) (hT : R.s0 + R.n ≤ R.T) (loc : ∀ f g w k, (∀ j ∈ R.tr, f j = g j) → R.Ph f w k → R.Ph g w k) (hw : ∀ f k, R.Ph f w k → R.Ph f w2 k) (hj : j < R.n) (hjt : j ∉ R.tr) (hsz : j < l.size) (hv : ∀ u, R.V j = some u → v = u) : RI R (l.setIfInBounds j true) (a.put (some (R.s0 + j)) v) w2 := by
  have h' := h.stay hT loc hj hjt hsz hv
  obtain ⟨k, h1, h2, h3, h4⟩ := h'.ph
  exact ⟨h'.size, h'.defs, h'.base, h'.vals, k, h1, h2, h3, hw _ _ h4⟩
theorem tr_inj {tr : List Nat} (hn : tr.Nodup) {i i' j : Nat} (h : tr[i]? = some j) (h' : tr[i']? = some j) : i = i' := by
  obtain ⟨h1, e1⟩ := List.getElem?_eq_some_iff.1 h
  obtain ⟨h2, e2⟩ := List.getElem?_eq_some_iff.1 h'
  have hp := List.pairwise_iff_getElem.1 hn
  rcases Nat.lt_trichotomy i i' with h | h | h
  · exact absurd (e1.trans e2.symm) (hp i i' h1 h2 h)
  · exact h
  · exact absurd (e2.trans e1.symm) (hp i' i h2 h1 h)
/-- The phase at which a turning operation comes up. -/
theorem RI.at_ (h : RI R l a w) (hn : R.tr.Nodup) {k : Nat} (hk : R.tr[k]? = some j) (hno : l.getD j false = false) (hprev : ∀ i, k = i + 1 → ∀ j', R.tr[i]? = some j' → l.getD j' false = true) : R.Ph (fun i => slot a (R.s0 + i)) w k ∧ (∀ i j', R.tr[i]? = some j' → l.getD j' false = decide (i < k)) ∧ (∀ p ∈ R.need, p.1 ≤ k → l.getD p.2 false = true) := by
  obtain ⟨k', hk', htr, hneed, hph⟩ := h.ph
  have h1 := htr k j hk
  rw [hno] at h1
  have h2 : k' ≤ k := by have := of_decide_eq_false h1.symm; omega
  have h3 : k ≤ k' := by
    cases k with
    | zero => omega
    | succ i =>
      have hlt : i < R.tr.length := by have := (List.getElem?_eq_some_iff.1 hk).1; omega
      have h4 := htr i _ (List.getElem?_eq_getElem hlt)
      rw [hprev i rfl _ (List.getElem?_eq_getElem hlt)] at h4
      have := of_decide_eq_true h4.symm
      omega
  obtain rfl : k' = k := by omega
  exact ⟨hph, htr, hneed⟩
/-- An operation that turns the world. -/
theorem RI.turn (h : RI R l a w) (hn : R.tr.Nodup) (hT : R.s0 + R.n ≤ R.T) {k : Nat} (hk : R.tr[k]? = some j) (hj : j < R.n) (hsz : j < l.size) (hv : ∀ u, R.V j = some u → v = u) (htr : ∀ i j', R.tr[i]? = some j' → l.getD j' false = decide (i < k)) (hneed : ∀ p ∈ R.need, p.1 ≤ k → l.getD p.2 false = true) (hnew : ∀ p ∈ R.need, p.1 = k + 1 → l.getD p.2 false = true)
    (hp : R.Ph (fun i => slot (a.put (some (R.s0 + j)) v) (R.s0 + i)) w2 (k + 1)) : RI R (l.setIfInBounds j true) (a.put (some (R.s0 + j)) v) w2 := by
  refine h.core hj hT hsz hv ⟨k + 1, ?_, fun i j' hi => ?_, fun p hp hpk => ?_, hp⟩
  · have := (List.getElem?_eq_some_iff.1 hk).1; omega
  · rw [getD_put (by omega)]
    by_cases e : j' = j
    · subst e
      obtain rfl := tr_inj hn hi hk
      simp
    · rw [if_neg e, htr i j' hi]
      have : i ≠ k := fun e' => by subst e'; rw [hk] at hi; exact e (Option.some.inj hi).symm
      by_cases e3 : i < k
      · simp [e3, Nat.lt_succ_of_lt e3]
      · have : ¬ i < k + 1 := by omega
        simp [e3, this]
  · rw [getD_put (by omega)]
    split
    · rfl
    · by_cases e : p.1 = k + 1
      · exact hnew p hp e
      · exact hneed p hp (by omega)
/-- The last operation, a store: it yields nothing. -/
theorem RI.last (h : RI R l a w) (hn : R.tr.Nodup) {k : Nat} (hk : R.tr[k]? = some j) (hV : R.V j = none) (hsz : j < l.size) (htr : ∀ i j', R.tr[i]? = some j' → l.getD j' false = decide (i < k)) (hneed : ∀ p ∈ R.need, p.1 ≤ k → l.getD p.2 false = true) (hnew : ∀ p ∈ R.need, p.1 = k + 1 → l.getD p.2 false = true)
    (hp : R.Ph (fun i => slot a (R.s0 + i)) w2 (k + 1)) : RI R (l.setIfInBounds j true) a w2 := by
  refine ⟨h.size, h.defs, h.base, fun i u hi hl => ?_, k + 1, ?_, fun i j' hi => ?_, fun p hp hpk => ?_, hp⟩
  · by_cases e : i = j
    · subst e; rw [hV] at hi; cases hi
    · rw [getD_put (by omega), if_neg e] at hl
      exact h.vals i u hi hl
  · have := (List.getElem?_eq_some_iff.1 hk).1; omega
  · rw [getD_put (by omega)]
    by_cases e : j' = j
    · subst e
      obtain rfl := tr_inj hn hi hk
      simp
    · rw [if_neg e, htr i j' hi]
      have : i ≠ k := fun e' => by subst e'; rw [hk] at hi; exact e (Option.some.inj hi).symm
      by_cases e3 : i < k
      · simp [e3, Nat.lt_succ_of_lt e3]
      · have : ¬ i < k + 1 := by omega
        simp [e3, this]
  · rw [getD_put (by omega)]
    split
    · rfl
    · by_cases e : p.1 = k + 1
      · exact hnew p hp e
      · exact hneed p hp (by omega)
theorem RI.init {m : Nat} (hs : R.a0.tmps.size = R.T) (hneed : ∀ p ∈ R.need, 1 ≤ p.1) (h : R.Ph (fun j => slot R.a0 (R.s0 + j)) w 0) : RI R (Array.replicate m false) R.a0 w := by
  refine ⟨hs, rfl, fun _ _ => rfl, fun j v _ hl => ?_, 0, Nat.zero_le _, fun i j _ => ?_, fun p hp hpk => ?_, h⟩
  · rw [rep_no] at hl; cases hl
  · rw [rep_no]; simp
  · have := hneed p hp; omega
/-- Behind all of them. -/
theorem RI.all {m : Nat} (h : RI R l a w) (htr : ∀ j ∈ R.tr, j < m) (ha : ∀ j, j < m → l.getD j false = true) : R.Ph (fun j => slot a (R.s0 + j)) w R.tr.length := by
  obtain ⟨k, hk, h1, _, hp⟩ := h.ph
  by_cases e : k = R.tr.length
  · exact e ▸ hp
  · have hlt : k < R.tr.length := by omega
    have h2 := h1 k _ (List.getElem?_eq_getElem hlt)
    rw [ha _ (htr _ (List.getElem_mem hlt))] at h2
    have := of_decide_eq_true h2.symm
    omega
end
end Go.Proofs.YtigknfkkegccgaaDoor.K
