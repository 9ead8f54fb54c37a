/- The module: New, Show, Set, is. -/
import Derived.Test.YtdhfinpmcikimaaDoorM9
import Derived.Test.YtdhfinpmcikimaaDoorM6
namespace Go.Proofs.YtdhfinpmcikimaaDoor.K
open Go.RowKit
set_option linter.unusedVariables false
set_option linter.unusedSimpArgs false
structure Dp where
  lit : Bool
  latched : Bool
  tok : Int
  qty : Int
  most : Int
abbrev dpv (d : Dp) : Array Value := #[.bool d.lit, .bool d.latched, .int .u16 d.tok, .int .u16 d.qty, .int .u16 d.most]
abbrev mPre (s : Nat) (d : Dp) : List Value := [.pointer (some ⟨s, 0, none⟩), .bool d.lit, .bool d.latched, .int .u16 d.tok, .int .u16 d.qty, .int .u16 d.most]
def mdv (s : Nat) (d : Dp) (bt : BS) (a : Int) : Array Value := enc (mPre s d) [.int .u8 a] bt
structure MoB (B m s : Nat) (A : Option Addr) (c : Nat) (sl : Sl) (d : Dp) (bt : BS) (a : Int) (w : World) : Prop where
  blk : Blk w m 86 (mdv s d bt a)
  sb : SlB B s A c sl w
  low : B ≤ m
  wf : WfS bt
section
variable {B m s : Nat} {A : Option Addr} {c : Nat} {sl : Sl} {d : Dp} {bt : BS} {a : Int} {w w' : World}
theorem MoB.fr {S : Nat → Prop} (h : MoB B m s A c sl d bt a w) (k : Fr S w w') (hs : ∀ j, B ≤ j → j < w.heap.size → ¬ S j) : MoB B m s A c sl d bt a w' :=
  ⟨h.blk.fr k (hs m h.low h.blk.lt), h.sb.fr k hs, h.low, h.wf⟩
theorem MoB.fr0 (h : MoB B m s A c sl d bt a w) (k : Fr0 w w') : MoB B m s A c sl d bt a w' := h.fr k (fun _ _ _ h => h)
theorem MoB.cells (h : MoB B m s A c sl d bt a w) : w.cell? ⟨m, 0, none⟩ = some (.pointer (some ⟨s, 0, none⟩)) ∧ w.cell? ⟨m, 1, none⟩ = some (.bool d.lit) ∧ w.cell? ⟨m, 2, none⟩ = some (.bool d.latched) ∧ w.cell? ⟨m, 3, none⟩ = some (.int .u16 d.tok) ∧ w.cell? ⟨m, 4, none⟩ = some (.int .u16 d.qty) ∧ w.cell? ⟨m, 5, none⟩ = some (.int .u16 d.most) ∧ w.cell? ⟨m, 18, none⟩ = some (.int .u8 a) :=
  ⟨h.blk.cell 0, h.blk.cell 1, h.blk.cell 2, h.blk.cell 3, h.blk.cell 4, h.blk.cell 5, h.blk.cell 18⟩
/-- A slave's own doing: its block alone. -/
theorem MoB.slave {A' : Option Addr} {c' : Nat} {sl' : Sl} (h : MoB B m s A c sl d bt a w) (k : Fr (fun j => j = s) w w') (hs : SlB B s A' c' sl' w') : MoB B m s A' c' sl' d bt a w' :=
  ⟨h.blk.fr k (fun e => Blk.ne_ h.blk h.sb.blk (by decide) e), hs, h.low, h.wf⟩
/-- The module's own block is written. -/
theorem MoB.own {d' : Dp} {bt' : BS} (h : MoB B m s A c sl d bt a w) (k : Fr (fun j => j = m) w w') (hb : Blk w' m 86 (mdv s d' bt' a)) (hw : WfS bt') : MoB B m s A c sl d' bt' a w' := by
  have hne : s ≠ m := fun e => Blk.ne_ h.sb.blk h.blk (by decide) e
  exact ⟨hb, ⟨h.sb.blk.fr k hne, made_fr h.sb.made k (fun j e e' => own_blk_ne h.sb.made.1 h.blk (by decide) (e' ▸ e)), h.sb.low, h.sb.bits⟩, h.low, hw⟩
end
theorem enc_pre (pre post : List Value) (bt : BS) (i : Nat) (hi : i < pre.length) (v : Value) : (enc pre post bt).setIfInBounds i v = enc (pre.set i v) post bt := by
  unfold enc
  rw [List.setIfInBounds_toArray, List.set_append_left _ _ hi]
def setN (n : Int) : Int := if okN n then 0 else 1
theorem wf_set {bt : BS} (hw : WfS bt) (n : Int) (dn : Bool) (now : Int) (hnow : I64 now) : WfS (setS bt n dn now) := by
  intro i
  unfold setS
  by_cases hn : okN n = true
  · rw [if_pos hn]
    unfold upd
    by_cases hi : i = n.toNat
    · rw [if_pos hi]
      unfold pressB
      by_cases hd : (bt n.toNat).down = dn
      · rw [if_pos hd]; exact hw _
      · rw [if_neg hd]; exact hnow
    · rw [if_neg hi]; exact hw i
  · rw [if_neg hn]; exact hw i
set_option maxHeartbeats 1000000 in
theorem MNewC (a : Int) (w : World) : Calls Tryd.prog 22 #[.int .u8 a] w fun e w' => ∃ m s, e = .returned (.pointer (some ⟨m, 0, none⟩)) ∧ Hid (MoB w.heap.size m s none 0 ⟨0, 0, 0, a, []⟩ ⟨false, false, 0, 0, 0⟩ z4 a w') ∧ Hid (Fr0 w w') := by
  go_enter Tryd.func22, Tryd.ntmps22
  go_wp2_with fail
  refine Calls.mono (SlNewC a w) ?_
  rintro e w1 ⟨rfl, H1, F1⟩
  have hsz := F1.out.size
  go_wp2
  go_ret
  refine ⟨w1.heap.size, w.heap.size, rfl, Lib.hid ⟨?_, ?_, hsz, fun n => by simp [z4, I64]⟩, Lib.hid (F1.out.alloc _)⟩
  · exact Blk.new w1 86 (mdv w.heap.size ⟨false, false, 0, 0, 0⟩ z4 a)
  · exact H1.out.fr ((Fr.refl (fun _ => False) w1).alloc _) (fun _ _ _ h => h)
section
variable {B m s : Nat} {A : Option Addr} {c : Nat} {sl : Sl} {d : Dp} {bt : BS} {a : Int} {w : World}
set_option maxHeartbeats 1000000 in
theorem MShowC (h : MoB B m s A c sl d bt a w) : Calls Tryd.prog 19 #[.pointer (some ⟨m, 0, none⟩)] w fun e w' => e = .returned (.agg (dpv d)) ∧ Hid (Fr0 w w') := by
  have F1 : Fr0 w (w.alloc (.cells #[.bool false, .bool false, .int .u16 0, .int .u16 0, .int .u16 0] 44)) := (Fr.refl (fun _ => False) w).alloc _
  obtain ⟨_, k1, k2, k3, k4, k5, _⟩ := (h.fr0 F1).cells
  clear h F1
  go_enter Tryd.func19, Tryd.ntmps19
  go_wp2
  refine bodyPost_ret_by (results_cell_row rfl _ _ w.heap.size 44 _ (0, 0) _ rfl (Blk.new w _ _) Tryd.underlying44 rfl (by kernel_rfl)) rfl ?_
  exact ⟨rfl, Lib.hid ((Fr.refl (fun _ => False) w).alloc _)⟩
set_option maxHeartbeats 1000000 in
theorem MSetC (h : MoB B m s A c sl d bt a w) (n : Int) (dn : Bool) (now : Int) (hnow : I64 now) : Calls Tryd.prog 26 #[.pointer (some ⟨m, 0, none⟩), .int .i64 n, .bool dn, .int .i64 now] w fun e w' => e = .returned (.int .i64 (setN n)) ∧ Hid (MoB B m s A c sl d (setS bt n dn now) a w') ∧ Hid (Fr (fun j => j = m) w w') := by
  have HH := Lib.hid h
  have qS := Set_any (o := 6) (by rfl) m bt n dn now w h.blk
  clear h
  go_enter Tryd.func26, Tryd.ntmps26
  go_wp2_with fail
  refine Calls.mono qS ?_
  clear qS
  rintro e w1 ⟨rfl, hb, hf⟩
  have HB := Lib.hid hb
  have HF := Lib.hid hf
  clear hb hf
  obtain ⟨rv, hrv⟩ : ∃ rv, rv = (if okN n = true then (0 : Int) else 1) := ⟨_, rfl⟩
  rw [← hrv]
  have HRV := Lib.hid hrv
  clear hrv
  go_wp2
  go_ret
  exact ⟨ret_int HRV.out, Lib.hid (HH.out.own HF.out HB.out (wf_set HH.out.wf n dn now hnow)), HF⟩
theorem DisC (d : Dp) (t : Int) (w : World) : Calls Tryd.prog 57 #[.agg (dpv d), .int .u16 t] w fun e w' => e = .returned (.bool (d.lit && decide (d.tok = t))) ∧ Hid (Fr0 w w') := by
  have HF : Hid (Fr0 w (w.alloc (.cells (dpv d) 44))) := Lib.hid ((Fr.refl _ w).alloc _)
  obtain ⟨lit, la, tok, qty, most⟩ := d
  cases lit
  · go_enter Tryd.func57, Tryd.ntmps57
    go_wp2
    go_ret
    exact ⟨rfl, HF⟩
  · go_enter Tryd.func57, Tryd.ntmps57
    go_wp2
    go_ret
    exact ⟨ret_bool (by rw [Bool.eq_iff_iff]; simp), HF⟩
end
end Go.Proofs.YtdhfinpmcikimaaDoor.K
