/- The module's bytes: commands and events. -/
import Derived.Test.YtdhfinpmcikimaaDoorM8
namespace Go.Proofs.YtdhfinpmcikimaaDoor.K
open Go.RowKit
set_option linter.unusedVariables false
set_option linter.unusedSimpArgs false
theorem results_row_tmp {P : Program} {fn : Func} {p u : Tmp} {ty : TypeId} (h : fn.results = #[.cell p ty, .tmp u]) (tmps : Array Value) (w : World) (g : Nat) (t : TypeId) (cs : Array Value) (fr : Nat × Nat) (d : TypeDesc)
    (hp : tmps.getD p undef = .pointer (some ⟨g, 0, none⟩)) (hg : w.heap[g]? = some (.cells cs t fr))
    (hu : P.underlying ty = some d) (hd : (match d with | .struct _ | .array _ _ => true | _ => false) = true) (hi : (P.info? ty).map (·.size) = some cs.size) :
    (results fn tmps).run P w = .ok (.tuple #[.agg cs, tmps.getD u undef]) w := by
  rw [results_cell_tmp h, hp]
  simp [asAddr, run_loadVar_row w g t ty cs fr d hg hu hd hi, Result.andThen]
theorem c3_facts {w : World} {s : Nat} {t : TypeId} {v0 v1 v2 : Value} (h : Blk w s t #[v0, v1, v2]) (u0 u1 u2 : Value) :
    w.cell? ⟨s, 0, none⟩ = some v0 ∧ w.frozen? ⟨s, 0, none⟩ = false ∧ (w.setCell ⟨s, 0, none⟩ u0).cell? ⟨s, 1, none⟩ = some v1 ∧ (w.setCell ⟨s, 0, none⟩ u0).frozen? ⟨s, 1, none⟩ = false ∧
    ((w.setCell ⟨s, 0, none⟩ u0).setCell ⟨s, 1, none⟩ u1).cell? ⟨s, 2, none⟩ = some v2 ∧ ((w.setCell ⟨s, 0, none⟩ u0).setCell ⟨s, 1, none⟩ u1).frozen? ⟨s, 2, none⟩ = false ∧
    Blk (((w.setCell ⟨s, 0, none⟩ u0).setCell ⟨s, 1, none⟩ u1).setCell ⟨s, 2, none⟩ u2) s t #[u0, u1, u2] ∧ Fr (fun j => j = s) w (((w.setCell ⟨s, 0, none⟩ u0).setCell ⟨s, 1, none⟩ u1).setCell ⟨s, 2, none⟩ u2) := by
  have b1 := h.set_ 0 u0
  have b2 := b1.set_ 1 u1
  exact ⟨h.cell 0, h.frozen 0, b1.cell 1, b1.frozen 1, b2.cell 2, b2.frozen 2, by simpa using b2.set_ 2 u2, (((Fr.refl (fun j => j = s) w).setCell (p := ⟨s, 0, none⟩) (fun _ => rfl) _).setCell (p := ⟨s, 1, none⟩) (fun _ => rfl) _).setCell (p := ⟨s, 2, none⟩) (fun _ => rfl) _⟩
abbrev cmdV (k t q : Int) : Value := .agg #[.int .u8 k, .int .u16 t, .int .u16 q]
set_option maxHeartbeats 1000000 in
theorem CmdBytesC {k t q : Int} (w : World) (hk : 0 ≤ k ∧ k < 256) (ht : 0 ≤ t ∧ t < 65536) (hq : 0 ≤ q ∧ q < 65536) :
    Calls Tryd.prog 10 #[cmdV k t q] w fun e w' => ∃ A' c', e = .returned (.slice A' 5 c') ∧ Hid (Made w.heap.size A' c' (bytesM k t q) w') ∧ Hid (Fr0 w w') := by
  have qB := MbytesC (w.alloc (.cells #[.int .u8 k, .int .u16 t, .int .u16 q] 24)) hk ht hq
  have HF : Hid (Fr0 w (w.alloc (.cells #[.int .u8 k, .int .u16 t, .int .u16 q] 24))) := Lib.hid ((Fr.refl (fun _ => False) w).alloc _)
  go_enter Tryd.func10, Tryd.ntmps10
  go_wp2_with fail
  refine Calls.mono qB ?_
  clear qB
  rintro e w1 ⟨A1, c1, rfl, H1, F1⟩
  go_wp2
  go_ret
  exact ⟨A1, c1, rfl, Lib.hid (H1.out.low (by simp)), Lib.hid (HF.out.trans F1.out (fun _ _ h => h))⟩
set_option maxHeartbeats 1000000 in
theorem EvBytesC {k t q : Int} (w : World) (hk : 0 ≤ k ∧ k < 256) (ht : 0 ≤ t ∧ t < 65536) (hq : 0 ≤ q ∧ q < 65536) :
    Calls Tryd.prog 11 #[cmdV k t q] w fun e w' => ∃ A' c', e = .returned (.slice A' 5 c') ∧ Hid (Made w.heap.size A' c' (bytesM k t q) w') ∧ Hid (Fr0 w w') := by
  have qB := MbytesC (w.alloc (.cells #[.int .u8 k, .int .u16 t, .int .u16 q] 25)) hk ht hq
  have HF : Hid (Fr0 w (w.alloc (.cells #[.int .u8 k, .int .u16 t, .int .u16 q] 25))) := Lib.hid ((Fr.refl (fun _ => False) w).alloc _)
  go_enter Tryd.func11, Tryd.ntmps11
  go_wp2_with fail
  refine Calls.mono qB ?_
  clear qB
  rintro e w1 ⟨A1, c1, rfl, H1, F1⟩
  go_wp2
  go_ret
  exact ⟨A1, c1, rfl, Lib.hid (H1.out.low (by simp)), Lib.hid (HF.out.trans F1.out (fun _ _ h => h))⟩

theorem kinds_row (w : World) (g : Nat) (hg : w.heap.size = g) : RowOf c8 1 (w.alloc (.cells #[.int .u8 1, .int .u8 2] 5)) (w.alloc (.cells #[.int .u8 1, .int .u8 2] 5)).heap.size (some ⟨g, 0, none⟩) [1, 2] := by
  subst hg
  have h := Blk.new w 5 #[.int .u8 1, .int .u8 2]
  intro i x hx
  refine ⟨_, rfl, by simp, fun j u hu => ?_⟩
  match i, j, hx, hu with
  | 0, 0, hx, hu =>
    obtain rfl := Option.some.inj hx
    obtain rfl := Option.some.inj hu
    exact h.cell 0
  | 1, 0, hx, hu =>
    obtain rfl := Option.some.inj hx
    obtain rfl := Option.some.inj hu
    exact h.cell 1
set_option maxHeartbeats 2000000 in
theorem ParseCmdC {A : Option Addr} {c : Nat} {l : List Int} {w : World} (hr : RowOf c8 1 w w.heap.size A l) (hb : InB l) (hl2 : l.length ≤ 1000) :
    Calls Tryd.prog 12 #[.slice A l.length c] w fun e w' => e = .returned (.tuple #[cmdV (parseM l).1 (parseM l).2.1 (parseM l).2.2.1, .int .i64 (parseM l).2.2.2]) ∧ Hid (Fr0 w w') := by
  have F2 : Fr0 w ((w.alloc (.cells #[.int .u8 0, .int .u16 0, .int .u16 0] 24)).alloc (.cells #[.int .u8 1, .int .u8 2] 5)) := ((Fr.refl (fun _ => False) w).alloc _).alloc _
  have qP := MparseC (A := A) (c := c) (l := l) (RowOf.now hr F2.below0) hb hl2 (kinds_row (w.alloc (.cells #[.int .u8 0, .int .u16 0, .int .u16 0] 24)) (w.heap.size + 1) (by simp))
  have HK : Hid (Blk ((w.alloc (.cells #[.int .u8 0, .int .u16 0, .int .u16 0] 24)).alloc (.cells #[.int .u8 1, .int .u8 2] 5)) w.heap.size 24 #[.int .u8 0, .int .u16 0, .int .u16 0]) := Lib.hid ((Blk.new w _ _).alloc _)
  have HF := Lib.hid F2
  unfold PPost at qP
  generalize parseM l = pm at *
  obtain ⟨k, t, q, er⟩ := pm
  clear hr hb F2
  go_enter Tryd.func12, Tryd.ntmps12
  go_wp2_with fail
  refine Calls.mono qP ?_
  clear qP
  rintro e w3 ⟨rfl, F3⟩
  have hk3 := HK.out.fr F3.out (fun h => h)
  obtain ⟨a0, a1, a2, a3, a4, a5, hb4, hF4⟩ := c3_facts hk3 (.int .u8 k) (.int .u16 t) (.int .u16 q)
  have l0 := hb4.cell 0
  have l1 := hb4.cell 1
  have l2 := hb4.cell 2
  obtain ⟨b0, b1, b2, b3, b4, b5, hb5, hF5⟩ := c3_facts hb4 (.int .u8 k) (.int .u16 t) (.int .u16 q)
  have HB5 := Lib.hid hb5
  have HFF := Lib.hid (((HF.out.trans F3.out (fun _ _ h => h)).mono (S' := fun _ => False) (fun _ _ h => h)).trans ((hF4.trans hF5 (fun _ _ e => e))) (fun j hj e => absurd e (by omega)))
  clear hk3 hb4 hF4 hb5 hF5 HK HF F3
  go_wp2
  refine bodyPost_ret_by (results_row_tmp rfl _ _ w.heap.size 24 _ (0, 0) _ rfl HB5.out Tryd.underlying24 rfl (by kernel_rfl)) rfl ?_
  exact ⟨rfl, HFF⟩
set_option maxHeartbeats 2000000 in
theorem ParseEvC {A : Option Addr} {c : Nat} {l : List Int} {w : World} (hr : RowOf c8 1 w w.heap.size A l) (hb : InB l) (hl2 : l.length ≤ 1000) :
    Calls Tryd.prog 13 #[.slice A l.length c] w fun e w' => e = .returned (.tuple #[cmdV (parseM l).1 (parseM l).2.1 (parseM l).2.2.1, .int .i64 (parseM l).2.2.2]) ∧ Hid (Fr0 w w') := by
  have F2 : Fr0 w ((w.alloc (.cells #[.int .u8 0, .int .u16 0, .int .u16 0] 25)).alloc (.cells #[.int .u8 1, .int .u8 2] 5)) := ((Fr.refl (fun _ => False) w).alloc _).alloc _
  have qP := MparseC (A := A) (c := c) (l := l) (RowOf.now hr F2.below0) hb hl2 (kinds_row (w.alloc (.cells #[.int .u8 0, .int .u16 0, .int .u16 0] 25)) (w.heap.size + 1) (by simp))
  have HK : Hid (Blk ((w.alloc (.cells #[.int .u8 0, .int .u16 0, .int .u16 0] 25)).alloc (.cells #[.int .u8 1, .int .u8 2] 5)) w.heap.size 25 #[.int .u8 0, .int .u16 0, .int .u16 0]) := Lib.hid ((Blk.new w _ _).alloc _)
  have HF := Lib.hid F2
  unfold PPost at qP
  generalize parseM l = pm at *
  obtain ⟨k, t, q, er⟩ := pm
  clear hr hb F2
  go_enter Tryd.func13, Tryd.ntmps13
  go_wp2_with fail
  refine Calls.mono qP ?_
  clear qP
  rintro e w3 ⟨rfl, F3⟩
  have hk3 := HK.out.fr F3.out (fun h => h)
  obtain ⟨a0, a1, a2, a3, a4, a5, hb4, hF4⟩ := c3_facts hk3 (.int .u8 k) (.int .u16 t) (.int .u16 q)
  have l0 := hb4.cell 0
  have l1 := hb4.cell 1
  have l2 := hb4.cell 2
  obtain ⟨b0, b1, b2, b3, b4, b5, hb5, hF5⟩ := c3_facts hb4 (.int .u8 k) (.int .u16 t) (.int .u16 q)
  have HB5 := Lib.hid hb5
  have HFF := Lib.hid (((HF.out.trans F3.out (fun _ _ h => h)).mono (S' := fun _ => False) (fun _ _ h => h)).trans ((hF4.trans hF5 (fun _ _ e => e))) (fun j hj e => absurd e (by omega)))
  clear hk3 hb4 hF4 hb5 hF5 HK HF F3
  go_wp2
  refine bodyPost_ret_by (results_row_tmp rfl _ _ w.heap.size 25 _ (0, 0) _ rfl HB5.out Tryd.underlying25 rfl (by kernel_rfl)) rfl ?_
  exact ⟨rfl, HFF⟩

end Go.Proofs.YtdhfinpmcikimaaDoor.K
