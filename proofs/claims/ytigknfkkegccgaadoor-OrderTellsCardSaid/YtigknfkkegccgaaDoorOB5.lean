/- Orders: Get. -/
import Derived.Test.YtigknfkkegccgaaDoorOB4
import Derived.Laws.ResultCell
namespace Go.Proofs.YtigknfkkegccgaaDoor.K
open Go.RowKit
set_option linter.unusedVariables false
set_option linter.unusedSimpArgs false
attribute [local go_sem ↓] Go.wp_at_zero Go.wp_at_succ
theorem results_row_tmp {P : Program} {fn : Func} {p u : Tmp} {ty : TypeId} (h : fn.results = #[.cell p ty, .tmp u]) (tmps : Array Value) (w : World) (g : Nat) (t : TypeId) (cs : Array Value) (fr : Nat × Nat) (d : TypeDesc)
    (hp : tmps.getD p undef = .pointer (some ⟨g, 0, none⟩)) (hg : w.heap[g]? = some (.cells cs t fr))
    (hu : P.underlying ty = some d) (hd : (match d with | .struct _ | .array _ _ => true | _ => false) = true) (hi : (P.info? ty).map (·.size) = some cs.size) :
    (results fn tmps).run P w = .ok (.tuple #[.agg cs, tmps.getD u undef]) w := by
  rw [results_cell_tmp h, hp]
  simp [asAddr, run_loadVar_row w g t ty cs fr d hg hu hd hi, Result.andThen]
set_option maxHeartbeats 2000000 in
set_option maxRecDepth 10000 in
theorem GetNo {B b g : Nat} {v : Value} {os : List So} {ids : List Int} {id : Int} {w : World} (h : Bk B b g v os ids w) (hl : os.length ≤ 1000) (hi : idxO id os = none) :
    Calls Tryd.prog 24 #[.pointer (some ⟨b, 0, none⟩), .int .u32 id] w fun e w' => e = .returned (.tuple #[.agg #[.int .u32 0, .slice none 0 0], .bool false]) ∧ Hid (Below w.heap.size w w') := by
  have hbl : Below w.heap.size w (w.alloc (.cells #[.int .u32 0, .slice none 0 0] 25)) := (Below.refl _ w).alloc (Nat.le_refl _) _
  have hbk : Bk B b g v os ids (w.alloc (.cells #[.int .u32 0, .slice none 0 0] 25)) := h.fr ((Fr.refl (fun _ => False) w).alloc _) (fun _ _ _ h => h)
  have HC := Lib.hid (placeC (id := id) hbk hl)
  rw [show idxI id os = -1 by unfold idxI; rw [hi]] at HC
  have HN := Lib.hid (Blk.new w 25 #[.int .u32 0, .slice none 0 0])
  have HBL := Lib.hid hbl
  clear h hbk hbl
  go_enter Tryd.func24, Tryd.ntmps24
  go_wp2_with fail
  refine Calls.mono HC.out ?_
  rintro e w1 ⟨rfl, F1⟩
  have h1 := HN.out.below F1.out HN.out.lt
  have d0 := h1.cell 0
  have f0 := h1.frozen 0
  have h2 : Blk (w1.setCell ⟨w.heap.size, 0, none⟩ (.int .u32 0)) w.heap.size 25 #[.int .u32 0, .slice none 0 0] := by simpa using h1.set_ 0 (.int .u32 0)
  have d1 := h2.cell 1
  have f1 := h2.frozen 1
  have h3 : Blk ((w1.setCell ⟨w.heap.size, 0, none⟩ (.int .u32 0)).setCell ⟨w.heap.size, 1, none⟩ (.slice none 0 0)) w.heap.size 25 #[.int .u32 0, .slice none 0 0] := by simpa using h2.set_ 1 (.slice none 0 0)
  have e0 := h3.cell 0
  have e1 := h3.cell 1
  clear h1 h2
  have H3 := Lib.hid h3
  clear h3
  go_wp2
  refine bodyPost_ret_by (results_row_tmp rfl _ _ w.heap.size 25 _ (0, 0) _ rfl H3.out Tryd.underlying25 rfl (by kernel_rfl)) rfl ?_
  exact ⟨rfl, Lib.hid (((HBL.out.trans (F1.out.mono HBL.out.size)).setCell (p := ⟨w.heap.size, 0, none⟩) (Nat.le_refl _) _).setCell (p := ⟨w.heap.size, 1, none⟩) (Nat.le_refl _) _)⟩
theorem idxO_some {id : Int} {os : List So} {k : Nat} (h : idxO id os = some k) : ∃ hk : k < os.length, (os[k]).id = id := by
  unfold idxO at h
  rw [List.findIdx?_eq_some_iff_getElem] at h
  obtain ⟨hk, h1, _⟩ := h
  exact ⟨hk, by simpa using h1⟩
set_option maxHeartbeats 2000000 in
set_option maxRecDepth 10000 in
theorem GetC {B b g k : Nat} {v : Value} {os : List So} {ids : List Int} {id : Int} {w : World} (h : Bk B b g v os ids w) (hl : os.length ≤ 1000) {o : So} (hko : os[k]? = some o) (hi : idxO id os = some k) (hll : o.ls.length ≤ 1000) :
    Calls Tryd.prog 24 #[.pointer (some ⟨b, 0, none⟩), .int .u32 id] w fun e w' => ∃ A' c', e = .returned (.tuple #[.agg #[.int .u32 o.id, .slice A' o.ls.length c'], .bool true]) ∧ Hid (MadeL w.heap.size A' c' o.ls w') ∧ Hid (Below w.heap.size w w') := by
  obtain ⟨hk, hko'⟩ := List.getElem?_eq_some_iff.1 hko
  obtain ⟨x, xa, xc, xl⟩ := o
  simp only at hll ⊢
  have hbl : Below w.heap.size w (w.alloc (.cells #[.int .u32 0, .slice none 0 0] 25)) := (Below.refl _ w).alloc (Nat.le_refl _) _
  have hbk : Bk B b g v os ids (w.alloc (.cells #[.int .u32 0, .slice none 0 0] 25)) := h.fr ((Fr.refl (fun _ => False) w).alloc _) (fun _ _ _ h => h)
  have HC := Lib.hid (placeC (id := id) hbk hl)
  have hix : idxI id os = (k : Int) := by unfold idxI; rw [hi]
  rw [hix] at HC
  have HN := Lib.hid (Blk.new w 25 #[.int .u32 0, .slice none 0 0])
  have HBL := Lib.hid hbl
  have HBK := Lib.hid hbk
  clear h hbk hbl hi hix
  go_enter Tryd.func24, Tryd.ntmps24
  go_wp2_with fail
  refine Calls.mono HC.out ?_
  rintro e w1 ⟨rfl, F1⟩
  have hb1 := HBK.out.fr (Fr.of_below F1.out) (fun _ _ _ h => h)
  obtain ⟨A, c, rfl, hc⟩ := own_form hb1.row
  have q0 := hb1.blk.cell 0
  obtain ⟨ad, rfl, hb', d0, d1⟩ := (row_own (c := cO) (fun _ => rfl) hb1.row).so hk
  rw [hko'] at d0 d1
  simp only at d0 d1
  have HL := Lib.hid (ownC (id := x) (c := xc) (A := xa) (w := w1) hll (hko' ▸ hb1.each _ (List.getElem_mem hk)).2.1)
  have h1 := HN.out.below F1.out HN.out.lt
  have HN1 := Lib.hid h1
  have HS1 : Hid (w.heap.size ≤ w1.heap.size) := Lib.hid (Nat.le_trans HBL.out.size F1.out.size)
  have HB1 := Lib.hid (HBL.out.trans (F1.out.mono HBL.out.size))
  clear hb1 hb' h1 HBK
  go_wp2_with fail
  refine Calls.mono HL.out ?_
  rintro e w2 ⟨A2, c2, rfl, HM, HF⟩
  have h1 := HN1.out.fr HF.out (fun h => h)
  have e0 := h1.cell 0
  have f0 := h1.frozen 0
  have h2 : Blk (w2.setCell ⟨w.heap.size, 0, none⟩ (.int .u32 x)) w.heap.size 25 #[.int .u32 x, .slice none 0 0] := by simpa using h1.set_ 0 (.int .u32 x)
  have e1 := h2.cell 1
  have f1 := h2.frozen 1
  have h3 : Blk ((w2.setCell ⟨w.heap.size, 0, none⟩ (.int .u32 x)).setCell ⟨w.heap.size, 1, none⟩ (.slice A2 xl.length c2)) w.heap.size 25 #[.int .u32 x, .slice A2 xl.length c2] := by simpa using h2.set_ 1 (.slice A2 xl.length c2)
  have H3 := Lib.hid h3
  have H1 := Lib.hid h1
  clear h1 h2 h3
  go_wp2
  refine bodyPost_ret_by (results_row_tmp rfl _ _ w.heap.size 25 _ (0, 0) _ rfl H3.out Tryd.underlying25 rfl (by kernel_rfl)) rfl ?_
  have hF : Fr (fun j => j = w.heap.size) w2 ((w2.setCell ⟨w.heap.size, 0, none⟩ (.int .u32 x)).setCell ⟨w.heap.size, 1, none⟩ (.slice A2 xl.length c2)) := ((Fr.refl (fun j => j = w.heap.size) w2).setCell (p := ⟨w.heap.size, 0, none⟩) (fun _ => rfl) _).setCell (p := ⟨w.heap.size, 1, none⟩) (fun _ => rfl) _
  exact ⟨A2, c2, rfl, Lib.hid ((HM.out.fr hF (fun j e h => own_blk_ne HM.out.1 H1.out (by decide) (h ▸ e))).low HS1.out), Lib.hid (below_fr (HB1.out.trans (HF.out.below0.mono HS1.out)) hF (Nat.le_trans HS1.out HF.out.size) (fun j e => by omega))⟩
end Go.Proofs.YtigknfkkegccgaaDoor.K
