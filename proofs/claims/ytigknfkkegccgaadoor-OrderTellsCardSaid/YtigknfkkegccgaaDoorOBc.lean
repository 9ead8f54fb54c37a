/- Orders: few: at most twelve lines, in a row of the call's own. -/
import Derived.Test.YtigknfkkegccgaaDoorOBb
namespace Go.Proofs.YtigknfkkegccgaaDoor.K
open Go.RowKit
set_option linter.unusedVariables false
set_option linter.unusedSimpArgs false
attribute [local go_sem ↓] Go.wp_at_zero Go.wp_at_succ
attribute [local go_sem] min2_min min_two
set_option maxHeartbeats 4000000 in
set_option maxRecDepth 10000 in
theorem FewC {A : Option Addr} {c : Nat} {id : Int} {ls : List Ln} {w : World} (hc : ls.length ≤ c) (h : RowOf cL 3 w w.heap.size A ls) :
    Calls Tryd.prog 10 #[.agg #[.int .u32 id, .slice A ls.length c]] w fun e w' => ∃ A' c', e = .returned (.agg #[.int .u32 id, .slice A' (ls.take 12).length c']) ∧ Hid (MadeL w.heap.size A' c' (ls.take 12) w') ∧ Hid (Fr0 w w') := by
  have hk : (ls.take 12).length = min ls.length 12 := by rw [List.length_take, Nat.min_comm]
  have hn : min (ls.length : Int) 12 = ((ls.take 12).length : Int) := by rw [hk]; omega
  have hl12 : (ls.take 12).length ≤ 12 := by omega
  have hcut := fun W => lcut_hi A ls.length c (ls.take 12).length (by omega) W
  have HR := Lib.hid (RowOf.take_ h 12)
  generalize ls.take 12 = l at *
  clear h hk
  obtain ⟨W, hW⟩ : ∃ W, W = (w.alloc (.cells #[.int .u32 id, .slice A ls.length c] 25)).alloc (.cells #[.int .u32 0, .slice none 0 0] 25) := ⟨_, rfl⟩
  have hp : Blk W w.heap.size 25 #[.int .u32 id, .slice A ls.length c] := by rw [hW]; exact (Blk.new w _ _).alloc _
  have hq : Blk W (w.heap.size + 1) 25 #[.int .u32 0, .slice none 0 0] := by rw [hW]; exact Blk.new_at (by simp)
  have hb : Below w.heap.size w W := by rw [hW]; exact ((Below.refl _ w).alloc (Nat.le_refl _) _).alloc (by simp) _
  have hs : W.heap.size = w.heap.size + 2 := by rw [hW]; simp
  have c0 := hp.cell 0
  have c1 := hp.cell 1
  have hmin : min (ls.length : Int) 12 = (l.length : Int) := hn
  have hz : W.drew.heap.size = w.heap.size + 2 := hs
  have HRow := Lib.hid (RowOf.below HR.out hb)
  have HO : Hid ((W.drew.alloc (.cells #[] 51)).ownsRow (w.heap.size + 2) 51 3 (.slice (some ⟨w.heap.size + 2, 0, none⟩) 0 0) 0 ([] : List Value)) := Lib.hid (by
    have := World.ownsRow_lit (base := w.heap.size + 2) (e := 51) (size := 3) W.drew #[] 0 (by omega) (by decide) rfl
    rwa [hz] at this)
  have HP := Lib.hid hp
  have HQ := Lib.hid hq
  have HB := Lib.hid hb
  have HWE := Lib.hid hW.symm
  clear hp hq hb hW hn HR
  go_enter Tryd.func10, Tryd.ntmps10
  go_wp2_with fail
  rw [HWE.out]
  clear HWE
  go_region_held_law (fun w' => w'.cell? ⟨w.heap.size, 0, none⟩ = some (.int .u32 id) ∧ w'.cell? ⟨w.heap.size, 1, none⟩ = some (.slice A ls.length c)) (first | go_keep | exact hk3) ((refine stepR (c := cL) rfl _ _ _ rfl 51 (.agg #[.int .u16 0, .int .u16 0, .int .i64 0]) 3 16 Tryd.underlying23 info_ln rfl (by omega) (by omega) (fun _ => rfl) one_ln (w.heap.size + 2) w.heap.size (.slice (some ⟨w.heap.size + 2, 0, none⟩) 0 0) [] l _ _ (by first | rfl | (show Value.slice (some ⟨W.heap.size, 0, none⟩) 0 0 = _; rw [hs])) rfl (RowOf.below HRow.out (((Below.refl w.heap.size W).drew).alloc (by omega) _)) HO.out (by simp; omega) (by simp only [List.length_nil]; omega) ?_; intro v3 w3 h3 h4 h5; have F3 : Hid (Fr0 W w3) := Lib.hid ((((Fr.refl (fun _ => False) W).drew).alloc _).trans h4 (fun j hj e => by have := Option.some.inj e; simp at this; omega)); obtain ⟨A3, c3, rfl, hm3⟩ := madeL_of (B := w.heap.size + 2) (v := v3) (l := l) h3; have M3 := Lib.hid hm3; have hp3 := HP.out.fr F3.out (fun h => h); have hk3 := And.intro (hp3.cell 0) (hp3.cell 1); have hq3 := HQ.out.fr F3.out (fun h => h); have e0 := hq3.cell 0; have g0 := hq3.frozen 0; have hq4 : Blk (w3.setCell ⟨w.heap.size + 1, 0, none⟩ (.int .u32 id)) (w.heap.size + 1) 25 #[.int .u32 id, .slice none 0 0] := (by simpa using hq3.set_ 0 (.int .u32 id)); have e1 := hq4.cell 1; have g1 := hq4.frozen 1; have hq5 : Blk ((w3.setCell ⟨w.heap.size + 1, 0, none⟩ (.int .u32 id)).setCell ⟨w.heap.size + 1, 1, none⟩ (.slice A3 l.length c3)) (w.heap.size + 1) 25 #[.int .u32 id, .slice A3 l.length c3] := (by simpa using hq4.set_ 1 (.slice A3 l.length c3)); have HQ5 := Lib.hid hq5; have HQ3 := Lib.hid hq3; clear h3 h4 h5 hm3 hp3 hq3 hq4 hq5))
  all_goals
    go_wp2
    refine bodyPost_ret_by (results_cell_row rfl _ _ (w.heap.size + 1) 25 _ (0, 0) _ rfl HQ5.out Tryd.underlying25 rfl (by kernel_rfl)) rfl ?_
    have hF : Fr (fun j => j = w.heap.size + 1) w3 ((w3.setCell ⟨w.heap.size + 1, 0, none⟩ (.int .u32 id)).setCell ⟨w.heap.size + 1, 1, none⟩ (.slice A3 l.length c3)) := ((Fr.refl (fun j => j = w.heap.size + 1) w3).setCell (p := ⟨w.heap.size + 1, 0, none⟩) (fun _ => rfl) _).setCell (p := ⟨w.heap.size + 1, 1, none⟩) (fun _ => rfl) _
    exact ⟨A3, c3, rfl, Lib.hid ((M3.out.fr hF (fun j e h => by have := (M3.out.1.lt j e).1; omega)).low (by omega)), Lib.hid (Fr.of_below (below_fr (HB.out.trans (F3.out.below0.mono (by omega))) hF (by have := F3.out.size; omega) (fun j e => by omega)))⟩
end Go.Proofs.YtigknfkkegccgaaDoor.K
