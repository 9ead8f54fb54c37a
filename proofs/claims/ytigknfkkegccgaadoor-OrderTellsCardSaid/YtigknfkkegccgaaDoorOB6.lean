/- Orders: Add. -/
import Derived.Test.YtigknfkkegccgaaDoorOB5
namespace Go.Proofs.YtigknfkkegccgaaDoor.K
open Go.RowKit
set_option linter.unusedVariables false
set_option linter.unusedSimpArgs false
attribute [local go_sem ↓] Go.wp_at_zero Go.wp_at_succ
theorem rightO_ne {ls : List Ln} (h : rightO ls ≠ 0) : rightO ls = 1 ∨ rightO ls = 3 ∨ rightO ls = 5 ∨ rightO ls = 8 ∨ rightO ls = 10 := by
  have := rightO_range ls; omega
set_option maxHeartbeats 2000000 in
set_option maxRecDepth 10000 in
theorem AddNo {B c : Nat} {id : Int} {p : Value} {A : Option Addr} {ls : List Ln} {w : World} (hr : RowOf cL 3 w B A ls) (hB : B ≤ w.heap.size) (hl : ls.length ≤ 140737488355328) (hc : ls.length ≤ c) (ho : ∀ l ∈ ls, l.ok) (hn : rightO ls ≠ 0) :
    Calls Tryd.prog 20 #[p, .agg #[.int .u32 id, .slice A ls.length c]] w fun e w' => e = .returned (.int .i64 (rightO ls)) ∧ Hid (Below w.heap.size w w') := by
  have hbl : Below w.heap.size w (w.alloc (.cells #[.int .u32 id, .slice A ls.length c] 25)) := (Below.refl _ w).alloc (Nat.le_refl _) _
  have HBL := Lib.hid hbl
  have HC := Lib.hid (RightC (id := id) (c := c) (RowOf.below hr (hbl.mono hB)) (by have := hbl.size; omega) hl hc ho)
  have hv := rightO_ne hn
  generalize rightO ls = v at *
  clear hbl hr ho hn
  rcases hv with rfl | rfl | rfl | rfl | rfl
  all_goals
    go_enter Tryd.func20, Tryd.ntmps20
    go_wp2_with fail
    refine Calls.mono HC.out ?_
    rintro e w1 ⟨rfl, F1⟩
    go_wp2
    go_ret
    exact ⟨rfl, Lib.hid (HBL.out.trans (F1.out.mono HBL.out.size))⟩
theorem Ever.drew {g : Nat} {ids : List Int} {w : World} (h : Ever g ids w) : Ever g ids w.drew := h
set_option maxHeartbeats 2000000 in
set_option maxRecDepth 10000 in
theorem AddTwice {B Bb b g c : Nat} {v : Value} {os : List So} {ids : List Int} {id : Int} {A : Option Addr} {ls : List Ln} {w : World} (h : Bk Bb b g v os ids w) (hid : 0 ≤ id ∧ id < 4294967296) (hr : RowOf cL 3 w B A ls) (hB : B ≤ w.heap.size) (hl : ls.length ≤ 140737488355328) (hc : ls.length ≤ c) (ho : ∀ l ∈ ls, l.ok) (hn : rightO ls = 0) (hm : id ∈ ids) :
    Calls Tryd.prog 20 #[.pointer (some ⟨b, 0, none⟩), .agg #[.int .u32 id, .slice A ls.length c]] w fun e w' => e = .returned (.int .i64 8) ∧ Hid (Below w.heap.size w w') := by
  have hbl : Below w.heap.size w (w.alloc (.cells #[.int .u32 id, .slice A ls.length c] 25)) := (Below.refl _ w).alloc (Nat.le_refl _) _
  have HBL := Lib.hid hbl
  have HN := Lib.hid (Blk.new w 25 #[.int .u32 id, .slice A ls.length c])
  have HBK := Lib.hid (h.fr ((Fr.refl (fun _ => False) w).alloc (.cells #[.int .u32 id, .slice A ls.length c] 25)) (fun _ _ _ h => h))
  have HC := Lib.hid (RightC (id := id) (c := c) (RowOf.below hr (hbl.mono hB)) (by have := hbl.size; omega) hl hc ho)
  rw [hn] at HC
  clear hbl hr ho hn h
  go_enter Tryd.func20, Tryd.ntmps20
  go_wp2_with fail
  refine Calls.mono HC.out ?_
  rintro e w1 ⟨rfl, F1⟩
  have hb1 := HBK.out.fr (Fr.of_below F1.out) (fun _ _ _ h => h)
  have h1 := HN.out.below F1.out HN.out.lt
  have d0 := h1.cell 0
  have d1 := h1.cell 1
  have q0 := hb1.blk.cell 0
  have q1 := hb1.blk.cell 1
  have hlk := ever_lookup hb1.ever.drew id hid.1 hid.2
  rw [show decide (id ∈ ids) = true by simp [hm]] at hlk
  clear hb1 h1
  go_wp2_with fail
  go_region
  go_wp2
  go_ret
  exact ⟨rfl, Lib.hid (below_dr (HBL.out.trans (F1.out.mono HBL.out.size)))⟩
set_option maxHeartbeats 2000000 in
set_option maxRecDepth 10000 in
theorem AddFull {B Bb b g c : Nat} {v : Value} {os : List So} {ids : List Int} {id : Int} {A : Option Addr} {ls : List Ln} {w : World} (h : Bk Bb b g v os ids w) (hid : 0 ≤ id ∧ id < 4294967296) (hr : RowOf cL 3 w B A ls) (hB : B ≤ w.heap.size) (hl : ls.length ≤ 140737488355328) (hc : ls.length ≤ c) (ho : ∀ l ∈ ls, l.ok) (hn : rightO ls = 0) (hm : id ∉ ids) (hos : os.length ≤ 1000) (hids : ids.length ≤ 100000) (hfull : 16 ≤ os.length ∨ 1024 ≤ ids.length) :
    Calls Tryd.prog 20 #[.pointer (some ⟨b, 0, none⟩), .agg #[.int .u32 id, .slice A ls.length c]] w fun e w' => e = .returned (.int .i64 5) ∧ Hid (Below w.heap.size w w') := by
  have hbl : Below w.heap.size w (w.alloc (.cells #[.int .u32 id, .slice A ls.length c] 25)) := (Below.refl _ w).alloc (Nat.le_refl _) _
  have HBL := Lib.hid hbl
  have HN := Lib.hid (Blk.new w 25 #[.int .u32 id, .slice A ls.length c])
  have HBK := Lib.hid (h.fr ((Fr.refl (fun _ => False) w).alloc (.cells #[.int .u32 id, .slice A ls.length c] 25)) (fun _ _ _ h => h))
  have HC := Lib.hid (RightC (id := id) (c := c) (RowOf.below hr (hbl.mono hB)) (by have := hbl.size; omega) hl hc ho)
  rw [hn] at HC
  clear hbl hr ho hn h
  go_enter Tryd.func20, Tryd.ntmps20
  go_wp2_with fail
  refine Calls.mono HC.out ?_
  rintro e w1 ⟨rfl, F1⟩
  have hb1 := HBK.out.fr (Fr.of_below F1.out) (fun _ _ _ h => h)
  have h1 := HN.out.below F1.out HN.out.lt
  have d0 := h1.cell 0
  have d1 := h1.cell 1
  have q0 := hb1.blk.cell 0
  have q1 := hb1.blk.cell 1
  have hlk := ever_lookup hb1.ever.drew id hid.1 hid.2
  rw [show decide (id ∈ ids) = false by simp [hm]] at hlk
  have hln := fun ty => ever_len hb1.ever.drew ty
  obtain ⟨VA, vc, rfl, hvc⟩ := own_form hb1.row
  clear hb1 h1
  by_cases hf : 16 ≤ os.length
  all_goals
    go_wp2_with fail
    go_region
    go_wp2
    go_ret
    exact ⟨rfl, Lib.hid (below_dr (HBL.out.trans (F1.out.mono HBL.out.size)))⟩
end Go.Proofs.YtigknfkkegccgaaDoor.K
