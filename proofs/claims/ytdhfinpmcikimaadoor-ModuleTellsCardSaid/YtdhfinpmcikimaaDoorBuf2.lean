/- bytes.Buffer.grow where its row has no room. -/
import Derived.Test.YtdhfinpmcikimaaDoorBuf
namespace Go.Proofs.YtdhfinpmcikimaaDoor.K
open Go.RowKit
set_option linter.unusedVariables false
set_option linter.unusedSimpArgs false
theorem cut0 (g l cap : Nat) (W : World) (hl : l ≤ cap) : (Instr.slice 26 (.slice (some ⟨g, 0, none⟩) l cap) (some (.int .i64 0)) none none).run Tryd.prog W = .ok (.slice (some ⟨g, 0, none⟩) l cap) W := by
  obtain ⟨i0, hi, hz0, hz1, hz2⟩ := info_parts info_u8
  have hel : Tryd.prog.elem 26 = 5 := by simp [Program.elem, Tryd.underlying26]
  have hu : Tryd.prog.underlying 26 = some (.slice (Tryd.prog.elem 26)) := by rw [hel]; exact Tryd.underlying26
  rw [run_slice_l W 26 (some ⟨g, 0, none⟩) l cap hu .i64 0 (by omega) (by omega), hel]
  by_cases hc : cap = 0 <;> simp [sizeOf, typeInfo, hi, sliced, Result.andThen, Addr.add, hc]

set_option maxHeartbeats 8000000 in
set_option maxRecDepth 10000 in
theorem grow_row {b n g l cap : Nat} {lr : Int} {cur : Array Value} {w : World} (h : Blk w b 107 #[.slice (some ⟨g, 0, none⟩) l cap, .int .i64 0, .int .i8 lr]) (hg : Blk w g 5 cur) (hcs : cur.size = cap) (hl : l ≤ cap) (hcm : cap ≤ maxLen) (hn : 1 ≤ n) (hno : cap - l < n) (hlim : l + n ≤ 140737488355328)
    (h1 : ∀ u ∈ cur.toList.take l, u.oneCell' = true) (hbg : g ≠ b) :
    Calls Tryd.prog 65 #[.pointer (some ⟨b, 0, none⟩), .int .i64 n] w (GrowPost b (cur.toList.take l) n w) := by
  have hl0 : l = 0 ∨ 0 < l := by omega
  have hnil : ∀ W, (binOp .eql 26 (.slice (some ⟨g, 0, none⟩) l cap) (.slice none 0 0)).run Tryd.prog W = .ok (.bool false) W := fun W => Lib.run_eql_slice_some_nil W _ _ _ Tryd.underlying26
  have hcut := fun W => cut0 g l cap W hl
  have hcm' := hcm
  unfold maxLen at hcm'
  have hcap : cap ≤ 140737488355328 := by omega
  have hlen : (cur.toList.take l).length = l := by rw [List.length_take, Array.length_toList]; omega
  have HLen := Lib.hid hlen
  have c0 : w.cell? ⟨b, 0, none⟩ = some (.slice (some ⟨g, 0, none⟩) l cap) := h.cell 0
  have HG := Lib.hid hg
  have HO := Lib.hid h1
  clear hlen hg h1
  obtain ⟨m, hm⟩ : ∃ m : Nat, m = l := ⟨_, rfl⟩
  go_enter Tryd.func65, Tryd.ntmps65
  go_wp2_with fail
  (with_reducible refine (len_own h (by omega)).mono ?_)
  rintro e w1 ⟨rfl, q, hw1⟩
  have H1 := Lib.hid (blk_now h hw1)
  have G1 := Lib.hid (blk_now HG.out hw1)
  have F1 : Hid (Fr1 b w w1) := Lib.hid (by subst hw1; exact (Fr.refl _ _).drewN q)
  have hs : w1.heap.size = w.heap.size := by subst hw1; rfl
  have HS := Lib.hid hs
  clear hw1 hs c0
  have c0 : w1.cell? ⟨b, 0, none⟩ = some (.slice (some ⟨g, 0, none⟩) l cap) := H1.out.cell 0
  have c1 : w1.cell? ⟨b, 1, none⟩ = some (.int .i64 0) := H1.out.cell 1
  have f0 := H1.out.frozen 0
  have hwn : IntKind.i64.wrap (n : Int) = n := by rw [IntKind.wrap_i64]; omega
  have t1 : decide ((n : Int) ≤ (cap : Int).tdiv 2 - (l : Int)) = false := by
    rw [decide_eq_false_iff_not, Int.tdiv_eq_ediv_of_nonneg (by omega)]; omega
  have t2 : decide ((cap : Int) > 9223372036854775807 - (cap : Int) - (n : Int)) = false := by
    rw [decide_eq_false_iff_not]; omega
  clear hm m
  clear hl0
  by_cases hl0 : (l : Int) = 0
  all_goals
    go_wp2_with (go_at_call 64; (with_reducible refine (Tryd.Buffer_tryGrow_none_at b 0 _ l cap n w1 c0 hl hcm hno).mono ?_); rintro e w2 ⟨rfl, rfl⟩)
  all_goals
    go_region_with (go_at_call 68; refine (Tryd.bytes_growSlice_row g l cap n cur _ (by exact G1.out) hcs hl hn hlim hcap HO.out).mono ?_; rintro e w3 ⟨cap2, cells, rfl, hg, hcs2, htk, hnc, hcm2, hb3⟩; have B3 := Lib.hid hb3; have G3 : Hid (Blk w3 w2.heap.size 5 cells) := Lib.hid hg; have H3 := Lib.hid (H1.out.drew.below hb3 H1.out.drew.lt); have d0 := H3.out.cell 0; have d1 := H3.out.cell 1; have e0 := H3.out.frozen 0; have e1 := H3.out.frozen 1; have HT := Lib.hid htk; clear hg hb3 htk)
  all_goals
    go_wp2
    go_ret
    have hlt := H1.out.lt
    have hne : b ≠ w2.heap.size := by omega
    have hlen := HLen.out
    refine ⟨by (first | exact congrArg (fun k : Nat => Ending.returned (.int .i64 (k : Int))) hlen.symm | exact congrArg (fun k : Int => Ending.returned (.int .i64 k)) (show (0 : Int) = (((cur.toList.take l).length : Nat) : Int) by rw [hlen, hl0])), w2.heap.size, cap2, cells, Nat.le_of_eq HS.out.symm, ⟨lr, ?_⟩, ((G3.out.far (Ne.symm hne) _).far (Ne.symm hne) _).far (Ne.symm hne) _, hcs2, hcm2, by rw [hlen]; exact hnc, by rw [hlen]; exact HT.out, ?_⟩
    · have := ((H3.out.set_ 0 (.slice (some ⟨w2.heap.size, 0, none⟩) l cap2)).set_ 1 (.int .i64 0)).set_ 0 (.slice (some ⟨w2.heap.size, 0, none⟩) (l + n) cap2)
      rw [hlen]
      first
        | (simpa using this; done)
        | (have e : l + n = n := by omega
           rw [e] at this ⊢
           simpa using this)
    · exact (((F1.out.drew.trans (Fr.of_below B3.out) (fun _ _ h => h.elim)).setCell (fun _ => rfl) _).setCell (fun _ => rfl) _).setCell (fun _ => rfl) _
end Go.Proofs.YtdhfinpmcikimaaDoor.K
