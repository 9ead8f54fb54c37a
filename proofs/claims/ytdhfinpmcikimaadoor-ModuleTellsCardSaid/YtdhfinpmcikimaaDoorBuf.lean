/- bytes.Buffer, the first field of a Writer: grow, with what it leaves alone. -/
import Derived.Test.YtdhfinpmcikimaaDoorKit
import Derived.Test.YtdhfinpmcikimaaDoorShelf
import Derived.Deep.RegionWith
import Derived.BigQuiet
namespace Go.Proofs.YtdhfinpmcikimaaDoor.K
open Go.RowKit
set_option linter.unusedVariables false
set_option linter.unusedSimpArgs false
theorem info_u8 : (Tryd.prog.info? 5).map (fun i => (i.zero, i.size, i.bytes)) = some (some (.int .u8 0), 1, 1) := by kernel_rfl
/-- Block b is a Writer that has only been written: its row is v, its bytes bs. -/
def Buf (b : Nat) (v : Value) (bs : List Value) (w : World) : Prop := (∃ lr, Blk w b 107 #[v, .int .i64 0, .int .i8 lr]) ∧ w.ownsRow 0 5 1 v bs.length bs ∧ v.ownBlock ≠ some b

set_option maxHeartbeats 4000000 in
set_option maxRecDepth 10000 in
theorem len_own {b : Nat} {w : World} {A : Option Addr} {l c : Nat} {lr : Int} (h : Blk w b 107 #[.slice A l c, .int .i64 0, .int .i8 lr]) (hl : l ≤ 9223372036854775807) :
    Calls Tryd.prog 66 #[.pointer (some ⟨b, 0, none⟩)] w fun e w' => e = .returned (.int .i64 l) ∧ ∃ n, w' = w.drewN n := by
  have c0 : w.cell? ⟨b, 0, none⟩ = some (.slice A l c) := h.cell 0
  have c1 : w.cell? ⟨b, 1, none⟩ = some (.int .i64 0) := h.cell 1
  go_enter Tryd.func66, Tryd.ntmps66
  go_wp2_with fail
  go_quiet (fail)
  go_wp2
  go_ret
  exact ⟨rfl, _, rfl⟩

/-- What grow leaves: room for n more, what was there in front. -/
def GrowPost (b : Nat) (bs : List Value) (n : Nat) (w : World) (e : Ending) (w' : World) : Prop :=
  e = .returned (.int .i64 bs.length) ∧ ∃ k cap cells, w.heap.size ≤ k ∧ (∃ lr, Blk w' b 107 #[.slice (some ⟨k, 0, none⟩) (bs.length + n) cap, .int .i64 0, .int .i8 lr]) ∧ Blk w' k 5 cells ∧ cells.size = cap ∧ cap ≤ maxLen ∧ bs.length + n ≤ cap ∧ cells.toList.take bs.length = bs ∧ Fr1 b w w'

theorem blk_now {w w1 : World} {b : Nat} {t : TypeId} {cs : Array Value} (h : Blk w b t cs) {q : Nat} (e : w1 = w.drewN q) : Blk w1 b t cs := by subst e; exact h
theorem made_take (n : Nat) (hn : n ≤ 64) : (madeCells #[.int .u8 0] 64).size = 64 := by simp [madeCells]
set_option maxHeartbeats 4000000 in
set_option maxRecDepth 10000 in
theorem grow_small {b n : Nat} {lr : Int} {w : World} (h : Blk w b 107 #[.slice none 0 0, .int .i64 0, .int .i8 lr]) (hn : 1 ≤ n) (h64 : n ≤ 64) :
    Calls Tryd.prog 65 #[.pointer (some ⟨b, 0, none⟩), .int .i64 n] w (GrowPost b [] n w) := by
  obtain ⟨i0, hi, hz0, hz1, hz2⟩ := info_parts info_u8
  have hmk : ∀ W, (Instr.makeSlice 26 (.int .i64 n) (.int .i64 64)).run Tryd.prog W = .ok (.slice (some ⟨W.heap.size, 0, none⟩) n 64) (W.alloc (.cells (madeCells #[.int .u8 0] 64) 5)) := fun W => by
    have := run_make (P := Tryd.prog) W 26 5 i0 (.int .u8 0) Tryd.underlying26 hi hz0 .i64 .i64 n 64 (by omega) (by omega) (by rw [hz2]; omega) (by omega)
    rw [hz1] at this
    simpa [Value.cells] using this
  clear hi hz0 hz1 hz2
  have hnil : ∀ W, (binOp .eql 26 (.slice none 0 0) (.slice none 0 0)).run Tryd.prog W = .ok (.bool true) W := fun W => Lib.run_eql_slice_nil_nil W 0 0 Tryd.underlying26
  have c0 : w.cell? ⟨b, 0, none⟩ = some (.slice none 0 0) := h.cell 0
  go_enter Tryd.func65, Tryd.ntmps65
  go_wp2_with fail
  (with_reducible refine (len_own h (by omega)).mono ?_)
  rintro e w1 ⟨rfl, q, hw1⟩
  have H1 := Lib.hid (blk_now h hw1)
  have F1 : Hid (Fr1 b w w1) := Lib.hid (by subst hw1; exact (Fr.refl _ _).drewN q)
  have hs : w1.heap.size = w.heap.size := by subst hw1; rfl
  have HS := Lib.hid hs
  clear hw1 hs c0
  have c0 : w1.cell? ⟨b, 0, none⟩ = some (.slice none 0 0) := H1.out.cell 0
  have c1 : w1.cell? ⟨b, 1, none⟩ = some (.int .i64 0) := H1.out.cell 1
  have f0 := H1.out.frozen 0
  have c0' : (w1.alloc (.cells (madeCells #[.int .u8 0] 64) 5)).cell? ⟨b, 0, none⟩ = some (.slice none 0 0) := (H1.out.alloc _).cell 0
  have f0' : (w1.alloc (.cells (madeCells #[.int .u8 0] 64) 5)).frozen? ⟨b, 0, none⟩ = false := (H1.out.alloc _).frozen 0
  go_wp2_with (go_at_call 64; (with_reducible refine (Tryd.Buffer_tryGrow_none_at b 0 none 0 0 n w1 c0 (by omega) (by decide) (by omega)).mono ?_); rintro e w2 ⟨rfl, rfl⟩)
  go_ret
  have hlt := H1.out.lt
  refine ⟨rfl, w2.heap.size, 64, madeCells #[.int .u8 0] 64, Nat.le_of_eq HS.out.symm, ⟨lr, ?_⟩, (Blk.new w2 _ _).far (by simp; omega) _, by simp [madeCells], by decide, by simpa using h64, by simp, ?_⟩
  · have := (H1.out.alloc (.cells (madeCells #[.int .u8 0] 64) 5)).set_ 0 (.slice (some ⟨w2.heap.size, 0, none⟩) n 64)
    simpa using this
  · exact (F1.out.alloc _).setCell (fun _ => rfl) _

set_option maxHeartbeats 8000000 in
set_option maxRecDepth 10000 in
theorem grow_big {b n : Nat} {lr : Int} {w : World} (h : Blk w b 107 #[.slice none 0 0, .int .i64 0, .int .i8 lr]) (h64 : 64 < n) (hlim : n ≤ 140737488355328) :
    Calls Tryd.prog 65 #[.pointer (some ⟨b, 0, none⟩), .int .i64 n] w (GrowPost b [] n w) := by
  have hnil : ∀ W, (binOp .eql 26 (.slice none 0 0) (.slice none 0 0)).run Tryd.prog W = .ok (.bool true) W := fun W => Lib.run_eql_slice_nil_nil W 0 0 Tryd.underlying26
  have c0 : w.cell? ⟨b, 0, none⟩ = some (.slice none 0 0) := h.cell 0
  go_enter Tryd.func65, Tryd.ntmps65
  go_wp2_with fail
  (with_reducible refine (len_own h (by omega)).mono ?_)
  rintro e w1 ⟨rfl, q, hw1⟩
  have H1 := Lib.hid (blk_now h hw1)
  have F1 : Hid (Fr1 b w w1) := Lib.hid (by subst hw1; exact (Fr.refl _ _).drewN q)
  have hs : w1.heap.size = w.heap.size := by subst hw1; rfl
  have HS := Lib.hid hs
  clear hw1 hs c0
  have c0 : w1.cell? ⟨b, 0, none⟩ = some (.slice none 0 0) := H1.out.cell 0
  have c1 : w1.cell? ⟨b, 1, none⟩ = some (.int .i64 0) := H1.out.cell 1
  have f0 := H1.out.frozen 0
  have hwn : IntKind.i64.wrap (n : Int) = n := by rw [IntKind.wrap_i64]; omega
  go_wp2_with (go_at_call 64; (with_reducible refine (Tryd.Buffer_tryGrow_none_at b 0 none 0 0 n w1 c0 (by omega) (by decide) (by omega)).mono ?_); rintro e w2 ⟨rfl, rfl⟩)
  go_region_with (go_at_call 68; refine (Tryd.bytes_growSlice_nil n _ (by omega) hlim).mono ?_; rintro e w3 ⟨cap2, cells, rfl, hg, hcs, hnc, hcm, hb3⟩; have B3 := Lib.hid hb3; have G3 : Hid (Blk w3 w2.heap.size 5 cells) := Lib.hid hg; have H3 := Lib.hid (H1.out.drew.below hb3 H1.out.drew.lt); have d0 := H3.out.cell 0; have d1 := H3.out.cell 1; have e0 := H3.out.frozen 0; have e1 := H3.out.frozen 1; clear hg hb3)
  all_goals
    go_wp2
    go_ret
    have hlt := H1.out.lt
    have hne : b ≠ w2.heap.size := by omega
    refine ⟨rfl, w2.heap.size, cap2, cells, Nat.le_of_eq HS.out.symm, ⟨lr, ?_⟩, ((G3.out.far (Ne.symm hne) _).far (Ne.symm hne) _).far (Ne.symm hne) _, hcs, hcm, by simpa using hnc, by simp, ?_⟩
    · have := ((H3.out.set_ 0 (.slice (some ⟨w2.heap.size, 0, none⟩) 0 cap2)).set_ 1 (.int .i64 0)).set_ 0 (.slice (some ⟨w2.heap.size, 0, none⟩) n cap2)
      simpa using this
    · exact (((F1.out.drew.trans (Fr.of_below B3.out) (fun _ _ h => h.elim)).setCell (fun _ => rfl) _).setCell (fun _ => rfl) _).setCell (fun _ => rfl) _
end Go.Proofs.YtdhfinpmcikimaaDoor.K
