/- The document's frame, and its slave: a frame of an api's, New, Offer. -/
import Derived.Test.YtdhfinpmcikimaaDoorMl
import Derived.Deep.CutBlock
import Derived.Deep.DeepCutAuto
namespace Go.Proofs.YtdhfinpmcikimaaDoor.K
open Go.RowKit
set_option linter.unusedVariables false
set_option linter.unusedSimpArgs false
theorem nilE : (ByteArray.mk #[]).toList.isEmpty = true := by rw [ByteArray.toList_eq]; rfl
theorem strE {l : List Int} : (strOfNums l).toList.isEmpty = decide (l.length = 0) := by
  cases l with
  | nil => rw [strE_nil, nilE]; rfl
  | cons y l => rw [str_list]; simp
/-- A frame of the document's. -/
abbrev rfv (f : Fm) : Array Value := #[.int .u8 f.addr, .int .u8 f.kind, .int .u8 f.ses, .int .u8 f.seq, .int .u8 f.ack, .string (strOfNums f.B)]
/-- A slave of the document's. -/
abbrev rsv (st : Sl) : Array Value := #[.int .u8 st.addr, .int .u8 st.num, .int .u8 st.tells, .int .u8 st.next, .string (strOfNums st.pend)]
abbrev stR (w : World) (g : Nat) (f : Fm) : World := (((((w.setCell ⟨g, 0, none⟩ (.int .u8 f.addr)).setCell ⟨g, 1, none⟩ (.int .u8 f.kind)).setCell ⟨g, 2, none⟩ (.int .u8 f.ses)).setCell ⟨g, 3, none⟩ (.int .u8 f.seq)).setCell ⟨g, 4, none⟩ (.int .u8 f.ack)).setCell ⟨g, 5, none⟩ (.string (strOfNums f.B))
theorem stR_facts {w : World} {g : Nat} {t : TypeId} {f1 : Fm} (h : Blk w g t (rfv f1)) (f : Fm) :
    (w.cell? ⟨g, 0, none⟩ = some (.int .u8 f1.addr) ∧ w.frozen? ⟨g, 0, none⟩ = false ∧
    (w.setCell ⟨g, 0, none⟩ (.int .u8 f.addr)).cell? ⟨g, 1, none⟩ = some (.int .u8 f1.kind) ∧ (w.setCell ⟨g, 0, none⟩ (.int .u8 f.addr)).frozen? ⟨g, 1, none⟩ = false ∧
    ((w.setCell ⟨g, 0, none⟩ (.int .u8 f.addr)).setCell ⟨g, 1, none⟩ (.int .u8 f.kind)).cell? ⟨g, 2, none⟩ = some (.int .u8 f1.ses) ∧ ((w.setCell ⟨g, 0, none⟩ (.int .u8 f.addr)).setCell ⟨g, 1, none⟩ (.int .u8 f.kind)).frozen? ⟨g, 2, none⟩ = false ∧
    (((w.setCell ⟨g, 0, none⟩ (.int .u8 f.addr)).setCell ⟨g, 1, none⟩ (.int .u8 f.kind)).setCell ⟨g, 2, none⟩ (.int .u8 f.ses)).cell? ⟨g, 3, none⟩ = some (.int .u8 f1.seq) ∧ (((w.setCell ⟨g, 0, none⟩ (.int .u8 f.addr)).setCell ⟨g, 1, none⟩ (.int .u8 f.kind)).setCell ⟨g, 2, none⟩ (.int .u8 f.ses)).frozen? ⟨g, 3, none⟩ = false ∧
    ((((w.setCell ⟨g, 0, none⟩ (.int .u8 f.addr)).setCell ⟨g, 1, none⟩ (.int .u8 f.kind)).setCell ⟨g, 2, none⟩ (.int .u8 f.ses)).setCell ⟨g, 3, none⟩ (.int .u8 f.seq)).cell? ⟨g, 4, none⟩ = some (.int .u8 f1.ack) ∧ ((((w.setCell ⟨g, 0, none⟩ (.int .u8 f.addr)).setCell ⟨g, 1, none⟩ (.int .u8 f.kind)).setCell ⟨g, 2, none⟩ (.int .u8 f.ses)).setCell ⟨g, 3, none⟩ (.int .u8 f.seq)).frozen? ⟨g, 4, none⟩ = false ∧
    (((((w.setCell ⟨g, 0, none⟩ (.int .u8 f.addr)).setCell ⟨g, 1, none⟩ (.int .u8 f.kind)).setCell ⟨g, 2, none⟩ (.int .u8 f.ses)).setCell ⟨g, 3, none⟩ (.int .u8 f.seq)).setCell ⟨g, 4, none⟩ (.int .u8 f.ack)).cell? ⟨g, 5, none⟩ = some (.string (strOfNums f1.B)) ∧ (((((w.setCell ⟨g, 0, none⟩ (.int .u8 f.addr)).setCell ⟨g, 1, none⟩ (.int .u8 f.kind)).setCell ⟨g, 2, none⟩ (.int .u8 f.ses)).setCell ⟨g, 3, none⟩ (.int .u8 f.seq)).setCell ⟨g, 4, none⟩ (.int .u8 f.ack)).frozen? ⟨g, 5, none⟩ = false) ∧
    Blk (stR w g f) g t (rfv f) ∧ Fr (fun j => j = g) w (stR w g f) := by
  have b0 := h
  have b1 := b0.set_ 0 (.int .u8 f.addr)
  have b2 := b1.set_ 1 (.int .u8 f.kind)
  have b3 := b2.set_ 2 (.int .u8 f.ses)
  have b4 := b3.set_ 3 (.int .u8 f.seq)
  have b5 := b4.set_ 4 (.int .u8 f.ack)
  refine ⟨⟨b0.cell 0, b0.frozen 0, b1.cell 1, b1.frozen 1, b2.cell 2, b2.frozen 2, b3.cell 3, b3.frozen 3, b4.cell 4, b4.frozen 4, b5.cell 5, b5.frozen 5⟩, by simpa using b5.set_ 5 (.string (strOfNums f.B)), ?_⟩
  exact ((((((Fr.refl (fun j => j = g) w).setCell (p := ⟨g, 0, none⟩) (fun _ => rfl) _).setCell (p := ⟨g, 1, none⟩) (fun _ => rfl) _).setCell (p := ⟨g, 2, none⟩) (fun _ => rfl) _).setCell (p := ⟨g, 3, none⟩) (fun _ => rfl) _).setCell (p := ⟨g, 4, none⟩) (fun _ => rfl) _).setCell (p := ⟨g, 5, none⟩) (fun _ => rfl) _
theorem Blk.fm {w : World} {g : Nat} {t : TypeId} {f : Fm} (h : Blk w g t (rfv f)) : w.cell? ⟨g, 0, none⟩ = some (.int .u8 f.addr) ∧ w.cell? ⟨g, 1, none⟩ = some (.int .u8 f.kind) ∧ w.cell? ⟨g, 2, none⟩ = some (.int .u8 f.ses) ∧ w.cell? ⟨g, 3, none⟩ = some (.int .u8 f.seq) ∧ w.cell? ⟨g, 4, none⟩ = some (.int .u8 f.ack) ∧ w.cell? ⟨g, 5, none⟩ = some (.string (strOfNums f.B)) :=
  ⟨h.cell 0, h.cell 1, h.cell 2, h.cell 3, h.cell 4, h.cell 5⟩
set_option maxHeartbeats 1000000 in
theorem ROfC07 (f : Fm) (A : Option Addr) (c : Nat) (w : World) (hr : RowOf c8 1 w w.heap.size A f.B) : Calls Tryd.prog 25 #[.agg (fmv f A c)] w fun e w' => e = .returned (.agg (rfv f)) ∧ Hid (Fr0 w w') := by
  obtain ⟨fa, fk, fs, fq, fx, fB⟩ := f
  have F2 : Fr0 w ((w.alloc (.cells #[.int .u8 fa, .int .u8 fk, .int .u8 fs, .int .u8 fq, .int .u8 fx, .slice A fB.length c] 54)).alloc (.cells #[.int .u8 0, .int .u8 0, .int .u8 0, .int .u8 0, .int .u8 0, .string (ByteArray.mk #[])] 70)) := ((Fr.refl (fun _ => False) w).alloc _).alloc _
  have hcv := str_row (c := c) (RowOf.now hr F2.below0)
  have hb : Blk ((w.alloc (.cells #[.int .u8 fa, .int .u8 fk, .int .u8 fs, .int .u8 fq, .int .u8 fx, .slice A fB.length c] 54)).alloc (.cells #[.int .u8 0, .int .u8 0, .int .u8 0, .int .u8 0, .int .u8 0, .string (ByteArray.mk #[])] 70)) (w.heap.size + 1) 70 (rfv f0) := Blk.new_at (by simp)
  obtain ⟨W, hW⟩ : ∃ W, W = (w.alloc (.cells #[.int .u8 fa, .int .u8 fk, .int .u8 fs, .int .u8 fq, .int .u8 fx, .slice A fB.length c] 54)).alloc (.cells #[.int .u8 0, .int .u8 0, .int .u8 0, .int .u8 0, .int .u8 0, .string (ByteArray.mk #[])] 70) := ⟨_, rfl⟩
  have hp : Blk W w.heap.size 54 #[.int .u8 fa, .int .u8 fk, .int .u8 fs, .int .u8 fq, .int .u8 fx, .slice A fB.length c] := by rw [hW]; exact (Blk.new w _ _).alloc _
  rw [← hW] at hb hcv F2
  obtain ⟨⟨d0, e0, d1, e1, d2, e2, d3, e3, d4, e4, d5, e5⟩, hB, hF⟩ := stR_facts hb ⟨fa, fk, fs, fq, fx, fB⟩
  have HBB := Lib.hid hB
  have HF : Hid (Fr0 w (stR W (w.heap.size + 1) ⟨fa, fk, fs, fq, fx, fB⟩)) := Lib.hid (F2.trans hF (fun j hj e => by omega))
  have p0 := hp.cell 0
  have p1 := hp.cell 1
  have p2 := hp.cell 2
  have p3 := hp.cell 3
  have p4 := hp.cell 4
  have p5 := hp.cell 5
  have HW := Lib.hid hW
  have hsz : W.heap.size = w.heap.size + 2 := by rw [hW]; simp
  clear hB hF hb F2 hr hp hW hsz
  go_enter Tryd.func25, Tryd.ntmps25
  go_upto_region 1 with (fail)
  rw [← HW.out]
  go_wp2
  refine bodyPost_ret_by (results_cell_row rfl _ _ (w.heap.size + 1) 70 _ (0, 0) _ rfl HBB.out Tryd.underlying70 rfl (by kernel_rfl)) rfl ?_
  exact ⟨rfl, HF⟩
theorem RNewC08 (a : Int) (w : World) : Calls Tryd.prog 38 #[.int .u8 a] w fun e w' => e = .returned (.pointer (some ⟨w.heap.size, 0, none⟩)) ∧ Hid (Blk w' w.heap.size 95 (rsv ⟨0, 0, 0, a, []⟩)) ∧ Hid (Fr0 w w') := by
  have HB : Hid (Blk (w.alloc (.cells #[.int .u8 a, .int .u8 0, .int .u8 0, .int .u8 0, .string (ByteArray.mk #[])] 95)) w.heap.size 95 (rsv ⟨0, 0, 0, a, []⟩)) := Lib.hid (Blk.new w _ _)
  have HF : Hid (Fr0 w (w.alloc (.cells #[.int .u8 a, .int .u8 0, .int .u8 0, .int .u8 0, .string (ByteArray.mk #[])] 95))) := Lib.hid ((Fr.refl (fun _ => False) w).alloc _)
  go_enter Tryd.func38, Tryd.ntmps38
  go_wp2
  go_ret
  exact ⟨rfl, HB, HF⟩
set_option maxHeartbeats 1000000 in
theorem ROfferC08 {r : Nat} {st : Sl} {l : List Int} {w : World} (h : Blk w r 95 (rsv st)) (hl : l.length ≤ 1000) :
    Calls Tryd.prog 44 #[.pointer (some ⟨r, 0, none⟩), .string (strOfNums l)] w fun e w' => e = .returned (.int .i64 (offN st l)) ∧ Hid (Blk w' r 95 (rsv (offS st l))) ∧ Hid (Fr (fun j => j = r) w w') := by
  have hs := str_size l
  have hE := strE (l := l)
  have hP := strE (l := st.pend)
  have c4 : w.cell? ⟨r, 4, none⟩ = some (.string (strOfNums st.pend)) := h.cell 4
  have f4 := h.frozen 4
  have HS0 := Lib.hid h
  have HF0 : Hid (Fr (fun j => j = r) w w) := Lib.hid (Fr.refl _ w)
  have HS1 : Hid (Blk (w.setCell ⟨r, 4, none⟩ (.string (strOfNums l))) r 95 (rsv ⟨st.num, st.tells, st.next, st.addr, l⟩)) := Lib.hid (by simpa using h.set_ 4 (.string (strOfNums l)))
  have HF1 : Hid (Fr (fun j => j = r) w (w.setCell ⟨r, 4, none⟩ (.string (strOfNums l)))) := Lib.hid ((Fr.refl (fun j => j = r) w).setCell (p := ⟨r, 4, none⟩) (fun _ => rfl) _)
  by_cases h0 : l.length = 0
  · have hn : offN st l = 1 := by unfold offN; rw [if_pos (.inl h0)]
    have hS : offS st l = st := by unfold offS; rw [hn, if_neg (by decide)]
    have HN := Lib.hid (And.intro hn hS)
    rw [show decide (l.length = 0) = true from decide_eq_true h0] at hE
    clear h hn hS h0
    generalize strOfNums l = sl at *
    go_enter Tryd.func44, Tryd.ntmps44
    go_wp2
    go_ret
    rw [HN.out.1, HN.out.2]
    exact ⟨rfl, HS0, HF0⟩
  · rw [show decide (l.length = 0) = false from decide_eq_false h0] at hE
    by_cases h24 : 24 < l.length
    · have hn : offN st l = 1 := by unfold offN; rw [if_pos (.inr h24)]
      have hS : offS st l = st := by unfold offS; rw [hn, if_neg (by decide)]
      have HN := Lib.hid (And.intro hn hS)
      have hb : (24 : Int) < ((strOfNums l).size : Int) := by omega
      clear h hn hS h0 hs h24
      generalize strOfNums l = sl at *
      go_enter Tryd.func44, Tryd.ntmps44
      go_wp2
      go_ret
      rw [HN.out.1, HN.out.2]
      exact ⟨rfl, HS0, HF0⟩
    · have hb : ¬ (24 : Int) < ((strOfNums l).size : Int) := by omega
      by_cases hp : st.pend.length = 0
      · have hn : offN st l = 0 := by unfold offN; rw [if_neg (by omega), if_neg (by omega)]
        have hS : offS st l = ⟨st.num, st.tells, st.next, st.addr, l⟩ := by unfold offS; rw [hn, if_pos rfl]
        have HN := Lib.hid (And.intro hn hS)
        rw [show decide (st.pend.length = 0) = true from decide_eq_true hp] at hP
        clear h hn hS h0 hs h24 hp
        generalize strOfNums l = sl at *
        generalize strOfNums st.pend = sp at *
        go_enter Tryd.func44, Tryd.ntmps44
        go_wp2
        go_ret
        rw [HN.out.1, HN.out.2]
        exact ⟨rfl, HS1, HF1⟩
      · have hn : offN st l = 5 := by unfold offN; rw [if_neg (by omega), if_pos (by omega)]
        have hS : offS st l = st := by unfold offS; rw [hn, if_neg (by decide)]
        have HN := Lib.hid (And.intro hn hS)
        rw [show decide (st.pend.length = 0) = false from decide_eq_false hp] at hP
        clear h hn hS h0 hs h24 hp
        generalize strOfNums l = sl at *
        generalize strOfNums st.pend = sp at *
        go_enter Tryd.func44, Tryd.ntmps44
        go_wp2
        go_ret
        rw [HN.out.1, HN.out.2]
        exact ⟨rfl, HS0, HF0⟩
end Go.Proofs.YtdhfinpmcikimaaDoor.K
