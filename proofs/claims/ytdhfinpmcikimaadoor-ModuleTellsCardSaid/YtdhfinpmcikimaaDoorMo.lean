/- The document's slave: Take. -/
import Derived.Test.YtdhfinpmcikimaaDoorMn
import Derived.Deep.CutBlock
import Derived.Deep.DeepCutAuto
namespace Go.Proofs.YtdhfinpmcikimaaDoor.K
open Go.RowKit
set_option linter.unusedVariables false
set_option linter.unusedSimpArgs false
theorem results_rtake08 {w : World} {g : Nat} {f : Fm} {v5 v6 : Value} {tm : Array Value} (h : Blk w g 70 (rfv f)) (h2 : tm.getD 4 undef = .pointer (some ⟨g, 0, none⟩)) (h5 : tm.getD 5 undef = v5) (h6 : tm.getD 6 undef = v6) :
    (results Tryd.f39 tm).run Tryd.prog w = .ok (.tuple #[.agg (rfv f), v5, v6]) w := by
  obtain ⟨k0, k1, k2, k3, k4, k5⟩ := h.fm
  rw [Array.getD_eq_getD_getElem?] at h2 h5 h6
  simp [results, Tryd.results39, go_sem, h2, h5, h6, k0, k1, k2, k3, k4, k5]
/-- Where Take ends. -/
def RTakePost (r : Nat) (st : Sl) (f : Fm) (w : World) (e : Ending) (w' : World) : Prop :=
  ∃ an cm ok st', takeS st f = (an, cm, ok, st') ∧ e = .returned (.tuple #[.agg (rfv an), .string (strOfNums cm), .bool ok]) ∧ Hid (Blk w' r 95 (rsv st')) ∧ Hid (Fr (fun j => j = r) w w')
structure RT (r : Nat) (st : Sl) (f z : Fm) (w W : World) : Prop where
  sb : Blk W r 95 (rsv st)
  box : Blk W w.heap.size 70 (rfv f)
  res : Blk W (w.heap.size + 1) 70 (rfv z)
  fr : Fr (fun j => j = r) w W
  lt : r < w.heap.size
section
variable {r : Nat} {st st' : Sl} {f z : Fm} {w W W' : World}
theorem RT.put (h : RT r st f z w W) (k : Fr (fun j => j = r) W W') (hs : Blk W' r 95 (rsv st')) : RT r st' f z w W' := by
  have hl := h.lt
  exact ⟨hs, h.box.fr k (by omega), h.res.fr k (by omega), h.fr.trans k (fun _ _ e => e), h.lt⟩
theorem RT.next (h : RT r st f z w W) (k : Fr0 W W') : RT r st f z w W' := h.put (k.mono (fun _ _ h => h.elim)) (h.sb.fr k (fun h => h))
theorem rt_new (h : Blk w r 95 (rsv st)) : RT r st f f0 w ((w.alloc (.cells (rfv f) 70)).alloc (.cells #[.int .u8 0, .int .u8 0, .int .u8 0, .int .u8 0, .int .u8 0, .string (ByteArray.mk #[])] 70)) := by
  have F : Fr0 w ((w.alloc (.cells (rfv f) 70)).alloc (.cells #[.int .u8 0, .int .u8 0, .int .u8 0, .int .u8 0, .int .u8 0, .string (ByteArray.mk #[])] 70)) := ((Fr.refl (fun _ => False) w).alloc _).alloc _
  exact ⟨h.fr F (fun h => h), (Blk.new w _ _).alloc _, Blk.new_at (by simp), F.mono (fun _ _ h => h.elim), h.lt⟩
theorem rtake_end {g : Nat} {an : Fm} {cm : List Int} {ok : Bool} {tm : Array Value} {sb : ByteArray} (hk : Blk W' g 70 (rfv an)) (h4 : tm.getD 4 undef = .pointer (some ⟨g, 0, none⟩)) (h5 : tm.getD 5 undef = .string sb) (hcm : sb = strOfNums cm) (h6 : tm.getD 6 undef = .bool ok)
    (hT : takeS st f = (an, cm, ok, st')) (hS : Blk W' r 95 (rsv st')) (hF : Fr (fun j => j = r) w W') : bodyPost Tryd.prog Tryd.f39 (RTakePost r st f w) .ret ⟨tm, []⟩ W' := by
  subst hcm
  refine bodyPost_ret (results_rtake08 hk h4 h5 h6) rfl ?_
  exact ⟨an, cm, ok, st', hT, rfl, Lib.hid hS, Lib.hid hF⟩
set_option maxHeartbeats 1000000 in
theorem RTakeNo (h : Blk w r 95 (rsv st)) (hno : f.addr ≠ st.addr ∨ f.kind < 1 ∨ 3 < f.kind) :
    Calls Tryd.prog 39 #[.pointer (some ⟨r, 0, none⟩), .agg (rfv f)] w (RTakePost r st f w) := by
  have ht : takeS st f = (f0, [], false, st) := by unfold takeS; rw [if_pos hno]
  have htw := rt_new (f := f) h
  have HT := Lib.hid ht
  have HTW := Lib.hid htw
  have p0 : ((w.alloc (.cells #[.int .u8 f.addr, .int .u8 f.kind, .int .u8 f.ses, .int .u8 f.seq, .int .u8 f.ack, .string (strOfNums f.B)] 70)).alloc (.cells #[.int .u8 0, .int .u8 0, .int .u8 0, .int .u8 0, .int .u8 0, .string (ByteArray.mk #[])] 70)).cell? ⟨r, 0, none⟩ = some (.int .u8 st.addr) := htw.sb.cell 0
  clear ht htw h
  change Calls Tryd.prog 39 #[.pointer (some ⟨r, 0, none⟩), .agg #[.int .u8 f.addr, .int .u8 f.kind, .int .u8 f.ses, .int .u8 f.seq, .int .u8 f.ack, .string (strOfNums f.B)]] w _
  by_cases h1 : f.addr = st.addr
  · have b1 : (f.addr != st.addr) = false := by simp [h1]
    by_cases h2 : f.kind < 1
    · have b2 : decide (f.kind < 1) = true := decide_eq_true h2
      clear h1 hno
      go_enter Tryd.func39, Tryd.ntmps39
      go_wp2_with fail
      go_region
      go_wp2
      exact rtake_end (an := f0) (cm := []) HTW.out.res.drew rfl rfl strE_nil.symm rfl HT.out HTW.out.sb.drew HTW.out.fr.drew
    · have h3 : 3 < f.kind := by omega
      have b2 : decide (f.kind < 1) = false := decide_eq_false h2
      have b3 : decide (3 < f.kind) = true := decide_eq_true h3
      clear h1 hno
      go_enter Tryd.func39, Tryd.ntmps39
      go_wp2_with fail
      go_region
      go_wp2
      exact rtake_end (an := f0) (cm := []) HTW.out.res.drew rfl rfl strE_nil.symm rfl HT.out HTW.out.sb.drew HTW.out.fr.drew
  · have b1 : (f.addr != st.addr) = true := by simp [h1]
    clear h1 hno
    go_enter Tryd.func39, Tryd.ntmps39
    go_wp2_with fail
    go_region
    go_wp2
    exact rtake_end (an := f0) (cm := []) HTW.out.res.drew rfl rfl strE_nil.symm rfl HT.out HTW.out.sb.drew HTW.out.fr.drew
set_option maxHeartbeats 2000000 in
theorem RTakeOpen (h : Blk w r 95 (rsv st)) (ha : f.addr = st.addr) (hk : f.kind = 1) :
    Calls Tryd.prog 39 #[.pointer (some ⟨r, 0, none⟩), .agg (rfv f)] w (RTakePost r st f w) := by
  have ht : takeS st f = (⟨st.addr, 4, f.ses, 0, 0, []⟩, [], true, ⟨f.ses, 0, 0, st.addr, st.pend⟩) := by unfold takeS; rw [if_neg (by omega), if_pos hk]
  obtain ⟨fa, fk, fs, fq, fx, fB⟩ := f
  obtain ⟨n, t, x, a, pd⟩ := st
  simp only at ha hk
  subst ha hk
  have HT := Lib.hid ht
  have HTW := Lib.hid (rt_new (f := ⟨fa, 1, fs, fq, fx, fB⟩) h)
  have p0 : ((w.alloc (.cells #[.int .u8 fa, .int .u8 1, .int .u8 fs, .int .u8 fq, .int .u8 fx, .string (strOfNums fB)] 70)).alloc (.cells #[.int .u8 0, .int .u8 0, .int .u8 0, .int .u8 0, .int .u8 0, .string (ByteArray.mk #[])] 70)).cell? ⟨r, 0, none⟩ = some (.int .u8 fa) := HTW.out.sb.cell 0
  have b1 : (fa != fa) = false := by simp
  clear ht h
  change Calls Tryd.prog 39 #[.pointer (some ⟨r, 0, none⟩), .agg #[.int .u8 fa, .int .u8 1, .int .u8 fs, .int .u8 fq, .int .u8 fx, .string (strOfNums fB)]] w _
  go_enter Tryd.func39, Tryd.ntmps39
  go_wp2_with fail
  go_region
  have HTW1 : Hid (RT r ⟨n, t, x, fa, pd⟩ ⟨fa, 1, fs, fq, fx, fB⟩ f0 w ((w.alloc (.cells #[.int .u8 fa, .int .u8 1, .int .u8 fs, .int .u8 fq, .int .u8 fx, .string (strOfNums fB)] 70)).alloc (.cells #[.int .u8 0, .int .u8 0, .int .u8 0, .int .u8 0, .int .u8 0, .string (ByteArray.mk #[])] 70)).drew) := Lib.hid (HTW.out.next ((Fr.refl (fun _ => False) _).drew))
  clear HTW p0
  generalize ((w.alloc (.cells #[.int .u8 fa, .int .u8 1, .int .u8 fs, .int .u8 fq, .int .u8 fx, .string (strOfNums fB)] 70)).alloc (.cells #[.int .u8 0, .int .u8 0, .int .u8 0, .int .u8 0, .int .u8 0, .string (ByteArray.mk #[])] 70)).drew = W1 at *
  have p1 : W1.cell? ⟨w.heap.size, 1, none⟩ = some (.int .u8 1) := HTW1.out.box.cell 1
  have p2 : W1.cell? ⟨w.heap.size, 2, none⟩ = some (.int .u8 fs) := HTW1.out.box.cell 2
  have hsb : Blk W1 r 95 #[.int .u8 fa, .int .u8 n, .int .u8 t, .int .u8 x, .string (strOfNums pd)] := HTW1.out.sb
  have a0 := hsb.cell 1
  have a1 := hsb.frozen 1
  have hsb1 := hsb.set_ 1 (.int .u8 fs)
  have a2 := hsb1.cell 2
  have a3 := hsb1.frozen 2
  have hsb2 := hsb1.set_ 2 (.int .u8 0)
  have a4 := hsb2.cell 3
  have a5 := hsb2.frozen 3
  have hsb3 := hsb2.set_ 3 (.int .u8 0)
  have hF3 : Fr (fun j => j = r) W1 (((W1.setCell ⟨r, 1, none⟩ (.int .u8 fs)).setCell ⟨r, 2, none⟩ (.int .u8 0)).setCell ⟨r, 3, none⟩ (.int .u8 0)) := (((Fr.refl (fun j => j = r) W1).setCell (p := ⟨r, 1, none⟩) (fun _ => rfl) _).setCell (p := ⟨r, 2, none⟩) (fun _ => rfl) _).setCell (p := ⟨r, 3, none⟩) (fun _ => rfl) _
  have HSB3 : Hid (RT r ⟨fs, 0, 0, fa, pd⟩ ⟨fa, 1, fs, fq, fx, fB⟩ f0 w (((W1.setCell ⟨r, 1, none⟩ (.int .u8 fs)).setCell ⟨r, 2, none⟩ (.int .u8 0)).setCell ⟨r, 3, none⟩ (.int .u8 0))) := Lib.hid (HTW1.out.put hF3 (by simpa using hsb3))
  clear hsb hsb1 hsb2 hsb3 hF3 HTW1
  go_wp2_with fail
  go_upto_region 7 with (fail)
  generalize ((W1.setCell ⟨r, 1, none⟩ (.int .u8 fs)).setCell ⟨r, 2, none⟩ (.int .u8 0)).setCell ⟨r, 3, none⟩ (.int .u8 0) = W2 at *
  clear a0 a1 a2 a3 a4 a5 p1 p2
  have s0 : W2.cell? ⟨r, 0, none⟩ = some (.int .u8 fa) := HSB3.out.sb.cell 0
  have s1 : W2.cell? ⟨r, 1, none⟩ = some (.int .u8 fs) := HSB3.out.sb.cell 1
  have hlt := HSB3.out.lt
  obtain ⟨⟨d0, e0, d1, e1, d2, e2, d3, e3, d4, e4, d5, e5⟩, hB, hF⟩ := stR_facts HSB3.out.res ⟨fa, 4, fs, 0, 0, []⟩
  have HB := Lib.hid hB
  have HS := Lib.hid (HSB3.out.sb.fr hF (by omega))
  have HF := Lib.hid (HSB3.out.fr.trans hF (fun j hj e => by omega))
  clear hB hF HSB3
  go_region
  go_wp2
  exact rtake_end (an := ⟨fa, 4, fs, 0, 0, []⟩) (cm := []) HB.out.drew rfl rfl strE_nil.symm rfl HT.out HS.out.drew HF.out.drew
/-- Behind the first test: no open. -/
theorem RT.cells {n t x a fa fk fs fq fx : Int} {pd fB : List Int} (h : RT r ⟨n, t, x, a, pd⟩ ⟨fa, fk, fs, fq, fx, fB⟩ z w W) :
    (W.cell? ⟨r, 0, none⟩ = some (.int .u8 a) ∧ W.cell? ⟨r, 1, none⟩ = some (.int .u8 n) ∧ W.cell? ⟨r, 2, none⟩ = some (.int .u8 t) ∧ W.cell? ⟨r, 3, none⟩ = some (.int .u8 x) ∧ W.cell? ⟨r, 4, none⟩ = some (.string (strOfNums pd))) ∧ (W.cell? ⟨w.heap.size, 0, none⟩ = some (.int .u8 fa) ∧ W.cell? ⟨w.heap.size, 1, none⟩ = some (.int .u8 fk) ∧ W.cell? ⟨w.heap.size, 2, none⟩ = some (.int .u8 fs) ∧ W.cell? ⟨w.heap.size, 3, none⟩ = some (.int .u8 fq) ∧ W.cell? ⟨w.heap.size, 4, none⟩ = some (.int .u8 fx) ∧ W.cell? ⟨w.heap.size, 5, none⟩ = some (.string (strOfNums fB))) :=
  ⟨⟨h.sb.cell 0, h.sb.cell 1, h.sb.cell 2, h.sb.cell 3, h.sb.cell 4⟩, h.box.cell 0, h.box.cell 1, h.box.cell 2, h.box.cell 3, h.box.cell 4, h.box.cell 5⟩
/-- Beside the answer that is made, at q. -/
structure RTA (r q : Nat) (st : Sl) (f an : Fm) (w W : World) : Prop where
  rt : RT r st f f0 w W
  ans : Blk W q 70 (rfv an)
  ql : w.heap.size + 2 ≤ q
theorem RTA.new {an : Fm} (h : RT r st f f0 w W) : RTA r W.heap.size st f an w (W.alloc (.cells (rfv an) 70)).drew :=
  ⟨h.next ((Fr.refl (fun _ => False) W).alloc _).drew, Blk.new W _ _, by have := h.res.lt; omega⟩
theorem RTA.put {q : Nat} {an : Fm} (h : RTA r q st f an w W) (k : Fr (fun j => j = r) W W') (hs : Blk W' r 95 (rsv st')) : RTA r q st' f an w W' := by
  have hl := h.rt.lt
  have hq := h.ql
  exact ⟨h.rt.put k hs, h.ans.fr k (by omega), h.ql⟩
theorem RTA.next {q : Nat} {an : Fm} (h : RTA r q st f an w W) (k : Fr0 W W') : RTA r q st f an w W' := h.put (k.mono (fun _ _ h => h.elim)) (h.rt.sb.fr k (fun h => h))
set_option maxHeartbeats 2000000 in
theorem RTakeOther (h : Blk w r 95 (rsv st)) (ha : f.addr = st.addr) (hk1 : ¬ f.kind < 1) (hk2 : f.kind ≠ 1) (hk3 : ¬ 3 < f.kind) (hni : ¬ (st.num ≠ 0 ∧ f.ses = st.num)) :
    Calls Tryd.prog 39 #[.pointer (some ⟨r, 0, none⟩), .agg (rfv f)] w (RTakePost r st f w) := by
  have ht : takeS st f = (⟨st.addr, 5, st.num, 0, 0, []⟩, [], true, st) := by unfold takeS; rw [if_neg (by omega), if_neg hk2, if_pos hni]
  obtain ⟨fa, fk, fs, fq, fx, fB⟩ := f
  obtain ⟨n, t, x, a, pd⟩ := st
  simp only at ha hk1 hk2 hk3 hni
  subst ha
  have HT := Lib.hid ht
  have HTW := Lib.hid (rt_new (f := ⟨fa, fk, fs, fq, fx, fB⟩) h)
  have p0 : ((w.alloc (.cells #[.int .u8 fa, .int .u8 fk, .int .u8 fs, .int .u8 fq, .int .u8 fx, .string (strOfNums fB)] 70)).alloc (.cells #[.int .u8 0, .int .u8 0, .int .u8 0, .int .u8 0, .int .u8 0, .string (ByteArray.mk #[])] 70)).cell? ⟨r, 0, none⟩ = some (.int .u8 fa) := HTW.out.sb.cell 0
  have b1 : (fa != fa) = false := by simp
  have b2 : decide (fk < 1) = false := decide_eq_false (by omega)
  have b3 : decide (3 < fk) = false := decide_eq_false (by omega)
  have b4 : (fk == 1) = false := beq_eq_false_iff_ne.2 hk2
  clear ht h
  change Calls Tryd.prog 39 #[.pointer (some ⟨r, 0, none⟩), .agg #[.int .u8 fa, .int .u8 fk, .int .u8 fs, .int .u8 fq, .int .u8 fx, .string (strOfNums fB)]] w _
  go_enter Tryd.func39, Tryd.ntmps39
  go_wp2_with fail
  go_region
  have HTW1 : Hid (RT r ⟨n, t, x, fa, pd⟩ ⟨fa, fk, fs, fq, fx, fB⟩ f0 w ((w.alloc (.cells #[.int .u8 fa, .int .u8 fk, .int .u8 fs, .int .u8 fq, .int .u8 fx, .string (strOfNums fB)] 70)).alloc (.cells #[.int .u8 0, .int .u8 0, .int .u8 0, .int .u8 0, .int .u8 0, .string (ByteArray.mk #[])] 70)).drew) := Lib.hid (HTW.out.next ((Fr.refl (fun _ => False) _).drew))
  clear HTW p0
  generalize ((w.alloc (.cells #[.int .u8 fa, .int .u8 fk, .int .u8 fs, .int .u8 fq, .int .u8 fx, .string (strOfNums fB)] 70)).alloc (.cells #[.int .u8 0, .int .u8 0, .int .u8 0, .int .u8 0, .int .u8 0, .string (ByteArray.mk #[])] 70)).drew = W1 at *
  have p1 := HTW1.out.cells.2.2.1
  have s0 := HTW1.out.cells.1.1
  have s1 := HTW1.out.cells.1.2.1
  have HA1 := Lib.hid (HTW1.out.next ((Fr.refl (fun _ => False) W1).alloc (.cells #[.int .u8 0, .int .u8 0, .int .u8 0, .int .u8 0, .int .u8 0, .string (ByteArray.mk #[])] 70)))
  have t0 := HA1.out.cells.1.1
  have t1 := HA1.out.cells.1.2.1
  go_wp2_with fail
  go_region
  have HW2 : Hid (RTA r W1.heap.size ⟨n, t, x, fa, pd⟩ ⟨fa, fk, fs, fq, fx, fB⟩ ⟨fa, 5, n, 0, 0, []⟩ w (W1.alloc (.cells #[.int .u8 fa, .int .u8 5, .int .u8 n, .int .u8 0, .int .u8 0, .string (ByteArray.mk #[])] 70)).drew) := Lib.hid (RTA.new HTW1.out)
  generalize (W1.alloc (.cells #[.int .u8 fa, .int .u8 5, .int .u8 n, .int .u8 0, .int .u8 0, .string (ByteArray.mk #[])] 70)).drew = W2 at *
  generalize W1.heap.size = q at *
  clear HA1 t0 t1 s0 s1 p1 HTW1
  have p2 := HW2.out.rt.cells.2.2.2.1
  have s1 := HW2.out.rt.cells.1.2.1
  by_cases h1 : fs = n
  · have c1 : (fs != n) = false := by simp [h1]
    have h0 : n = 0 := by
      by_cases h0 : n = 0
      · exact h0
      · exact absurd ⟨h0, h1⟩ hni
    have c2 : (n == 0) = true := by simp [h0]
    clear h1 h0 hni
    go_wp2_with fail
    go_quiet (fail)
    have HW3 := Lib.hid (HW2.out.next ((Fr.refl (fun _ => False) W2).drewN nq))
    generalize W2.drewN nq = W3 at *
    clear HW2 p2 s1
    obtain ⟨⟨d0, e0, d1, e1, d2, e2, d3, e3, d4, e4, d5, e5⟩, hB, hF⟩ := stR_facts HW3.out.rt.res ⟨fa, 5, n, 0, 0, []⟩
    obtain ⟨l0, l1, l2, l3, l4, l5⟩ := HW3.out.ans.fm
    have hlt := HW3.out.rt.lt
    have HB := Lib.hid hB
    have HS := Lib.hid (HW3.out.rt.sb.fr hF (by omega))
    have HF := Lib.hid (HW3.out.rt.fr.trans hF (fun j hj e => by omega))
    clear hB hF HW3
    go_wp2
    exact rtake_end (an := ⟨fa, 5, n, 0, 0, []⟩) (cm := []) HB.out rfl rfl strE_nil.symm rfl HT.out HS.out HF.out
  · have c1 : (fs != n) = true := by simp [h1]
    clear h1 hni
    go_wp2_with fail
    go_quiet (fail)
    have HW3 := Lib.hid (HW2.out.next ((Fr.refl (fun _ => False) W2).drewN nq))
    generalize W2.drewN nq = W3 at *
    clear HW2 p2 s1
    obtain ⟨⟨d0, e0, d1, e1, d2, e2, d3, e3, d4, e4, d5, e5⟩, hB, hF⟩ := stR_facts HW3.out.rt.res ⟨fa, 5, n, 0, 0, []⟩
    obtain ⟨l0, l1, l2, l3, l4, l5⟩ := HW3.out.ans.fm
    have hlt := HW3.out.rt.lt
    have HB := Lib.hid hB
    have HS := Lib.hid (HW3.out.rt.sb.fr hF (by omega))
    have HF := Lib.hid (HW3.out.rt.fr.trans hF (fun j hj e => by omega))
    clear hB hF HW3
    go_wp2
    exact rtake_end (an := ⟨fa, 5, n, 0, 0, []⟩) (cm := []) HB.out rfl rfl strE_nil.symm rfl HT.out HS.out HF.out
theorem RTA.cells {q : Nat} {an : Fm} {n t x a fa fk fs fq fx : Int} {pd fB : List Int} (h : RTA r q ⟨n, t, x, a, pd⟩ ⟨fa, fk, fs, fq, fx, fB⟩ an w W) : (W.cell? ⟨r, 0, none⟩ = some (.int .u8 a) ∧ W.cell? ⟨r, 1, none⟩ = some (.int .u8 n) ∧ W.cell? ⟨r, 2, none⟩ = some (.int .u8 t) ∧ W.cell? ⟨r, 3, none⟩ = some (.int .u8 x) ∧ W.cell? ⟨r, 4, none⟩ = some (.string (strOfNums pd))) ∧ (W.cell? ⟨w.heap.size, 0, none⟩ = some (.int .u8 fa) ∧ W.cell? ⟨w.heap.size, 1, none⟩ = some (.int .u8 fk) ∧ W.cell? ⟨w.heap.size, 2, none⟩ = some (.int .u8 fs) ∧ W.cell? ⟨w.heap.size, 3, none⟩ = some (.int .u8 fq) ∧ W.cell? ⟨w.heap.size, 4, none⟩ = some (.int .u8 fx) ∧ W.cell? ⟨w.heap.size, 5, none⟩ = some (.string (strOfNums fB))) := h.rt.cells
set_option maxHeartbeats 4000000 in
set_option maxRecDepth 20000 in
theorem RTakeGo (h : Blk w r 95 (rsv st)) (hbt : (st.tells = 0 ∨ st.tells = 1) ∧ (st.next = 0 ∨ st.next = 1)) (ha : f.addr = st.addr) (hk1 : ¬ f.kind < 1) (hk2 : f.kind ≠ 1) (hk3 : ¬ 3 < f.kind) (hni : st.num ≠ 0 ∧ f.ses = st.num) :
    Calls Tryd.prog 39 #[.pointer (some ⟨r, 0, none⟩), .agg (rfv f)] w (RTakePost r st f w) := by
  have ht : takeS st f = (ansS (nextS (hearS st f) f), cmdS (hearS st f) f, true, nextS (hearS st f) f) := by unfold takeS; rw [if_neg (by omega), if_neg hk2, if_neg (fun h => h hni)]
  obtain ⟨fa, fk, fs, fq, fx, fB⟩ := f
  obtain ⟨n, t, x, a, pd⟩ := st
  simp only at ha hk1 hk2 hk3 hni hbt
  obtain ⟨hn0, rfl⟩ := hni
  subst ha
  have HT := Lib.hid ht
  have HBT := Lib.hid hbt
  have HTW := Lib.hid (rt_new (f := ⟨fa, fk, fs, fq, fx, fB⟩) h)
  have p0 : ((w.alloc (.cells #[.int .u8 fa, .int .u8 fk, .int .u8 fs, .int .u8 fq, .int .u8 fx, .string (strOfNums fB)] 70)).alloc (.cells #[.int .u8 0, .int .u8 0, .int .u8 0, .int .u8 0, .int .u8 0, .string (ByteArray.mk #[])] 70)).cell? ⟨r, 0, none⟩ = some (.int .u8 fa) := HTW.out.sb.cell 0
  have b1 : (fa != fa) = false := by simp
  have b2 : decide (fk < 1) = false := decide_eq_false (by omega)
  have b3 : decide (3 < fk) = false := decide_eq_false (by omega)
  have b4 : (fk == 1) = false := beq_eq_false_iff_ne.2 hk2
  have b5 : (fs != fs) = false := by simp
  have b6 : (fs == 0) = false := beq_eq_false_iff_ne.2 hn0
  clear ht h hbt hn0 hk1 hk2 hk3
  change Calls Tryd.prog 39 #[.pointer (some ⟨r, 0, none⟩), .agg #[.int .u8 fa, .int .u8 fk, .int .u8 fs, .int .u8 fq, .int .u8 fx, .string (strOfNums fB)]] w _
  go_enter Tryd.func39, Tryd.ntmps39
  go_wp2_with fail
  go_region
  have HTW1 : Hid (RT r ⟨fs, t, x, fa, pd⟩ ⟨fa, fk, fs, fq, fx, fB⟩ f0 w ((w.alloc (.cells #[.int .u8 fa, .int .u8 fk, .int .u8 fs, .int .u8 fq, .int .u8 fx, .string (strOfNums fB)] 70)).alloc (.cells #[.int .u8 0, .int .u8 0, .int .u8 0, .int .u8 0, .int .u8 0, .string (ByteArray.mk #[])] 70)).drew) := Lib.hid (HTW.out.next ((Fr.refl (fun _ => False) _).drew))
  clear HTW p0
  generalize ((w.alloc (.cells #[.int .u8 fa, .int .u8 fk, .int .u8 fs, .int .u8 fq, .int .u8 fx, .string (strOfNums fB)] 70)).alloc (.cells #[.int .u8 0, .int .u8 0, .int .u8 0, .int .u8 0, .int .u8 0, .string (ByteArray.mk #[])] 70)).drew = W1 at *
  have p1 := HTW1.out.cells.2.2.1
  have s0 := HTW1.out.cells.1.1
  have s1 := HTW1.out.cells.1.2.1
  have HA1 := Lib.hid (HTW1.out.next ((Fr.refl (fun _ => False) W1).alloc (.cells #[.int .u8 0, .int .u8 0, .int .u8 0, .int .u8 0, .int .u8 0, .string (ByteArray.mk #[])] 70)))
  have t0 := HA1.out.cells.1.1
  have t1 := HA1.out.cells.1.2.1
  go_wp2_with fail
  go_region
  have HW2 : Hid (RTA r W1.heap.size ⟨fs, t, x, fa, pd⟩ ⟨fa, fk, fs, fq, fx, fB⟩ ⟨fa, 5, fs, 0, 0, []⟩ w (W1.alloc (.cells #[.int .u8 fa, .int .u8 5, .int .u8 fs, .int .u8 0, .int .u8 0, .string (ByteArray.mk #[])] 70)).drew) := Lib.hid (RTA.new HTW1.out)
  generalize (W1.alloc (.cells #[.int .u8 fa, .int .u8 5, .int .u8 fs, .int .u8 0, .int .u8 0, .string (ByteArray.mk #[])] 70)).drew = W2 at *
  generalize W1.heap.size = q at *
  clear HA1 t0 t1 s0 s1 p1 HTW1
  have p2 := HW2.out.cells.2.2.2.1
  have s1 := HW2.out.cells.1.2.1
  go_wp2_with fail
  go_quiet (fail)
  have HW3 := Lib.hid (HW2.out.next ((Fr.refl (fun _ => False) W2).drewN nq))
  generalize W2.drewN nq = W3 at *
  clear HW2 p2 s1
  go_upto_region 11 with (fail)
  go_cut [87] (fun s87 wx => s87 = .bool (decide (0 < pd.length ∧ fx ≠ t)) ∧ RTA r q ⟨fs, t, x, fa, pd⟩ ⟨fa, fk, fs, fq, fx, fB⟩ ⟨fa, 5, fs, 0, 0, []⟩ w wx)
  case first =>
    have p4 := HW3.out.cells.2.2.2.2.2.1
    have s2 := HW3.out.cells.1.2.2.1
    have s4 := HW3.out.cells.1.2.2.2.2
    have hE := strE (l := pd)
    by_cases hpd : 0 < pd.length
    · rw [show decide (pd.length = 0) = false from decide_eq_false (by omega)] at hE
      by_cases hx : fx = t
      · have E1 := Lib.hid (show decide (0 < pd.length ∧ fx ≠ t) = false from decide_eq_false (fun h => h.2 hx))
        have bx : (fx != t) = false := by simp [hx]
        clear hx hpd
        generalize strOfNums pd = sp at *
        go_wp2_with fail
        go_quiet (fail)
        go_wp2
        go_meet
        exact ⟨congrArg Value.bool E1.out.symm, HW3.out.next ((Fr.refl (fun _ => False) _).drewN _)⟩
      · have E1 := Lib.hid (show decide (0 < pd.length ∧ fx ≠ t) = true from decide_eq_true ⟨hpd, hx⟩)
        have bx : (fx != t) = true := by simp [hx]
        clear hx hpd
        generalize strOfNums pd = sp at *
        go_wp2_with fail
        go_quiet (fail)
        go_wp2
        go_meet
        exact ⟨congrArg Value.bool E1.out.symm, HW3.out.next ((Fr.refl (fun _ => False) _).drewN _)⟩
    · rw [show decide (pd.length = 0) = true from decide_eq_true (by omega)] at hE
      have E1 := Lib.hid (show decide (0 < pd.length ∧ fx ≠ t) = false from decide_eq_false (fun h => hpd h.1))
      clear hpd
      generalize strOfNums pd = sp at *
      go_wp2_with fail
      go_quiet (fail)
      go_wp2
      go_meet
      exact ⟨congrArg Value.bool E1.out.symm, HW3.out.next ((Fr.refl (fun _ => False) _).drewN _)⟩
  case rest =>
    clear HW3
    obtain ⟨rfl, ht3⟩ := hcut
    have HT3 := Lib.hid ht3
    clear ht3
    go_upto_if 87 with (fail)
    go_cut [] (fun wx => RTA r q (hearS ⟨fs, t, x, fa, pd⟩ ⟨fa, fk, fs, fq, fx, fB⟩) ⟨fa, fk, fs, fq, fx, fB⟩ ⟨fa, 5, fs, 0, 0, []⟩ w wx)
    case first =>
      by_cases hh : 0 < pd.length ∧ fx ≠ t
      · have e1 : decide (0 < pd.length ∧ fx ≠ t) = true := decide_eq_true hh
        have HH : Hid (hearS ⟨fs, t, x, fa, pd⟩ ⟨fa, fk, fs, fq, fx, fB⟩ = ⟨fs, 1 - t, x, fa, []⟩) := Lib.hid (by unfold hearS; exact if_pos hh)
        have hw : IntKind.u8.wrap (1 - t) = 1 - t := by have := HBT.out.1; rw [IntKind.wrap_u8]; omega
        have hb := HT3.out.rt.sb
        have s4 := hb.cell 4
        have f4 := hb.frozen 4
        have hb1 := hb.set_ 4 (.string (ByteArray.mk #[]))
        have s2 := hb1.cell 2
        have f2 := hb1.frozen 2
        have hb2 := hb1.set_ 2 (.int .u8 (1 - t))
        have hF : Fr (fun j => j = r) _ ((World.setCell _ ⟨r, 4, none⟩ (.string (ByteArray.mk #[]))).setCell ⟨r, 2, none⟩ (.int .u8 (1 - t))) := ((Fr.refl (fun j => j = r) wc).setCell (p := ⟨r, 4, none⟩) (fun _ => rfl) (.string (ByteArray.mk #[]))).setCell (p := ⟨r, 2, none⟩) (fun _ => rfl) (.int .u8 (1 - t))
        have HF : Hid (RTA r q ⟨fs, 1 - t, x, fa, []⟩ ⟨fa, fk, fs, fq, fx, fB⟩ ⟨fa, 5, fs, 0, 0, []⟩ w _) := Lib.hid (HT3.out.put hF (by have e := hb2; simp at e; exact e))
        clear hh hb hb1 hb2 hF
        rw [e1]
        clear e1
        go_wp2
        go_meet
        rw [HH.out]
        exact HF.out
      · have HH : Hid (hearS ⟨fs, t, x, fa, pd⟩ ⟨fa, fk, fs, fq, fx, fB⟩ = ⟨fs, t, x, fa, pd⟩) := Lib.hid (by unfold hearS; exact if_neg hh)
        rw [show decide (0 < pd.length ∧ fx ≠ t) = false from decide_eq_false hh]
        clear hh
        go_wp2
        go_meet
        rw [HH.out]
        exact HT3.out
    case rest =>
      clear HT3
      obtain ⟨t1, pd1, he1⟩ : ∃ t1 pd1, hearS ⟨fs, t, x, fa, pd⟩ ⟨fa, fk, fs, fq, fx, fB⟩ = ⟨fs, t1, x, fa, pd1⟩ := by
        unfold hearS
        split
        · exact ⟨1 - t, [], rfl⟩
        · exact ⟨t, pd, rfl⟩
      rw [he1] at hcut HT
      have HT4 := Lib.hid hcut
      clear hcut he1
      go_upto_region 15 with (fail)
      go_cut [110] (fun s110 wx => s110 = .bool (decide (fk = 2 ∧ fq = x)) ∧ RTA r q ⟨fs, t1, x, fa, pd1⟩ ⟨fa, fk, fs, fq, fx, fB⟩ ⟨fa, 5, fs, 0, 0, []⟩ w wx)
      case first =>
        have p1 := HT4.out.cells.2.2.1
        have p3 := HT4.out.cells.2.2.2.2.1
        have s3 := HT4.out.cells.1.2.2.2.1
        by_cases hk : fk = 2
        · have bk : (fk == 2) = true := by simp [hk]
          by_cases hq : fq = x
          · have E1 := Lib.hid (show decide (fk = 2 ∧ fq = x) = true from decide_eq_true ⟨hk, hq⟩)
            have bq : (fq == x) = true := by simp [hq]
            clear hk hq
            go_wp2_with fail
            go_quiet (fail)
            go_wp2
            go_meet
            exact ⟨congrArg Value.bool E1.out.symm, HT4.out.next ((Fr.refl (fun _ => False) _).drewN _)⟩
          · have E1 := Lib.hid (show decide (fk = 2 ∧ fq = x) = false from decide_eq_false (fun h => hq h.2))
            have bq : (fq == x) = false := by simp [hq]
            clear hk hq
            go_wp2_with fail
            go_quiet (fail)
            go_wp2
            go_meet
            exact ⟨congrArg Value.bool E1.out.symm, HT4.out.next ((Fr.refl (fun _ => False) _).drewN _)⟩
        · have E1 := Lib.hid (show decide (fk = 2 ∧ fq = x) = false from decide_eq_false (fun h => hk h.1))
          have bk : (fk == 2) = false := by simp [hk]
          clear hk
          go_wp2_with fail
          go_quiet (fail)
          go_wp2
          go_meet
          exact ⟨congrArg Value.bool E1.out.symm, HT4.out.next ((Fr.refl (fun _ => False) _).drewN _)⟩
      case rest =>
        clear HT4
        obtain ⟨rfl, ht5⟩ := hcut
        have HT5 := Lib.hid ht5
        clear ht5
        go_upto_if 110 with (fail)
        go_cut [8] (fun s8 wx => s8 = .string (strOfNums (cmdS ⟨fs, t1, x, fa, pd1⟩ ⟨fa, fk, fs, fq, fx, fB⟩)) ∧ RTA r q (nextS ⟨fs, t1, x, fa, pd1⟩ ⟨fa, fk, fs, fq, fx, fB⟩) ⟨fa, fk, fs, fq, fx, fB⟩ ⟨fa, 5, fs, 0, 0, []⟩ w wx)
        case first =>
          by_cases hh : fk = 2 ∧ fq = x
          · have HC : Hid (cmdS ⟨fs, t1, x, fa, pd1⟩ ⟨fa, fk, fs, fq, fx, fB⟩ = fB) := Lib.hid (by unfold cmdS; exact if_pos hh)
            have HN : Hid (nextS ⟨fs, t1, x, fa, pd1⟩ ⟨fa, fk, fs, fq, fx, fB⟩ = ⟨fs, t1, 1 - x, fa, pd1⟩) := Lib.hid (by unfold nextS; exact if_pos hh)
            rw [show decide (fk = 2 ∧ fq = x) = true from decide_eq_true hh]
            have hw : IntKind.u8.wrap (1 - x) = 1 - x := by have := HBT.out.2; rw [IntKind.wrap_u8]; omega
            have p5 := HT5.out.cells.2.2.2.2.2.2
            have hb := HT5.out.rt.sb
            have s3 := hb.cell 3
            have f3 := hb.frozen 3
            have hb1 := hb.set_ 3 (.int .u8 (1 - x))
            have hF : Fr (fun j => j = r) wc (wc.setCell ⟨r, 3, none⟩ (.int .u8 (1 - x))) := (Fr.refl (fun j => j = r) wc).setCell (p := ⟨r, 3, none⟩) (fun _ => rfl) _
            have HF : Hid (RTA r q ⟨fs, t1, 1 - x, fa, pd1⟩ ⟨fa, fk, fs, fq, fx, fB⟩ ⟨fa, 5, fs, 0, 0, []⟩ w _) := Lib.hid (HT5.out.put hF (by have e := hb1; simp at e; exact e))
            clear hh hb hb1 hF
            go_wp2
            go_meet
            exact ⟨by rw [HC.out], by rw [HN.out]; exact HF.out⟩
          · have HC : Hid (cmdS ⟨fs, t1, x, fa, pd1⟩ ⟨fa, fk, fs, fq, fx, fB⟩ = []) := Lib.hid (by unfold cmdS; exact if_neg hh)
            have HN : Hid (nextS ⟨fs, t1, x, fa, pd1⟩ ⟨fa, fk, fs, fq, fx, fB⟩ = ⟨fs, t1, x, fa, pd1⟩) := Lib.hid (by unfold nextS; exact if_neg hh)
            rw [show decide (fk = 2 ∧ fq = x) = false from decide_eq_false hh]
            clear hh
            go_wp2
            go_meet
            exact ⟨by rw [HC.out]; rfl, by rw [HN.out]; exact HT5.out⟩
        case rest =>
          clear HT5
          obtain ⟨rfl, ht8⟩ := hcut
          obtain ⟨x3, he3⟩ : ∃ x3, nextS ⟨fs, t1, x, fa, pd1⟩ ⟨fa, fk, fs, fq, fx, fB⟩ = ⟨fs, t1, x3, fa, pd1⟩ := by
            unfold nextS
            split
            · exact ⟨1 - x, rfl⟩
            · exact ⟨x, rfl⟩
          rw [he3] at HT ht8
          generalize cmdS ⟨fs, t1, x, fa, pd1⟩ ⟨fa, fk, fs, fq, fx, fB⟩ = cm at *
          have hcs : (wc.cell? ⟨r, 2, none⟩ = some (.int .u8 t1) ∧ wc.cell? ⟨r, 3, none⟩ = some (.int .u8 x3) ∧ wc.cell? ⟨r, 4, none⟩ = some (.string (strOfNums pd1))) := ⟨ht8.rt.sb.cell 2, ht8.rt.sb.cell 3, ht8.rt.sb.cell 4⟩
          have hqr : q ≠ r := by have := ht8.rt.lt; have := ht8.ql; omega
          have ha3 := ht8.ans.set_ 3 (.int .u8 t1)
          have ha4 := ha3.set_ 4 (.int .u8 x3)
          have ha5 := ha4.set_ 5 (.string (strOfNums pd1))
          obtain ⟨c2, c3, c4⟩ := hcs
          have g3 := ht8.ans.cell 3
          have g3f := ht8.ans.frozen 3
          have c3' : (wc.setCell ⟨q, 3, none⟩ (.int .u8 t1)).cell? ⟨r, 3, none⟩ = some (.int .u8 x3) := (World.cell?_setCell_far wc _ _ _ hqr).trans c3
          have g4 := ha3.cell 4
          have g4f := ha3.frozen 4
          have c4' : ((wc.setCell ⟨q, 3, none⟩ (.int .u8 t1)).setCell ⟨q, 4, none⟩ (.int .u8 x3)).cell? ⟨r, 4, none⟩ = some (.string (strOfNums pd1)) := (World.cell?_setCell_far _ _ _ _ hqr).trans ((World.cell?_setCell_far wc _ _ _ hqr).trans c4)
          have g5 := ha4.cell 5
          have g5f := ha4.frozen 5
          have hF : Fr (fun j => j = q) wc (((wc.setCell ⟨q, 3, none⟩ (.int .u8 t1)).setCell ⟨q, 4, none⟩ (.int .u8 x3)).setCell ⟨q, 5, none⟩ (.string (strOfNums pd1))) := (((Fr.refl (fun j => j = q) wc).setCell (p := ⟨q, 3, none⟩) (fun _ => rfl) _).setCell (p := ⟨q, 4, none⟩) (fun _ => rfl) _).setCell (p := ⟨q, 5, none⟩) (fun _ => rfl) _
          have hl := ht8.rt.lt
          have hql := ht8.ql
          have HA : Hid (Blk (((wc.setCell ⟨q, 3, none⟩ (.int .u8 t1)).setCell ⟨q, 4, none⟩ (.int .u8 x3)).setCell ⟨q, 5, none⟩ (.string (strOfNums pd1))) q 70 (rfv ⟨fa, 5, fs, t1, x3, pd1⟩)) := Lib.hid (by have e := ha5; simp at e; exact e)
          have HS := Lib.hid (ht8.rt.sb.fr hF (by omega))
          have HR := Lib.hid (ht8.rt.res.fr hF (by omega))
          have HF := Lib.hid (ht8.rt.fr.trans hF (fun j hj e => by omega))
          clear ha3 ha4 ha5 hF ht8 c3 c4
          go_upto_region 21 with (fail)
          generalize (((wc.setCell ⟨q, 3, none⟩ (.int .u8 t1)).setCell ⟨q, 4, none⟩ (.int .u8 x3)).setCell ⟨q, 5, none⟩ (.string (strOfNums pd1))) = W5 at *
          clear c2 c3' c4' g3 g3f g4 g4f g5 g5f
          obtain ⟨l0, l1, l2, l3, l4, l5⟩ := HA.out.fm
          obtain ⟨⟨d0, e0, d1, e1, d2, e2, d3, e3, d4, e4, d5, e5⟩, hB, hF⟩ := stR_facts HR.out ⟨fa, 5, fs, t1, x3, pd1⟩
          have HB := Lib.hid hB
          have HS2 := Lib.hid (HS.out.fr hF (by omega))
          have HF2 := Lib.hid (HF.out.trans hF (fun j hj e => by omega))
          clear hB hF HS HF HA HR
          go_wp2
          exact rtake_end (an := ⟨fa, 5, fs, t1, x3, pd1⟩) (cm := cm) HB.out rfl rfl rfl rfl HT.out HS2.out HF2.out
theorem RTakeC08 (h : Blk w r 95 (rsv st)) (hbt : (st.tells = 0 ∨ st.tells = 1) ∧ (st.next = 0 ∨ st.next = 1)) :
    Calls Tryd.prog 39 #[.pointer (some ⟨r, 0, none⟩), .agg (rfv f)] w (RTakePost r st f w) := by
  by_cases h1 : f.addr ≠ st.addr ∨ f.kind < 1 ∨ 3 < f.kind
  · exact RTakeNo h h1
  · by_cases h2 : f.kind = 1
    · exact RTakeOpen h (by omega) h2
    · by_cases h3 : st.num ≠ 0 ∧ f.ses = st.num
      · exact RTakeGo h hbt (by omega) (by omega) h2 (by omega) h3
      · exact RTakeOther h (by omega) (by omega) h2 (by omega) h3
end
end Go.Proofs.YtdhfinpmcikimaaDoor.K
