/- The slave: Take, of its own session, or not. -/
import Derived.Test.YtdhfinpmcikimaaDoorM4
namespace Go.Proofs.YtdhfinpmcikimaaDoor.K
open Go.RowKit
set_option linter.unusedVariables false
set_option linter.unusedSimpArgs false
theorem TW.cells {B s : Nat} {A : Option Addr} {c : Nat} {n t x a fa fk fs fq fx : Int} {pd fB : List Int} {FA : Option Addr} {fc : Nat} {w W : World} (h : TW B s A c ⟨n, t, x, a, pd⟩ ⟨fa, fk, fs, fq, fx, fB⟩ FA fc w W) :
    (W.cell? ⟨s, 0, none⟩ = some (.int .u8 n) ∧ W.cell? ⟨s, 1, none⟩ = some (.int .u8 t) ∧ W.cell? ⟨s, 2, none⟩ = some (.int .u8 x)) ∧ (W.cell? ⟨w.heap.size, 0, none⟩ = some (.int .u8 fa) ∧ W.cell? ⟨w.heap.size, 1, none⟩ = some (.int .u8 fk) ∧ W.cell? ⟨w.heap.size, 2, none⟩ = some (.int .u8 fs) ∧ W.cell? ⟨w.heap.size, 3, none⟩ = some (.int .u8 fq) ∧ W.cell? ⟨w.heap.size, 4, none⟩ = some (.int .u8 fx) ∧ W.cell? ⟨w.heap.size, 5, none⟩ = some (.slice FA fB.length fc)) :=
  ⟨⟨h.sb.blk.cell 0, h.sb.blk.cell 1, h.sb.blk.cell 2⟩, h.box.cell 0, h.box.cell 1, h.box.cell 2, h.box.cell 3, h.box.cell 4, h.box.cell 5⟩
section
variable {B s : Nat} {A FA : Option Addr} {c fc : Nat} {st : Sl} {f : Fm} {w : World}
set_option maxHeartbeats 2000000 in
theorem TakeOther (h : SlB B s A c st w) (hr : RowOf c8 1 w w.heap.size FA f.B) (hne : ∀ ad, FA = some ad → f.B ≠ [] → ad.block ≠ s) (ha : f.addr = st.addr) (hk1 : ¬ f.kind < 1) (hk2 : f.kind ≠ 1) (hk3 : ¬ 3 < f.kind) (hni : ¬ (st.num ≠ 0 ∧ f.ses = st.num)) :
    Calls Tryd.prog 35 #[.pointer (some ⟨s, 0, none⟩), .agg (fmv f FA fc)] w (TakePost B s st f w) := by
  have ht : takeS st f = (⟨st.addr, 5, st.num, 0, 0, []⟩, [], true, st) := by unfold takeS; rw [if_neg (by omega), if_neg hk2, if_pos hni]
  obtain ⟨fa, fk, fs, fq, fx, fB⟩ := f
  obtain ⟨n, t, x, a, pd⟩ := st
  simp only at ha hk1 hk2 hk3 hni
  subst ha
  have HT := Lib.hid ht
  have HTW := Lib.hid (tw_new (fc := fc) h hr hne)
  have s3 : ((w.alloc (.cells #[.int .u8 fa, .int .u8 fk, .int .u8 fs, .int .u8 fq, .int .u8 fx, .slice FA fB.length fc] 54)).alloc (.cells #[.int .u8 0, .int .u8 0, .int .u8 0, .int .u8 0, .int .u8 0, .slice none 0 0] 54)).cell? ⟨s, 3, none⟩ = some (.int .u8 fa) := HTW.out.sb.blk.cell 3
  have b1 : (fa != fa) = false := by simp
  have b2 : decide (fk < 1) = false := decide_eq_false (by omega)
  have b3 : decide (3 < fk) = false := decide_eq_false (by omega)
  have b4 : (fk == 1) = false := beq_eq_false_iff_ne.2 hk2
  clear ht h hr
  go_enter Tryd.func35, Tryd.ntmps35
  go_wp2_with fail
  go_region
  have HTW1 : Hid (TW B s A c ⟨n, t, x, fa, pd⟩ ⟨fa, fk, fs, fq, fx, fB⟩ FA fc w ((w.alloc (.cells #[.int .u8 fa, .int .u8 fk, .int .u8 fs, .int .u8 fq, .int .u8 fx, .slice FA fB.length fc] 54)).alloc (.cells #[.int .u8 0, .int .u8 0, .int .u8 0, .int .u8 0, .int .u8 0, .slice none 0 0] 54)).drew) := Lib.hid (HTW.out.next ((Fr.refl (fun _ => False) _).drew))
  clear HTW s3
  generalize ((w.alloc (.cells #[.int .u8 fa, .int .u8 fk, .int .u8 fs, .int .u8 fq, .int .u8 fx, .slice FA fB.length fc] 54)).alloc (.cells #[.int .u8 0, .int .u8 0, .int .u8 0, .int .u8 0, .int .u8 0, .slice none 0 0] 54)).drew = W1 at *
  have p0 : W1.cell? ⟨w.heap.size, 0, none⟩ = some (.int .u8 fa) := HTW1.out.box.cell 0
  have p1 : W1.cell? ⟨w.heap.size, 1, none⟩ = some (.int .u8 fk) := HTW1.out.box.cell 1
  have p2 : W1.cell? ⟨w.heap.size, 2, none⟩ = some (.int .u8 fs) := HTW1.out.box.cell 2
  have p3 : W1.cell? ⟨w.heap.size, 3, none⟩ = some (.int .u8 fq) := HTW1.out.box.cell 3
  have p4 : W1.cell? ⟨w.heap.size, 4, none⟩ = some (.int .u8 fx) := HTW1.out.box.cell 4
  have p5 : W1.cell? ⟨w.heap.size, 5, none⟩ = some (.slice FA fB.length fc) := HTW1.out.box.cell 5
  have s0 : W1.cell? ⟨s, 0, none⟩ = some (.int .u8 n) := HTW1.out.sb.blk.cell 0
  have s1 : W1.cell? ⟨s, 1, none⟩ = some (.int .u8 t) := HTW1.out.sb.blk.cell 1
  have s2 : W1.cell? ⟨s, 2, none⟩ = some (.int .u8 x) := HTW1.out.sb.blk.cell 2
  have QI := Lib.hid (fun W => SlIsC n t x ⟨fa, fk, fs, fq, fx, fB⟩ FA fc W)
  rw [show decide (n ≠ 0 ∧ fs = n) = false from decide_eq_false hni] at QI
  go_wp2_with fail
  go_region_held_law (fun w' => (w'.cell? ⟨s, 0, none⟩ = some (.int .u8 n) ∧ w'.cell? ⟨s, 1, none⟩ = some (.int .u8 t) ∧ w'.cell? ⟨s, 2, none⟩ = some (.int .u8 x)) ∧ (w'.cell? ⟨w.heap.size, 0, none⟩ = some (.int .u8 fa) ∧ w'.cell? ⟨w.heap.size, 1, none⟩ = some (.int .u8 fk) ∧ w'.cell? ⟨w.heap.size, 2, none⟩ = some (.int .u8 fs) ∧ w'.cell? ⟨w.heap.size, 3, none⟩ = some (.int .u8 fq) ∧ w'.cell? ⟨w.heap.size, 4, none⟩ = some (.int .u8 fx) ∧ w'.cell? ⟨w.heap.size, 5, none⟩ = some (.slice FA fB.length fc))) (first | exact (HTW1.out.next ((Fr.refl (fun _ => False) _).drew)).cells | exact HT2.out.cells) ((go_simp; go_at_call 53; refine Calls.mono (QI.out _) ?_; rintro e w2 ⟨rfl, F2⟩; have HT2 := Lib.hid (HTW1.out.next ((Fr.refl (fun _ => False) _).drew.trans F2.out (fun _ _ h => h)))))
  clear p0 p1 p2 p3 p4 p5 s0 s1 s2 QI HTW1 F2
  have qA := SlAnswerC 5 HT2.out.sb
  go_wp2_with fail
  refine Calls.mono qA ?_
  clear qA
  rintro e w3 ⟨rfl, F3⟩
  have HT3 := Lib.hid (HT2.out.next F3.out)
  have hr3 : Blk w3 (w.heap.size + 1) 54 (fmv f0 none 0) := HT3.out.res
  obtain ⟨d0, e0, d1, e1, d2, e2, d3, e3, d4, e4, d5, e5⟩ := stF_facts hr3 ⟨fa, 5, n, 0, 0, []⟩ none 0
  have HR3 := Lib.hid (stF_blk (f := ⟨fa, 5, n, 0, 0, []⟩) (A := none) (c := 0) hr3)
  have HF3 := Lib.hid (stF_fr w3 (w.heap.size + 1) ⟨fa, 5, n, 0, 0, []⟩ none 0)
  have hlt3 := HT3.out.lt
  clear hr3 HT2 F3
  go_wp2
  exact take_end (an := ⟨fa, 5, n, 0, 0, []⟩) (cm := []) HR3.out rfl rfl rfl HT.out (made_nil _ _) (made_nil _ _) (HT3.out.sb.res HF3.out (by omega) (fun j e e' => own_blk_ne HT3.out.sb.made.1 HT3.out.res (by decide) (e' ▸ e))) (HT3.out.fr.trans HF3.out (fun j hj e => by omega))
end
end Go.Proofs.YtdhfinpmcikimaaDoor.K
