/- The slave: Take, of its own session. -/
import Derived.Test.YtdhfinpmcikimaaDoorM5
import Derived.Deep.CutBlock
import Derived.Deep.DeepCutAuto
namespace Go.Proofs.YtdhfinpmcikimaaDoor.K
open Go.RowKit
set_option linter.unusedVariables false
set_option linter.unusedSimpArgs false
theorem cs3 {W : World} {s p : Nat} {a b d : Option Value} (h : W.cell? ⟨s, 1, none⟩ = a ∧ W.cell? ⟨s, 2, none⟩ = b ∧ W.cell? ⟨s, 4, none⟩ = d) (hne : p ≠ s) (i : Nat) (u : Value) :
    (W.setCell ⟨p, i, none⟩ u).cell? ⟨s, 1, none⟩ = a ∧ (W.setCell ⟨p, i, none⟩ u).cell? ⟨s, 2, none⟩ = b ∧ (W.setCell ⟨p, i, none⟩ u).cell? ⟨s, 4, none⟩ = d :=
  ⟨(World.cell?_setCell_far W _ _ _ hne).trans h.1, (World.cell?_setCell_far W _ _ _ hne).trans h.2.1, (World.cell?_setCell_far W _ _ _ hne).trans h.2.2⟩
section
variable {B s : Nat} {A FA : Option Addr} {c fc : Nat} {st : Sl} {f : Fm} {w : World}
set_option maxHeartbeats 4000000 in
set_option maxRecDepth 20000 in
theorem TakeGo (h : SlB B s A c st w) (hp : st.pend.length ≤ 1000) (hr : RowOf c8 1 w w.heap.size FA f.B) (hfl : f.B.length ≤ 1000) (hne : ∀ ad, FA = some ad → f.B ≠ [] → ad.block ≠ s) (ha : f.addr = st.addr) (hk1 : ¬ f.kind < 1) (hk2 : f.kind ≠ 1) (hk3 : ¬ 3 < f.kind) (hni : st.num ≠ 0 ∧ f.ses = st.num) :
    Calls Tryd.prog 35 #[.pointer (some ⟨s, 0, none⟩), .agg (fmv f FA fc)] w (TakePost B s st f w) := by
  have ht : takeS st f = (ansS (nextS (hearS st f) f), cmdS (hearS st f) f, true, nextS (hearS st f) f) := by unfold takeS; rw [if_neg (by omega), if_neg hk2, if_neg (fun h => h hni)]
  obtain ⟨fa, fk, fs, fq, fx, fB⟩ := f
  obtain ⟨n, t, x, a, pd⟩ := st
  simp only at ha hk1 hk2 hk3 hni hp hfl
  subst ha
  have HT := Lib.hid ht
  have HTW := Lib.hid (tw_new (fc := fc) h hr hne)
  have s3 : ((w.alloc (.cells #[.int .u8 fa, .int .u8 fk, .int .u8 fs, .int .u8 fq, .int .u8 fx, .slice FA fB.length fc] 54)).alloc (.cells #[.int .u8 0, .int .u8 0, .int .u8 0, .int .u8 0, .int .u8 0, .slice none 0 0] 54)).cell? ⟨s, 3, none⟩ = some (.int .u8 fa) := HTW.out.sb.blk.cell 3
  have b1 : (fa != fa) = false := by simp
  have b2 : decide (fk < 1) = false := decide_eq_false (by omega)
  have b3 : decide (3 < fk) = false := decide_eq_false (by omega)
  have b4 : (fk == 1) = false := beq_eq_false_iff_ne.2 hk2
  have HNI := Lib.hid (show decide (n ≠ 0 ∧ fs = n) = true from decide_eq_true hni)
  clear ht h hr hni
  go_enter Tryd.func35, Tryd.ntmps35
  go_wp2_with fail
  go_region
  have HTW1 : Hid (TW B s A c ⟨n, t, x, fa, pd⟩ ⟨fa, fk, fs, fq, fx, fB⟩ FA fc w ((w.alloc (.cells #[.int .u8 fa, .int .u8 fk, .int .u8 fs, .int .u8 fq, .int .u8 fx, .slice FA fB.length fc] 54)).alloc (.cells #[.int .u8 0, .int .u8 0, .int .u8 0, .int .u8 0, .int .u8 0, .slice none 0 0] 54)).drew) := Lib.hid (HTW.out.next ((Fr.refl (fun _ => False) _).drew))
  clear HTW s3
  generalize ((w.alloc (.cells #[.int .u8 fa, .int .u8 fk, .int .u8 fs, .int .u8 fq, .int .u8 fx, .slice FA fB.length fc] 54)).alloc (.cells #[.int .u8 0, .int .u8 0, .int .u8 0, .int .u8 0, .int .u8 0, .slice none 0 0] 54)).drew = W1 at *
  have p0 : W1.cell? ⟨w.heap.size, 0, none⟩ = some (.int .u8 fa) := HTW1.out.box.cell 0
  have p1 : W1.cell? ⟨w.heap.size, 1, none⟩ = some (.int .u8 fk) := HTW1.out.box.cell 1
  have p2 : W1.cell? ⟨w.heap.size, 2, none⟩ = some (.int .u8 fs) := HTW1.out.box.cell 2
  have p3 : W1.cell? ⟨w.heap.size, 3, none⟩ = some (.int .u8 fq) := HTW1.out.box.cell 3
  have p4 : W1.cell? ⟨w.heap.size, 4, none⟩ = some (.int .u8 fx) := HTW1.out.box.cell 4
  have p5 : W1.cell? ⟨w.heap.size, 5, none⟩ = some (.slice FA fB.length fc) := HTW1.out.box.cell 5
  have s0 : W1.cell? ⟨s, 0, none⟩ = some (.int .u8 n) := HTW1.out.sb.blk.cell 0
  have s1 : W1.cell? ⟨s, 1, none⟩ = some (.int .u8 t) := HTW1.out.sb.blk.cell 1
  have s2 : W1.cell? ⟨s, 2, none⟩ = some (.int .u8 x) := HTW1.out.sb.blk.cell 2
  have QI := Lib.hid (fun W => SlIsC n t x ⟨fa, fk, fs, fq, fx, fB⟩ FA fc W)
  rw [show decide (n ≠ 0 ∧ fs = n) = true from HNI.out] at QI
  go_wp2_with fail
  go_region_held_law (fun w' => (w'.cell? ⟨s, 0, none⟩ = some (.int .u8 n) ∧ w'.cell? ⟨s, 1, none⟩ = some (.int .u8 t) ∧ w'.cell? ⟨s, 2, none⟩ = some (.int .u8 x)) ∧ (w'.cell? ⟨w.heap.size, 0, none⟩ = some (.int .u8 fa) ∧ w'.cell? ⟨w.heap.size, 1, none⟩ = some (.int .u8 fk) ∧ w'.cell? ⟨w.heap.size, 2, none⟩ = some (.int .u8 fs) ∧ w'.cell? ⟨w.heap.size, 3, none⟩ = some (.int .u8 fq) ∧ w'.cell? ⟨w.heap.size, 4, none⟩ = some (.int .u8 fx) ∧ w'.cell? ⟨w.heap.size, 5, none⟩ = some (.slice FA fB.length fc))) (first | exact (HTW1.out.next ((Fr.refl (fun _ => False) _).drew)).cells | exact HT2.out.cells) ((go_simp; go_at_call 53; refine Calls.mono (QI.out _) ?_; rintro e w2 ⟨rfl, F2⟩; have HT2 := Lib.hid (HTW1.out.next ((Fr.refl (fun _ => False) _).drew.trans F2.out (fun _ _ h => h)))))
  clear p0 p1 p2 p3 p4 p5 s0 s1 s2 QI HTW1 F2
  go_upto_region 8 with (fail)
  go_cut [59] (fun s59 wx => s59 = .bool (decide (0 < pd.length ∧ fx ≠ t)) ∧ TW B s A c ⟨n, t, x, fa, pd⟩ ⟨fa, fk, fs, fq, fx, fB⟩ FA fc w wx)
  case first =>
    have p4 : w2.cell? ⟨w.heap.size, 4, none⟩ = some (.int .u8 fx) := HT2.out.box.cell 4
    have s1 : w2.cell? ⟨s, 1, none⟩ = some (.int .u8 t) := HT2.out.sb.blk.cell 1
    have QP := Lib.hid (fun m => SlPendingC (HT2.out.next ((Fr.refl (fun _ => False) w2).drewN m)).sb)
    by_cases hpd : 0 < pd.length
    · by_cases hx : fx = t
      · have e1 : decide (0 < pd.length ∧ fx ≠ t) = false := decide_eq_false (fun h => h.2 hx)
        have E1 := Lib.hid e1
        have bx : (fx != t) = false := by simp [hx]
        rw [show decide (0 < (⟨n, t, x, fa, pd⟩ : Sl).pend.length) = true from decide_eq_true hpd] at QP
        clear e1 hx hpd
        go_wp2_with fail
        go_quiet ((go_at_call 54; exact Calls.quiet_of_same (QP.out _)))
        go_wp2
        go_meet
        exact ⟨congrArg Value.bool E1.out.symm, HT2.out.next ((Fr.refl (fun _ => False) _).drewN _)⟩
      · have e1 : decide (0 < pd.length ∧ fx ≠ t) = true := decide_eq_true ⟨hpd, hx⟩
        have E1 := Lib.hid e1
        have bx : (fx != t) = true := by simp [hx]
        rw [show decide (0 < (⟨n, t, x, fa, pd⟩ : Sl).pend.length) = true from decide_eq_true hpd] at QP
        clear e1 hx hpd
        go_wp2_with fail
        go_quiet ((go_at_call 54; exact Calls.quiet_of_same (QP.out _)))
        go_wp2
        go_meet
        exact ⟨congrArg Value.bool E1.out.symm, HT2.out.next ((Fr.refl (fun _ => False) _).drewN _)⟩
    · have e1 : decide (0 < pd.length ∧ fx ≠ t) = false := decide_eq_false (fun h => hpd h.1)
      have E1 := Lib.hid e1
      rw [show decide (0 < (⟨n, t, x, fa, pd⟩ : Sl).pend.length) = false from decide_eq_false hpd] at QP
      clear e1 hpd
      go_wp2_with fail
      go_quiet ((go_at_call 54; exact Calls.quiet_of_same (QP.out _)))
      go_wp2
      go_meet
      exact ⟨congrArg Value.bool E1.out.symm, HT2.out.next ((Fr.refl (fun _ => False) _).drewN _)⟩
  case rest =>
    clear HT2
    obtain ⟨rfl, ht3⟩ := hcut
    have HT3 := Lib.hid ht3
    clear ht3
    go_upto_if 59 with (fail)
    go_cut [] (fun wx => ∃ A' c', TW B s A' c' (hearS ⟨n, t, x, fa, pd⟩ ⟨fa, fk, fs, fq, fx, fB⟩) ⟨fa, fk, fs, fq, fx, fB⟩ FA fc w wx)
    case first =>
      by_cases hh : 0 < pd.length ∧ fx ≠ t
      · have e1 : decide (0 < pd.length ∧ fx ≠ t) = true := decide_eq_true hh
        have HH : Hid (hearS ⟨n, t, x, fa, pd⟩ ⟨fa, fk, fs, fq, fx, fB⟩ = ⟨n, 1 - t, x, fa, []⟩) := Lib.hid (by unfold hearS; exact if_pos hh)
        have qH := SlHeardC HT3.out.sb
        clear hh
        rw [e1]
        clear e1
        go_wp2_with fail
        refine Calls.mono qH ?_
        clear qH
        rintro e w4 ⟨rfl, H4, F4⟩
        go_wp2
        go_meet
        exact ⟨none, 0, by rw [HH.out]; exact HT3.out.put F4.out H4.out⟩
      · have e1 : decide (0 < pd.length ∧ fx ≠ t) = false := decide_eq_false hh
        have HH : Hid (hearS ⟨n, t, x, fa, pd⟩ ⟨fa, fk, fs, fq, fx, fB⟩ = ⟨n, t, x, fa, pd⟩) := Lib.hid (by unfold hearS; exact if_neg hh)
        clear hh
        rw [e1]
        clear e1
        go_wp2
        go_meet
        exact ⟨A, c, by rw [HH.out]; exact HT3.out⟩
    case rest =>
      clear HT3
      obtain ⟨A2, c2, ht4⟩ := hcut
      obtain ⟨t1, pd1, he1, hp1⟩ : ∃ t1 pd1, hearS ⟨n, t, x, fa, pd⟩ ⟨fa, fk, fs, fq, fx, fB⟩ = ⟨n, t1, x, fa, pd1⟩ ∧ pd1.length ≤ 1000 := by
        unfold hearS
        split
        · exact ⟨1 - t, [], rfl, by simp⟩
        · exact ⟨t, pd, rfl, hp⟩
      rw [he1] at ht4 HT
      have HT4 := Lib.hid ht4
      have p1 : wc.cell? ⟨w.heap.size, 1, none⟩ = some (.int .u8 fk) := ht4.box.cell 1
      have p3 : wc.cell? ⟨w.heap.size, 3, none⟩ = some (.int .u8 fq) := ht4.box.cell 3
      have s2 : wc.cell? ⟨s, 2, none⟩ = some (.int .u8 x) := ht4.sb.blk.cell 2
      clear ht4 he1
      go_upto_region 10 with (fail)
      go_cut [74] (fun s74 wx => s74 = .bool (decide (fk = 2 ∧ fq = x)) ∧ TW B s A2 c2 ⟨n, t1, x, fa, pd1⟩ ⟨fa, fk, fs, fq, fx, fB⟩ FA fc w wx)
      case first =>
        by_cases hk : fk = 2
        · have bk : (fk == 2) = true := by simp [hk]
          by_cases hq : fq = x
          · have E1 := Lib.hid (show decide (fk = 2 ∧ fq = x) = true from decide_eq_true ⟨hk, hq⟩)
            have bq : (fq == x) = true := by simp [hq]
            clear hk hq
            go_wp2_with fail
            go_region
            go_wp2
            go_meet
            exact ⟨congrArg Value.bool E1.out.symm, HT4.out.next ((Fr.refl (fun _ => False) _).drew)⟩
          · have E1 := Lib.hid (show decide (fk = 2 ∧ fq = x) = false from decide_eq_false (fun h => hq h.2))
            have bq : (fq == x) = false := by simp [hq]
            clear hk hq
            go_wp2_with fail
            go_region
            go_wp2
            go_meet
            exact ⟨congrArg Value.bool E1.out.symm, HT4.out.next ((Fr.refl (fun _ => False) _).drew)⟩
        · have E1 := Lib.hid (show decide (fk = 2 ∧ fq = x) = false from decide_eq_false (fun h => hk h.1))
          have bk : (fk == 2) = false := by simp [hk]
          clear hk
          go_wp2_with fail
          go_region
          go_wp2
          go_meet
          exact ⟨congrArg Value.bool E1.out.symm, HT4.out.next ((Fr.refl (fun _ => False) _).drew)⟩
      case rest =>
        clear HT4 p1 p3 s2
        obtain ⟨rfl, ht5⟩ := hcut
        have HT5 := Lib.hid ht5
        clear ht5
        go_upto_if 74 with (fail)
        go_cut [5] (fun s5 wx => ∃ CA cc A' c', s5 = .slice CA (cmdS ⟨n, t1, x, fa, pd1⟩ ⟨fa, fk, fs, fq, fx, fB⟩).length cc ∧ Made w.heap.size CA cc (cmdS ⟨n, t1, x, fa, pd1⟩ ⟨fa, fk, fs, fq, fx, fB⟩) wx ∧ TW B s A' c' (nextS ⟨n, t1, x, fa, pd1⟩ ⟨fa, fk, fs, fq, fx, fB⟩) ⟨fa, fk, fs, fq, fx, fB⟩ FA fc w wx)
        case first =>
          by_cases hh : fk = 2 ∧ fq = x
          · have HC : Hid (cmdS ⟨n, t1, x, fa, pd1⟩ ⟨fa, fk, fs, fq, fx, fB⟩ = fB) := Lib.hid (by unfold cmdS; exact if_pos hh)
            have HN : Hid (nextS ⟨n, t1, x, fa, pd1⟩ ⟨fa, fk, fs, fq, fx, fB⟩ = ⟨n, t1, 1 - x, fa, pd1⟩) := Lib.hid (by unfold nextS; exact if_pos hh)
            rw [show decide (fk = 2 ∧ fq = x) = true from decide_eq_true hh]
            have p5 : wc.cell? ⟨w.heap.size, 5, none⟩ = some (.slice FA fB.length fc) := HT5.out.box.cell 5
            have qC := CloneC (c := fc) (l := fB) (by omega) HT5.out.row
            have hxor : bits BinOp.xor IntKind.u8 x 1 = 1 - x := by
              have := HT5.out.sb.bits.2
              simp only at this
              rcases this with rfl | rfl <;> rfl
            have HB := Lib.hid HT5.out.sb.bits
            clear hh
            go_wp2_with fail
            refine Calls.mono qC ?_
            clear qC
            rintro e w6 ⟨CA, cc, rfl, HM6, F6⟩
            have HT6 := Lib.hid (HT5.out.next F6.out)
            have hb6 : Blk w6 s 121 #[.int .u8 n, .int .u8 t1, .int .u8 x, .int .u8 fa, .slice A2 pd1.length c2] := HT6.out.sb.blk
            have k2 : w6.cell? ⟨s, 2, none⟩ = some (.int .u8 x) := hb6.cell 2
            have f2 := hb6.frozen 2
            have hb7 : Blk (w6.setCell ⟨s, 2, none⟩ (.int .u8 (1 - x))) s 121 #[.int .u8 n, .int .u8 t1, .int .u8 (1 - x), .int .u8 fa, .slice A2 pd1.length c2] := by simpa using hb6.set_ 2 (.int .u8 (1 - x))
            have hF7 : Fr (fun j => j = s) w6 (w6.setCell ⟨s, 2, none⟩ (.int .u8 (1 - x))) := (Fr.refl (fun j => j = s) w6).setCell (p := ⟨s, 2, none⟩) (fun _ => rfl) _
            have HM7 := Lib.hid (made_fr HM6.out hF7 (fun j e e' => own_blk_ne HM6.out.1 hb6 (by decide) (e' ▸ e)))
            have hsz5 := HT5.out.fr.size
            have HT7 : Hid (TW B s A2 c2 ⟨n, t1, 1 - x, fa, pd1⟩ ⟨fa, fk, fs, fq, fx, fB⟩ FA fc w (w6.setCell ⟨s, 2, none⟩ (.int .u8 (1 - x)))) := Lib.hid (HT6.out.put hF7 ⟨hb7, made_fr HT6.out.sb.made hF7 (fun j e e' => own_blk_ne HT6.out.sb.made.1 hb6 (by decide) (e' ▸ e)), HT6.out.sb.low, HB.out.1, by
              have := HB.out.2
              simp only at this ⊢
              rcases this with rfl | rfl
              · exact .inr rfl
              · exact .inl rfl⟩)
            clear hb6 hb7 hF7 HT6 HM6 F6 HB
            go_wp2
            go_meet
            exact ⟨CA, cc, A2, c2, by rw [HC.out], by rw [HC.out]; exact ⟨own_weak HM7.out.1 hsz5, HM7.out.2.1, HM7.out.2.2⟩, by rw [HN.out]; exact HT7.out⟩
          · have HC : Hid (cmdS ⟨n, t1, x, fa, pd1⟩ ⟨fa, fk, fs, fq, fx, fB⟩ = []) := Lib.hid (by unfold cmdS; exact if_neg hh)
            have HN : Hid (nextS ⟨n, t1, x, fa, pd1⟩ ⟨fa, fk, fs, fq, fx, fB⟩ = ⟨n, t1, x, fa, pd1⟩) := Lib.hid (by unfold nextS; exact if_neg hh)
            rw [show decide (fk = 2 ∧ fq = x) = false from decide_eq_false hh]
            clear hh
            go_wp2
            go_meet
            exact ⟨none, 0, A2, c2, by rw [HC.out]; rfl, by rw [HC.out]; exact made_nil _ _, by rw [HN.out]; exact HT5.out⟩
        case rest =>
          clear HT5
          obtain ⟨CA, cc, A3, c3, rfl, hm8, ht8⟩ := hcut
          obtain ⟨x3, he3⟩ : ∃ x3, nextS ⟨n, t1, x, fa, pd1⟩ ⟨fa, fk, fs, fq, fx, fB⟩ = ⟨n, t1, x3, fa, pd1⟩ := by
            unfold nextS
            split
            · exact ⟨1 - x, rfl⟩
            · exact ⟨x, rfl⟩
          rw [he3] at HT ht8
          generalize cmdS ⟨n, t1, x, fa, pd1⟩ ⟨fa, fk, fs, fq, fx, fB⟩ = cm at *
          have HM8 := Lib.hid hm8
          have HT8 := Lib.hid ht8
          clear hm8 ht8 he3
          have qA := SlAnswerC 5 HT8.out.sb
          go_wp2_with fail
          refine Calls.mono qA ?_
          clear qA
          rintro e w9 ⟨rfl, F9⟩
          have HM9 := Lib.hid (made_fr HM8.out F9.out (fun _ _ h => h))
          have HT9 := Lib.hid (HT8.out.next F9.out)
          have hr9 : Blk w9 (w.heap.size + 1) 54 (fmv f0 none 0) := HT9.out.res
          obtain ⟨d0, e0, d1, e1, d2, e2, d3, e3, d4, e4, d5, e5⟩ := stF_facts hr9 ⟨fa, 5, n, 0, 0, []⟩ none 0
          have hlt := HT9.out.lt
          have HR10 : Hid (Blk ((((((w9.setCell ⟨w.heap.size + 1, 0, none⟩ (.int .u8 fa)).setCell ⟨w.heap.size + 1, 1, none⟩ (.int .u8 5)).setCell ⟨w.heap.size + 1, 2, none⟩ (.int .u8 n)).setCell ⟨w.heap.size + 1, 3, none⟩ (.int .u8 0)).setCell ⟨w.heap.size + 1, 4, none⟩ (.int .u8 0)).setCell ⟨w.heap.size + 1, 5, none⟩ (.slice none 0 0)) (w.heap.size + 1) 54 (fmv ⟨fa, 5, n, 0, 0, []⟩ none 0)) := Lib.hid (stF_blk (f := ⟨fa, 5, n, 0, 0, []⟩) (A := none) (c := 0) hr9)
          have HF10 : Hid (Fr (fun j => j = w.heap.size + 1) w9 ((((((w9.setCell ⟨w.heap.size + 1, 0, none⟩ (.int .u8 fa)).setCell ⟨w.heap.size + 1, 1, none⟩ (.int .u8 5)).setCell ⟨w.heap.size + 1, 2, none⟩ (.int .u8 n)).setCell ⟨w.heap.size + 1, 3, none⟩ (.int .u8 0)).setCell ⟨w.heap.size + 1, 4, none⟩ (.int .u8 0)).setCell ⟨w.heap.size + 1, 5, none⟩ (.slice none 0 0))) := Lib.hid (stF_fr w9 (w.heap.size + 1) ⟨fa, 5, n, 0, 0, []⟩ none 0)
          have HS10 : Hid (SlB B s A3 c3 ⟨n, t1, x3, fa, pd1⟩ ((((((w9.setCell ⟨w.heap.size + 1, 0, none⟩ (.int .u8 fa)).setCell ⟨w.heap.size + 1, 1, none⟩ (.int .u8 5)).setCell ⟨w.heap.size + 1, 2, none⟩ (.int .u8 n)).setCell ⟨w.heap.size + 1, 3, none⟩ (.int .u8 0)).setCell ⟨w.heap.size + 1, 4, none⟩ (.int .u8 0)).setCell ⟨w.heap.size + 1, 5, none⟩ (.slice none 0 0))) := Lib.hid (HT9.out.sb.res HF10.out (by omega) (fun j e e' => own_blk_ne HT9.out.sb.made.1 HT9.out.res (by decide) (e' ▸ e)))
          have HM10 : Hid (Made w.heap.size CA cc cm ((((((w9.setCell ⟨w.heap.size + 1, 0, none⟩ (.int .u8 fa)).setCell ⟨w.heap.size + 1, 1, none⟩ (.int .u8 5)).setCell ⟨w.heap.size + 1, 2, none⟩ (.int .u8 n)).setCell ⟨w.heap.size + 1, 3, none⟩ (.int .u8 0)).setCell ⟨w.heap.size + 1, 4, none⟩ (.int .u8 0)).setCell ⟨w.heap.size + 1, 5, none⟩ (.slice none 0 0))) := Lib.hid (made_fr HM9.out HF10.out (fun j e e' => own_blk_ne HM9.out.1 HT9.out.res (by decide) (e' ▸ e)))
          have HFW : Hid (Fr (fun j => j = s) w ((((((w9.setCell ⟨w.heap.size + 1, 0, none⟩ (.int .u8 fa)).setCell ⟨w.heap.size + 1, 1, none⟩ (.int .u8 5)).setCell ⟨w.heap.size + 1, 2, none⟩ (.int .u8 n)).setCell ⟨w.heap.size + 1, 3, none⟩ (.int .u8 0)).setCell ⟨w.heap.size + 1, 4, none⟩ (.int .u8 0)).setCell ⟨w.heap.size + 1, 5, none⟩ (.slice none 0 0))) := Lib.hid (HT9.out.fr.trans HF10.out (fun j hj e => by omega))
          clear hr9 HF10 HT9 HM9 HT8 HM8
          go_wp2_with fail
          generalize ((((((w9.setCell ⟨w.heap.size + 1, 0, none⟩ (.int .u8 fa)).setCell ⟨w.heap.size + 1, 1, none⟩ (.int .u8 5)).setCell ⟨w.heap.size + 1, 2, none⟩ (.int .u8 n)).setCell ⟨w.heap.size + 1, 3, none⟩ (.int .u8 0)).setCell ⟨w.heap.size + 1, 4, none⟩ (.int .u8 0)).setCell ⟨w.heap.size + 1, 5, none⟩ (.slice none 0 0)) = W9 at *
          clear d0 e0 d1 e1 d2 e2 d3 e3 d4 e4 d5 e5 F9
          have hres : w.heap.size + 1 ≠ s := by omega
          have hcs : W9.cell? ⟨s, 1, none⟩ = some (.int .u8 t1) ∧ W9.cell? ⟨s, 2, none⟩ = some (.int .u8 x3) ∧ W9.cell? ⟨s, 4, none⟩ = some (.slice A3 pd1.length c3) := ⟨HS10.out.blk.cell 1, HS10.out.blk.cell 2, HS10.out.blk.cell 4⟩
          go_region_held_law (fun w' => w'.cell? ⟨s, 1, none⟩ = some (.int .u8 t1) ∧ w'.cell? ⟨s, 2, none⟩ = some (.int .u8 x3) ∧ w'.cell? ⟨s, 4, none⟩ = some (.slice A3 pd1.length c3)) (first | exact hcs | exact hc2 | exact hc3 | exact hc4 | exact hc5) ((go_simp; go_at_call 56; refine Calls.mono (CloneC (A := A3) (c := c3) (l := pd1) (by omega) (by exact HS10.out.made.2.1)) ?_; rintro e w11 ⟨PA, pc, rfl, HM11, F11⟩; have F11' := Lib.hid (Fr.undrew F11.out); have hb11 := HS10.out.blk.fr F11'.out (fun h => h); have hc2 : w11.cell? ⟨s, 1, none⟩ = some (.int .u8 t1) ∧ w11.cell? ⟨s, 2, none⟩ = some (.int .u8 x3) ∧ w11.cell? ⟨s, 4, none⟩ = some (.slice A3 pd1.length c3) := ⟨hb11.cell 1, hb11.cell 2, hb11.cell 4⟩; have hr11 := HR10.out.fr F11'.out (fun h => h); have g3 := hr11.cell 3; have j3 := hr11.frozen 3; have hr12 := hr11.set_ 3 (.int .u8 t1); have g4 := hr12.cell 4; have j4 := hr12.frozen 4; have hr13 := hr12.set_ 4 (.int .u8 x3); have g5 := hr13.cell 5; have j5 := hr13.frozen 5; have hr14 := hr13.set_ 5 (.slice PA pd1.length pc); have HR14 := Lib.hid hr14; have hc3 := cs3 hc2 hres 3 (.int .u8 t1); have hc4 := cs3 hc3 hres 4 (.int .u8 x3); have hc5 := cs3 hc4 hres 5 (.slice PA pd1.length pc); clear hb11 hr11 hr12 hr13 hr14))
          have hR14 : Blk (((w11.setCell ⟨w.heap.size + 1, 3, none⟩ (.int .u8 t1)).setCell ⟨w.heap.size + 1, 4, none⟩ (.int .u8 x3)).setCell ⟨w.heap.size + 1, 5, none⟩ (.slice PA pd1.length pc)) (w.heap.size + 1) 54 (fmv ⟨fa, 5, n, t1, x3, pd1⟩ PA pc) := HR14.out
          have hF12 : Fr (fun j => j = w.heap.size + 1) w11 (((w11.setCell ⟨w.heap.size + 1, 3, none⟩ (.int .u8 t1)).setCell ⟨w.heap.size + 1, 4, none⟩ (.int .u8 x3)).setCell ⟨w.heap.size + 1, 5, none⟩ (.slice PA pd1.length pc)) := (((Fr.refl (fun j => j = w.heap.size + 1) w11).setCell (p := ⟨w.heap.size + 1, 3, none⟩) (fun _ => rfl) _).setCell (p := ⟨w.heap.size + 1, 4, none⟩) (fun _ => rfl) _).setCell (p := ⟨w.heap.size + 1, 5, none⟩) (fun _ => rfl) _
          have hr11 := HR10.out.fr F11'.out (fun h => h)
          have hsz9 := HFW.out.size
          have HS12 : Hid (SlB B s A3 c3 ⟨n, t1, x3, fa, pd1⟩ (((w11.setCell ⟨w.heap.size + 1, 3, none⟩ (.int .u8 t1)).setCell ⟨w.heap.size + 1, 4, none⟩ (.int .u8 x3)).setCell ⟨w.heap.size + 1, 5, none⟩ (.slice PA pd1.length pc))) := Lib.hid ((HS10.out.fr F11'.out (fun _ _ _ h => h)).res hF12 (by omega) (fun j e e' => own_blk_ne (HS10.out.fr F11'.out (fun _ _ _ h => h)).made.1 hr11 (by decide) (e' ▸ e)))
          have hm11 := made_fr HM10.out F11'.out (fun _ _ h => h)
          have HM12 : Hid (Made w.heap.size CA cc cm (((w11.setCell ⟨w.heap.size + 1, 3, none⟩ (.int .u8 t1)).setCell ⟨w.heap.size + 1, 4, none⟩ (.int .u8 x3)).setCell ⟨w.heap.size + 1, 5, none⟩ (.slice PA pd1.length pc))) := Lib.hid (made_fr hm11 hF12 (fun j e e' => own_blk_ne hm11.1 hr11 (by decide) (e' ▸ e)))
          have hp12 := made_fr HM11.out hF12 (fun j e e' => own_blk_ne HM11.out.1 hr11 (by decide) (e' ▸ e))
          have HP12 : Hid (Made w.heap.size PA pc pd1 (((w11.setCell ⟨w.heap.size + 1, 3, none⟩ (.int .u8 t1)).setCell ⟨w.heap.size + 1, 4, none⟩ (.int .u8 x3)).setCell ⟨w.heap.size + 1, 5, none⟩ (.slice PA pd1.length pc))) := Lib.hid ⟨own_weak hp12.1 hsz9, hp12.2.1, hp12.2.2⟩
          have HFW12 : Hid (Fr (fun j => j = s) w (((w11.setCell ⟨w.heap.size + 1, 3, none⟩ (.int .u8 t1)).setCell ⟨w.heap.size + 1, 4, none⟩ (.int .u8 x3)).setCell ⟨w.heap.size + 1, 5, none⟩ (.slice PA pd1.length pc))) := Lib.hid ((HFW.out.trans (F11'.out.mono (S' := fun j => j = s) (fun _ _ h => h.elim)) (fun _ _ e => e)).trans hF12 (fun j hj e => by omega))
          rename_i hHeld
          clear hHeld hc2 hc3 hc4 hc5 hcs g3 j3 g4 j4 g5 j5 HR14 hF12 hr11 hm11 hp12 HS10 HM10 HR10 HM11 F11 F11' HFW
          generalize ((w11.setCell ⟨w.heap.size + 1, 3, none⟩ (.int .u8 t1)).setCell ⟨w.heap.size + 1, 4, none⟩ (.int .u8 x3)).setCell ⟨w.heap.size + 1, 5, none⟩ (.slice PA pd1.length pc) = W12 at *
          obtain ⟨d0, e0, d1, e1, d2, e2, d3, e3, d4, e4, d5, e5⟩ := stF_facts hR14 ⟨fa, 5, n, t1, x3, pd1⟩ PA pc
          have hR15 := stF_blk (f := ⟨fa, 5, n, t1, x3, pd1⟩) (A := PA) (c := pc) hR14
          have hF15 := stF_fr W12 (w.heap.size + 1) ⟨fa, 5, n, t1, x3, pd1⟩ PA pc
          have l0 : W12.cell? ⟨w.heap.size + 1, 0, none⟩ = some (.int .u8 fa) := hR14.cell 0
          have l1 : W12.cell? ⟨w.heap.size + 1, 1, none⟩ = some (.int .u8 5) := hR14.cell 1
          have l2 : W12.cell? ⟨w.heap.size + 1, 2, none⟩ = some (.int .u8 n) := hR14.cell 2
          have l3 : W12.cell? ⟨w.heap.size + 1, 3, none⟩ = some (.int .u8 t1) := hR14.cell 3
          have l4 : W12.cell? ⟨w.heap.size + 1, 4, none⟩ = some (.int .u8 x3) := hR14.cell 4
          have l5 : W12.cell? ⟨w.heap.size + 1, 5, none⟩ = some (.slice PA pd1.length pc) := hR14.cell 5
          have HR15 := Lib.hid hR15
          have HS15 := Lib.hid (HS12.out.res hF15 (by omega) (fun j e e' => own_blk_ne HS12.out.made.1 hR14 (by decide) (e' ▸ e)))
          have HM15 := Lib.hid (made_fr HM12.out hF15 (fun j e e' => own_blk_ne HM12.out.1 hR14 (by decide) (e' ▸ e)))
          have HP15 := Lib.hid (made_fr HP12.out hF15 (fun j e e' => own_blk_ne HP12.out.1 hR14 (by decide) (e' ▸ e)))
          have HF15 := Lib.hid (HFW12.out.trans hF15 (fun j hj e => by omega))
          clear hR14 hR15 hF15 HS12 HM12 HP12 HFW12
          go_wp2
          exact take_end (an := ⟨fa, 5, n, t1, x3, pd1⟩) (cm := cm) HR15.out rfl rfl rfl HT.out HP15.out HM15.out HS15.out HF15.out
end
/-- Take, whatever comes. -/
theorem TakeC {B s : Nat} {A FA : Option Addr} {c fc : Nat} {st : Sl} {f : Fm} {w : World} (h : SlB B s A c st w) (hp : st.pend.length ≤ 1000) (hr : RowOf c8 1 w w.heap.size FA f.B) (hfl : f.B.length ≤ 1000) (hne : ∀ ad, FA = some ad → f.B ≠ [] → ad.block ≠ s) :
    Calls Tryd.prog 35 #[.pointer (some ⟨s, 0, none⟩), .agg (fmv f FA fc)] w (TakePost B s st f w) := by
  by_cases h1 : f.addr ≠ st.addr ∨ f.kind < 1 ∨ 3 < f.kind
  · exact TakeNo h hr hne h1
  · by_cases h2 : f.kind = 1
    · exact TakeOpen h hr hne (by omega) h2
    · by_cases h3 : st.num ≠ 0 ∧ f.ses = st.num
      · exact TakeGo h hp hr hfl hne (by omega) (by omega) h2 (by omega) h3
      · exact TakeOther h hr hne (by omega) (by omega) h2 (by omega) h3
end Go.Proofs.YtdhfinpmcikimaaDoor.K
