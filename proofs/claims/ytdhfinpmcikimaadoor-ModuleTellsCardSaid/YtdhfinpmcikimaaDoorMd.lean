/- The module: Tick. -/
import Derived.Test.YtdhfinpmcikimaaDoorMc
namespace Go.Proofs.YtdhfinpmcikimaaDoor.K
open Go.RowKit
set_option linter.unusedVariables false
set_option linter.unusedSimpArgs false
theorem nums_fm (k : IntKind) (l : List Int) : l.flatMap (fun x => [Value.int k x]) = nums k l := by
  induction l with
  | nil => rfl
  | cons x l ih => rw [List.flatMap_cons, ih]; rfl
theorem offS_len (sl : Sl) (l : List Int) (hl : l.length ≤ 1000) (hp : sl.pend.length ≤ 1000) : (offS sl l).pend.length ≤ 1000 := by
  unfold offS; split
  · exact hl
  · exact hp
theorem press_ok {d : Dp} {sl : Sl} {b : Int} (hd : DpOk d) (hp : sl.pend.length ≤ 1000) : DpOk (pressS d sl b).1 ∧ (pressS d sl b).2.pend.length ≤ 1000 := by
  obtain ⟨⟨t0, t1⟩, ⟨q0, q1⟩, ⟨m0, m1⟩⟩ := hd
  have hb : ∀ k, (bytesM k d.tok d.qty).length ≤ 1000 := fun k => by rw [bytesM_len]; omega
  unfold pressS
  split
  · split
    · exact ⟨⟨⟨t0, t1⟩, ⟨by simp only [qtyS]; omega, by simp only [qtyS]; omega⟩, ⟨m0, m1⟩⟩, hp⟩
    · exact ⟨⟨⟨t0, t1⟩, ⟨q0, q1⟩, ⟨m0, m1⟩⟩, hp⟩
  · split
    · exact ⟨⟨⟨t0, t1⟩, ⟨by simp only [qtyS]; omega, by simp only [qtyS]; omega⟩, ⟨m0, m1⟩⟩, hp⟩
    · split
      · exact ⟨⟨⟨t0, t1⟩, ⟨q0, q1⟩, ⟨m0, m1⟩⟩, offS_len _ _ (hb _) hp⟩
      · split
        · exact ⟨⟨⟨t0, t1⟩, ⟨q0, q1⟩, ⟨m0, m1⟩⟩, offS_len _ _ (hb _) hp⟩
        · exact ⟨⟨⟨t0, t1⟩, ⟨q0, q1⟩, ⟨m0, m1⟩⟩, hp⟩
/-- One button, where it counts. -/
def stepP (p : Dp × Sl) (b : Int) : Dp × Sl := if p.1.lit = true ∧ p.1.latched = false then pressS p.1 p.2 b else p
def tickF (p : Dp × Sl) (l : List Int) : Dp × Sl := l.foldl stepP p
theorem tickF_snoc (p : Dp × Sl) (l : List Int) (k : Nat) (h : k < l.length) : tickF p (l.take (k + 1)) = stepP (tickF p (l.take k)) l[k] := by
  unfold tickF
  rw [List.take_succ_eq_append_getElem h, List.foldl_append]
  rfl
theorem stepP_ok {p : Dp × Sl} {b : Int} (h : DpOk p.1 ∧ p.2.pend.length ≤ 1000) : DpOk (stepP p b).1 ∧ (stepP p b).2.pend.length ≤ 1000 := by
  unfold stepP; split
  · exact press_ok h.1 h.2
  · exact h
set_option maxHeartbeats 4000000 in
set_option maxRecDepth 20000 in
theorem MTickC {B m s h : Nat} {A : Option Addr} {c : Nat} {sl : Sl} {d : Dp} {bt : BS} {a now : Int} {w : World} (hm : MoB B m s A c sl d bt a w) (hd : DpOk d) (hk : Kn h w) (hp : sl.pend.length ≤ 1000) (hnow : I64 now) :
    Calls Tryd.prog 28 #[.pointer (some ⟨m, 0, none⟩), .int .i64 now] w fun e w' => e = .returned (.tuple #[]) ∧ ∃ A' c', Hid (MoB B m s A' c' (tickF (d, sl) (prs bt now 4)).2 (tickF (d, sl) (prs bt now 4)).1 (tld bt now 4) a w') ∧ Hid (Fr (fun j => j = m ∨ j = s) w w') ∧ Hid (DpOk (tickF (d, sl) (prs bt now 4)).1 ∧ (tickF (d, sl) (prs bt now 4)).2.pend.length ≤ 1000) := by
  have HM := Lib.hid hm
  have HK := Lib.hid hk
  have HAP := Lib.hid (hk.apart hm)
  have HD : Hid (DpOk d ∧ sl.pend.length ≤ 1000) := Lib.hid ⟨hd, hp⟩
  have qP := Pressed_any (t := 86) (by decide) (o := 6) (by rfl) m bt now w hm.blk hm.wf hnow
  have HW := Lib.hid (wf_tld hm.wf now 4)
  have hpl := prs_len bt now 4
  obtain ⟨ps, hps⟩ : ∃ ps, ps = prs bt now 4 := ⟨_, rfl⟩
  have HPS := Lib.hid hps
  have hlow := hm.low
  clear hm hk hd hp
  go_enter Tryd.func28, Tryd.ntmps28
  go_wp2_with fail
  refine Calls.mono qP ?_
  clear qP
  rintro e w1 ⟨v, rfl, hb1, ho1, hf1⟩
  rw [← hps] at ho1 hpl
  obtain ⟨PA, pc, rfl, hpc⟩ := own_form ho1
  have HM1 := Lib.hid (HM.out.own hf1 hb1 HW.out)
  have HF1 : Hid (Fr (fun j => j = m ∨ j = s) w w1) := Lib.hid (hf1.mono (fun _ _ e => .inl e))
  have HO1 := Lib.hid ho1
  have HK1 := Lib.hid (HK.out.fr hf1 HAP.out.1.1 HAP.out.1.2)
  clear hb1 hf1 ho1 HM HK hps
  go_wp2
  go_loopw [5, 12] (fun _ i wr => ∃ (k : Nat) (A' : Option Addr) (c' : Nat), i = .int .i64 k ∧ k ≤ ps.length ∧ MoB B m s A' c' (tickF (d, sl) (ps.take k)).2 (tickF (d, sl) (ps.take k)).1 (tld bt now 4) a wr ∧ wr.ownsRow w.heap.size 3 1 (.slice PA ps.length pc) ps.length (nums .i64 ps) ∧ Kn h wr ∧ Fr (fun j => j = m ∨ j = s) w wr ∧ (DpOk (tickF (d, sl) (ps.take k)).1 ∧ (tickF (d, sl) (ps.take k)).2.pend.length ≤ 1000)) (fun _ i _ => ps.length - (intOf i).toNat)
  case atStart => exact ⟨0, A, c, rfl, by omega, HM1.out, HO1.out, HK1.out, HF1.out, HD.out⟩
  case round =>
    clear HM1 HO1 HK1 HF1 HD
    obtain ⟨k, A2, c2, rfl, hk, hm, ho, hkn, hf, hdp⟩ := hrel
    by_cases hlt : k < ps.length
    · have hsn := tickF_snoc (d, sl) ps k hlt
      have HSN := Lib.hid hsn
      have hdp2 := stepP_ok (b := ps[k]) hdp
      rw [← hsn] at hdp2
      have HDP2 := Lib.hid hdp2
      obtain ⟨ad, hPA, _, c0⟩ := RowOf.num (k := .i64) (row_own (c := fun x => [.int .i64 x]) (fun _ => rfl) (by rw [nums_fm]; exact ho)) hlt
      subst hPA
      rw [List.getD_eq_getElem?_getD, List.getElem?_eq_getElem hlt] at c0
      simp only [Option.getD_some] at c0
      have HM := Lib.hid hm
      have HO := Lib.hid ho
      have HKN := Lib.hid hkn
      have HF := Lib.hid hf
      have hdok := hdp.1
      have hpok := hdp.2
      clear hsn hdp2
      generalize tickF (d, sl) (ps.take k) = p at *
      generalize ps[k] = b at *
      obtain ⟨pd, psl⟩ := p
      simp only at hdok hpok
      obtain ⟨k0, k1, k2, _⟩ := HM.out.cells
      simp only at k1 k2
      have qM := MpressC (b := b) HM.out hdok HKN.out hpok
      obtain ⟨lt, hlt2⟩ : ∃ lt, lt = pd.lit := ⟨_, rfl⟩
      obtain ⟨la, hla⟩ : ∃ la, la = pd.latched := ⟨_, rfl⟩
      rw [← hlt2] at k1
      rw [← hla] at k2
      clear hm ho hkn hf hdp hdok hpok
      have HROLL : Hid (∀ W A5 c5, MoB B m s A5 c5 (stepP (pd, psl) b).2 (stepP (pd, psl) b).1 (tld bt now 4) a W → Fr (fun j => j = m ∨ j = s) wr W → (MoB B m s A5 c5 (tickF (d, sl) (ps.take (k + 1))).2 (tickF (d, sl) (ps.take (k + 1))).1 (tld bt now 4) a W ∧ W.ownsRow w.heap.size 3 1 (.slice (some ad) ps.length pc) ps.length (nums .i64 ps) ∧ Kn h W ∧ Fr (fun j => j = m ∨ j = s) w W)) := Lib.hid (fun W A5 c5 h1 h2 => by
        rw [HSN.out]
        refine ⟨h1, own_fr HO.out h2 (fun j e e' => ?_), HKN.out.fr h2 (fun e => ?_) (fun e => ?_), HF.out.trans h2 (fun _ _ e => e)⟩
        · rcases e' with e' | e'
          · exact own_blk_ne HO.out HM.out.blk (by decide) (e' ▸ e)
          · exact own_blk_ne HO.out HM.out.sb.blk (by decide) (e' ▸ e)
        · rcases e with e | e
          · exact HAP.out.1.1 e
          · exact HAP.out.2.1 e
        · rcases e with e | e
          · exact HAP.out.1.2 e
          · exact HAP.out.2.2 e)
      cases lt
      · have HST : Hid (stepP (pd, psl) b = (pd, psl)) := Lib.hid (by unfold stepP; rw [if_neg (fun h => by rw [← hlt2] at h; exact absurd h.1 (by decide))])
        clear hlt2 hla qM
        go_wp2
        go_roundw
        case rel => exact ⟨k + 1, A2, c2, by go_num, by omega, (HROLL.out _ A2 c2 (by rw [HST.out]; exact HM.out) (Fr.refl _ _)).1, (HROLL.out _ A2 c2 (by rw [HST.out]; exact HM.out) (Fr.refl _ _)).2.1, (HROLL.out _ A2 c2 (by rw [HST.out]; exact HM.out) (Fr.refl _ _)).2.2.1, (HROLL.out _ A2 c2 (by rw [HST.out]; exact HM.out) (Fr.refl _ _)).2.2.2, HDP2.out⟩
        case measure => simp [intOf]; omega
      · cases la
        · have HST : Hid (stepP (pd, psl) b = pressS pd psl b) := Lib.hid (by unfold stepP; rw [if_pos ⟨hlt2.symm, hla.symm⟩])
          clear hlt2 hla
          go_wp2_with fail
          refine Calls.mono qM ?_
          clear qM
          rintro e w5 ⟨rfl, A5, c5, H5, F5⟩
          have HR := Lib.hid (HROLL.out w5 A5 c5 (by rw [HST.out]; exact H5.out) F5.out)
          go_wp2
          go_roundw
          case rel => exact ⟨k + 1, A5, c5, by go_num, by omega, HR.out.1, HR.out.2.1, HR.out.2.2.1, HR.out.2.2.2, HDP2.out⟩
          case measure => simp [intOf]; omega
        · have HST : Hid (stepP (pd, psl) b = (pd, psl)) := Lib.hid (by unfold stepP; rw [if_neg (fun h => by rw [← hla] at h; exact absurd h.2 (by decide))])
          clear hlt2 hla qM
          go_wp2
          go_roundw
          case rel => exact ⟨k + 1, A2, c2, by go_num, by omega, (HROLL.out _ A2 c2 (by rw [HST.out]; exact HM.out) (Fr.refl _ _)).1, (HROLL.out _ A2 c2 (by rw [HST.out]; exact HM.out) (Fr.refl _ _)).2.1, (HROLL.out _ A2 c2 (by rw [HST.out]; exact HM.out) (Fr.refl _ _)).2.2.1, (HROLL.out _ A2 c2 (by rw [HST.out]; exact HM.out) (Fr.refl _ _)).2.2.2, HDP2.out⟩
          case measure => simp [intOf]; omega
    · obtain rfl : k = ps.length := by omega
      rw [List.take_length] at hm hdp
      have HM := Lib.hid hm
      have HF := Lib.hid hf
      have HDP := Lib.hid hdp
      clear hm hf hdp ho hkn
      go_wp2
      go_end0
      rw [← HPS.out]
      exact ⟨rfl, A2, c2, HM, HF, HDP⟩
end Go.Proofs.YtdhfinpmcikimaaDoor.K
