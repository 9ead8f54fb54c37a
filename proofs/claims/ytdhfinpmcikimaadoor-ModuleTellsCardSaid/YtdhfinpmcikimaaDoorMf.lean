/- A line: a press. -/
import Derived.Test.YtdhfinpmcikimaaDoorMe
namespace Go.Proofs.YtdhfinpmcikimaaDoor.K
open Go.RowKit
set_option linter.unusedVariables false
set_option linter.unusedSimpArgs false
structure LiB (B l m s : Nat) (A : Option Addr) (c : Nat) (sl : Sl) (d : Dp) (bt : BS) (seq ack : Int) (w : World) : Prop where
  blk : Blk w l 47 #[.pointer (some ⟨m, 0, none⟩), .int .u8 seq, .int .u8 ack]
  mo : MoB B m s A c sl d bt 3 w
  low : B ≤ l
section
variable {B l m s : Nat} {A : Option Addr} {c : Nat} {sl : Sl} {d : Dp} {bt : BS} {seq ack : Int} {w w' : World}
theorem LiB.fr0 (h : LiB B l m s A c sl d bt seq ack w) (k : Fr0 w w') : LiB B l m s A c sl d bt seq ack w' := ⟨h.blk.fr k (fun h => h), h.mo.fr0 k, h.low⟩
theorem LiB.mod {A' : Option Addr} {c' : Nat} {sl' : Sl} {d' : Dp} {bt' : BS} (h : LiB B l m s A c sl d bt seq ack w) (k : Fr (fun j => j = m ∨ j = s) w w') (hm : MoB B m s A' c' sl' d' bt' 3 w') : LiB B l m s A' c' sl' d' bt' seq ack w' :=
  ⟨h.blk.fr k (fun e => by
    rcases e with e | e
    · exact Blk.ne_ h.blk h.mo.blk (by decide) e
    · exact Blk.ne_ h.blk h.mo.sb.blk (by decide) e), hm, h.low⟩
theorem LiB.kn {h : Nat} (hl : LiB B l m s A c sl d bt seq ack w) (hk : Kn h w) (k : Fr (fun j => j = m ∨ j = s) w w') : Kn h w' := by
  have hap := hk.apart hl.mo
  exact hk.fr k (fun e => by
    rcases e with e | e
    · exact hap.1.1 e
    · exact hap.2.1 e) (fun e => by
    rcases e with e | e
    · exact hap.1.2 e
    · exact hap.2.2 e)
end
/-- All buttons are up; all but one. -/
def AllUp (bt : BS) : Prop := ∀ n, (bt n).down = false
def OthersUp (b : Nat) (bt : BS) : Prop := ∀ n, n ≠ b → (bt n).down = false
theorem prs_up {bt : BS} (h : AllUp bt) (t : Int) (k : Nat) : prs bt t k = [] := by
  induction k with
  | zero => rfl
  | succ k ih => unfold prs; rw [ih]; simp [tellsB, h k]
theorem prs_below {bt : BS} {b : Nat} (h : OthersUp b bt) (t : Int) (k : Nat) (hk : k ≤ b) : prs bt t k = [] := by
  induction k with
  | zero => rfl
  | succ k ih => unfold prs; rw [ih (by omega)]; simp [tellsB, h k (by omega)]
theorem prs_one {bt : BS} {b : Nat} (h : OthersUp b bt) (t : Int) (k : Nat) (hk : b < k) : prs bt t k = if tellsB (bt b) t then [(b : Int)] else [] := by
  induction k with
  | zero => omega
  | succ k ih =>
    unfold prs
    by_cases e : k = b
    · subst e
      rw [prs_below h t k (Nat.le_refl _)]
      split <;> rfl
    · rw [ih (by omega)]
      simp [tellsB, h k e]
theorem tld_up {bt : BS} {b : Nat} (h : OthersUp b bt) (t : Int) : OthersUp b (tld bt t 4) := fun n hn => by
  unfold tld toldB tellsB
  split
  · rw [h n hn]; simp [h n hn]
  · exact h n hn
theorem tld_all {bt : BS} (h : AllUp bt) (t : Int) : AllUp (tld bt t 4) := fun n => by
  unfold tld toldB tellsB
  split
  · rw [h n]; simp [h n]
  · exact h n
theorem tld_b {bt : BS} {b : Nat} (hb : b < 4) (t : Int) : tld bt t 4 b = toldB (bt b) t := by unfold tld; rw [if_pos hb]
/-- How often the button counts, by how many ticks went by. -/
def downS (p : Dp × Sl) (b : Int) (i : Nat) : Dp × Sl := if i ≤ 3 then p else stepP p b
theorem tick_down {bt : BS} {b i : Nat} {now : Int} {p : Dp × Sl} (hb : b < 4) (h : OthersUp b bt) (he : bt b = ⟨true, decide (3 < i), now⟩) (hi : i ≤ 3) :
    tickF (downS p b i) (prs bt (now + i) 4) = downS p b (i + 1) ∧ OthersUp b (tld bt (now + i) 4) ∧ tld bt (now + i) 4 b = ⟨true, decide (3 < i + 1), now⟩ := by
  have h3 : decide (3 < i) = false := decide_eq_false (by omega)
  rw [h3] at he
  refine ⟨?_, tld_up h _, ?_⟩
  · rw [prs_one h _ 4 hb, he]
    by_cases e : i = 3
    · subst e
      rw [if_pos (by simp [tellsB])]
      simp [downS, tickF]
    · rw [if_neg (by simp [tellsB]; omega)]
      unfold downS
      rw [if_pos (by omega), if_pos (by omega)]
      rfl
  · rw [tld_b hb, he]
    unfold toldB
    by_cases e : i = 3
    · subst e
      rw [if_pos (by simp [tellsB])]
      simp
    · rw [if_neg (by simp [tellsB]; omega)]
      have : decide (3 < i + 1) = false := decide_eq_false (by omega)
      rw [this]
theorem set_down {bt : BS} (h : AllUp bt) {b : Nat} (hb : b < 4) (now : Int) : OthersUp b (setS bt b true now) ∧ setS bt b true now b = ⟨true, false, now⟩ := by
  have ho : okN (b : Int) = true := by simp [okN]; omega
  unfold setS
  rw [if_pos ho]
  refine ⟨fun n hn => ?_, ?_⟩
  · unfold upd
    rw [if_neg (by simpa using hn)]
    exact h n
  · unfold upd
    rw [if_pos (by simp)]
    unfold pressB
    rw [if_neg (by rw [show ((b : Int).toNat) = b by simp, h b]; decide)]
theorem set_up {bt : BS} {b : Nat} (h : OthersUp b bt) (hb : b < 4) (now : Int) : AllUp (setS bt b false now) := by
  have ho : okN (b : Int) = true := by simp [okN]; omega
  intro n
  unfold setS
  rw [if_pos ho]
  unfold upd
  by_cases hn : n = b
  · subst hn
    rw [if_pos (by simp)]
    unfold pressB
    split
    · assumption
    · rfl
  · rw [if_neg (by simpa using hn)]
    exact h n hn
theorem stepP_fin {p : Dp × Sl} {b : Int} {i : Nat} (h : DpOk p.1 ∧ p.2.pend.length ≤ 1000) : DpOk (downS p b i).1 ∧ (downS p b i).2.pend.length ≤ 1000 := by
  unfold downS; split
  · exact h
  · exact stepP_ok h
set_option maxHeartbeats 4000000 in
set_option maxRecDepth 20000 in
theorem PressC {B l m s h b : Nat} {A : Option Addr} {c : Nat} {sl : Sl} {d : Dp} {bt : BS} {seq ack now : Int} {w : World} (hl : LiB B l m s A c sl d bt seq ack w) (hd : DpOk d) (hk : Kn h w) (hp : sl.pend.length ≤ 1000) (hup : AllUp bt) (hb : b < 4) (hnow : 0 ≤ now ∧ now ≤ 1000000) :
    Calls Tryd.prog 18 #[.pointer (some ⟨l, 0, none⟩), .int .i64 b, .int .i64 now] w fun e w' => e = .returned (.int .i64 (now + 10)) ∧ ∃ A' c' bt', Hid (LiB B l m s A' c' (stepP (d, sl) b).2 (stepP (d, sl) b).1 bt' seq ack w') ∧ Hid (AllUp bt') ∧ Hid (Fr (fun j => j = m ∨ j = s) w w') := by
  obtain ⟨n0, n1⟩ := hnow
  have HL := Lib.hid hl
  have HK := Lib.hid hk
  have HP : Hid (DpOk d ∧ sl.pend.length ≤ 1000) := Lib.hid ⟨hd, hp⟩
  have l0 := hl.blk.cell 0
  have qS := MSetC hl.mo (b : Int) true now (by unfold I64; omega)
  have HSD := Lib.hid (set_down hup hb now)
  clear hl hd hk hp hup
  go_enter Tryd.func18, Tryd.ntmps18
  go_wp2_with fail
  refine Calls.mono qS ?_
  clear qS
  rintro e w1 ⟨rfl, HM1, HF1⟩
  have HF1' : Hid (Fr (fun j => j = m ∨ j = s) w w1) := Lib.hid (HF1.out.mono (fun _ _ e => .inl e))
  have HL1 := Lib.hid (HL.out.mod HF1'.out HM1.out)
  have HK1 := Lib.hid (HL.out.kn HK.out HF1'.out)
  generalize setN (b : Int) = rv at *
  clear HL HK HM1 HF1 l0
  go_wp2_with fail
  go_loopw [7] (fun i wr => ∃ (k : Nat) (A' : Option Addr) (c' : Nat) (bt' : BS), i = .int .i64 k ∧ k ≤ 4 ∧ LiB B l m s A' c' (downS (d, sl) b k).2 (downS (d, sl) b k).1 bt' seq ack wr ∧ OthersUp b bt' ∧ bt' b = ⟨true, decide (3 < k), now⟩ ∧ Kn h wr ∧ Fr (fun j => j = m ∨ j = s) w wr) (fun i _ => 4 - (intOf i).toNat)
  case atStart => exact ⟨0, A, c, _, rfl, by omega, HL1.out, HSD.out.1, HSD.out.2, HK1.out, HF1'.out⟩
  case round =>
    clear HL1 HK1 HF1' HSD
    obtain ⟨k, A', c', bt', rfl, hk4, hl, ho, hbb, hkn, hf⟩ := hrel
    have HL := Lib.hid hl
    have HO := Lib.hid ho
    have HBB := Lib.hid hbb
    have HKN := Lib.hid hkn
    have HF := Lib.hid hf
    have l0 := hl.blk.cell 0
    have hok := stepP_fin (p := (d, sl)) (b := (b : Int)) (i := k) HP.out
    by_cases hlt : k ≤ 3
    · have hkI : (k : Int) ≤ 3 := by omega
      have HTK := Lib.hid (tick_down (p := (d, sl)) hb ho hbb hlt)
      have qT := MTickC (now := now + k) hl.mo hok.1 hkn hok.2 (by unfold I64; omega)
      have hw1 : IntKind.i64.wrap (now + k) = now + k := by rw [IntKind.wrap_i64]; omega
      clear hl ho hbb hkn hf hok
      go_wp2_with fail
      refine Calls.mono qT ?_
      clear qT
      rintro e w5 ⟨rfl, A5, c5, H5, F5, G5⟩
      rw [show ((downS (d, sl) (b : Int) k).1, (downS (d, sl) (b : Int) k).2) = downS (d, sl) (b : Int) k from rfl, HTK.out.1] at H5
      have HL5 := Lib.hid (HL.out.mod F5.out H5.out)
      have HK5 := Lib.hid (HL.out.kn HKN.out F5.out)
      have HF5 := Lib.hid (HF.out.trans F5.out (fun _ _ e => e))
      clear H5 F5 G5 HL HKN HF l0
      go_wp2
      go_roundw
      case rel => exact ⟨k + 1, A5, c5, _, by go_num, by omega, HL5.out, HTK.out.2.1, HTK.out.2.2, HK5.out, HF5.out⟩
      case measure => simp [intOf]; omega
    · obtain rfl : k = 4 := by omega
      have hst : downS (d, sl) (b : Int) 4 = stepP (d, sl) b := by unfold downS; rw [if_neg (by decide)]
      rw [hst] at HL hok
      clear hl ho hbb hkn hf hst
      have qS := MSetC HL.out.mo (b : Int) false (now + 4) (by unfold I64; omega)
      have HSU := Lib.hid (set_up HO.out hb (now + 4))
      have HOK := Lib.hid hok
      have hw1 : IntKind.i64.wrap (now + 3) = now + 3 := by rw [IntKind.wrap_i64]; omega
      have hw2 : IntKind.i64.wrap (now + 3 + 1) = now + 4 := by rw [IntKind.wrap_i64]; omega
      clear hok
      obtain ⟨p, hpe⟩ : ∃ p, p = stepP (d, sl) (b : Int) := ⟨_, rfl⟩
      rw [← hpe] at HL qS HOK
      have HPE := Lib.hid hpe
      clear hpe
      obtain ⟨pd, psl⟩ := p
      go_wp2_with fail
      refine Calls.mono qS ?_
      clear qS
      rintro e w6 ⟨rfl, HM6, HF6⟩
      have HF6' : Hid (Fr (fun j => j = m ∨ j = s) wr w6) := Lib.hid (HF6.out.mono (fun _ _ e => .inl e))
      have HL6 := Lib.hid (HL.out.mod HF6'.out HM6.out)
      have HK6 := Lib.hid (HL.out.kn HKN.out HF6'.out)
      have HFF6 := Lib.hid (HF.out.trans HF6'.out (fun _ _ e => e))
      generalize setN (b : Int) = rv2 at *
      clear HL HKN HF HM6 HF6 HF6' l0 HO HBB
      go_wp2_with fail
      go_loopw [8] (fun i wr => ∃ (k : Nat) (A' : Option Addr) (c' : Nat) (bt' : BS), i = .int .i64 k ∧ k ≤ 4 ∧ LiB B l m s A' c' psl pd bt' seq ack wr ∧ AllUp bt' ∧ Kn h wr ∧ Fr (fun j => j = m ∨ j = s) w wr) (fun i _ => 4 - (intOf i).toNat)
      case atStart => exact ⟨0, A', c', _, rfl, by omega, HL6.out, HSU.out, HK6.out, HFF6.out⟩
      case round =>
        clear HL6 HK6 HFF6 HSU
        obtain ⟨k, A', c', bt', rfl, hk4, hl, ho, hkn, hf⟩ := hrel
        have HL := Lib.hid hl
        have HO := Lib.hid ho
        have HKN := Lib.hid hkn
        have HF := Lib.hid hf
        have l0 := hl.blk.cell 0
        by_cases hlt : k ≤ 3
        · have hkI : (k : Int) ≤ 3 := by omega
          have qT := MTickC (now := now + 4 + k) hl.mo HOK.out.1 hkn HOK.out.2 (by unfold I64; omega)
          rw [prs_up ho, show tickF (pd, psl) [] = (pd, psl) from rfl] at qT
          have hw3 : IntKind.i64.wrap (now + 4 + k) = now + 4 + k := by rw [IntKind.wrap_i64]; omega
          clear hl ho hkn hf
          go_wp2_with fail
          refine Calls.mono qT ?_
          clear qT
          rintro e w5 ⟨rfl, A5, c5, H5, F5, G5⟩
          have HL5 := Lib.hid (HL.out.mod F5.out H5.out)
          have HK5 := Lib.hid (HL.out.kn HKN.out F5.out)
          have HF5 := Lib.hid (HF.out.trans F5.out (fun _ _ e => e))
          have HUP5 := Lib.hid (tld_all HO.out (now + 4 + k))
          clear H5 F5 G5 HL HKN HF l0
          go_wp2
          go_roundw
          case rel => exact ⟨k + 1, A5, c5, _, by go_num, by omega, HL5.out, HUP5.out, HK5.out, HF5.out⟩
          case measure => simp [intOf]; omega
        · obtain rfl : k = 4 := by omega
          have hw4 : IntKind.i64.wrap (now + 6) = now + 6 := by rw [IntKind.wrap_i64]; omega
          have hw5 : IntKind.i64.wrap (now + 6 + 4) = now + 10 := by rw [IntKind.wrap_i64]; omega
          clear hl ho hkn hf
          go_wp2
          go_ret
          rw [← HPE.out]
          exact ⟨rfl, A', c', bt', HL, HO, HF⟩
end Go.Proofs.YtdhfinpmcikimaaDoor.K
