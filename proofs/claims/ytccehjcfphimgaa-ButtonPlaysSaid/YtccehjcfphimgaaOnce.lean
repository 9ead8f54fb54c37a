/- The walk of ButtonOnce. -/
import Derived.Test.YtccehjcfphimgaaSame
import Derived.Laws.BitsLemmas
namespace Go.Proofs.Ytccehjcfphimgaa
open Go.RowKit
set_option linter.unusedVariables false
set_option linter.unusedSimpArgs false

theorem and3 (x : Int) : ∃ m : Nat, m < 4 ∧ bits .and .i64 x 3 = m := by
  refine ⟨(BitVec.ofInt 64 x &&& 3#64).toNat, ?_, ?_⟩
  · rw [BitVec.toNat_and]
    exact Nat.lt_of_le_of_lt Nat.and_le_right (by decide)
  · show IntKind.i64.wrap ((BitVec.ofInt 64 x &&& BitVec.ofInt 64 3).toNat : Int) = _
    have h : (BitVec.ofInt 64 x &&& BitVec.ofInt 64 3).toNat < 4 := by
      rw [BitVec.toNat_and]
      exact Nat.lt_of_le_of_lt Nat.and_le_right (by decide)
    rw [IntKind.wrap_i64]
    show _ = (((BitVec.ofInt 64 x &&& BitVec.ofInt 64 3).toNat : Nat) : Int)
    omega

/-- All but one are up. -/
def OnlyAt (s : BS) (m : Nat) : Prop := ∀ n, n ≠ m → (s n).down = false
theorem tellsB_up {b : Bt} (h : b.down = false) (now : Int) : tellsB b now = false := by simp [tellsB, h]
theorem toldB_no {b : Bt} {now : Int} (h : tellsB b now = false) : toldB b now = b := by simp [toldB, h]
theorem prs_only {s : BS} {m : Nat} (h : OnlyAt s m) (hm : m < 4) (now : Int) : prs s now 4 = if tellsB (s m) now then [(m : Int)] else [] := by
  have hno : ∀ n, n ≠ m → tellsB (s n) now = false := fun n hn => tellsB_up (h n hn) now
  simp only [prs]
  match m, hm with
  | 0, _ => simp [hno 1, hno 2, hno 3]
  | 1, _ => simp [hno 0, hno 2, hno 3]
  | 2, _ => simp [hno 0, hno 1, hno 3]
  | 3, _ => simp [hno 0, hno 1, hno 2]
theorem tld_only {s : BS} {m : Nat} (h : OnlyAt s m) (hm : m < 4) (now : Int) : tld s now 4 = upd s m (toldB (s m) now) := by
  funext n
  unfold tld upd
  by_cases e : n = m
  · subst e; simp [hm]
  · rw [if_neg e]
    split
    · exact toldB_no (tellsB_up (h n e) now)
    · rfl
theorem only_upd {s : BS} {m : Nat} (h : OnlyAt s m) (b : Bt) : OnlyAt (upd s m b) m := fun n hn => by unfold upd; rw [if_neg hn]; exact h n hn
theorem upd_at (s : BS) (m : Nat) (b : Bt) : upd s m b m = b := by simp [upd]
theorem upd_upd (s : BS) (m : Nat) (b c : Bt) : upd (upd s m b) m c = upd s m c := by funext n; unfold upd; split <;> rfl
theorem okN_of {m : Nat} (h : m < 4) : okN (m : Int) = true := by simp [okN]; omega
theorem setS_at {m : Nat} (h : m < 4) (s : BS) (d : Bool) (now : Int) : setS s m d now = upd s m (pressB (s m) d now) := by simp [setS, okN_of h]

section
variable {w0 w : World} {g : Nat} {s : BS}
theorem Pressed_none (h : Own w0 w g s) (now : Int) (hn : I64 now) (hx : prs s now 4 = []) :
    Calls Try.prog 13 #[.pointer (some ⟨g, 0, none⟩), .int .i64 now] w fun e w' => ∃ A c, e = .returned (.slice A 0 c) ∧ Hid (Own w0 w' g (tld s now 4) ∧ Fr1 g w w') :=
  (Pressed_own h now hn [] hx 0 rfl).mono fun e w' ⟨A, c, he, h1⟩ => ⟨A, c, he, h1.out.1, h1.out.2.2⟩
theorem Pressed_one (h : Own w0 w g s) (now : Int) (hn : I64 now) (m : Int) (hx : prs s now 4 = [m]) :
    Calls Try.prog 13 #[.pointer (some ⟨g, 0, none⟩), .int .i64 now] w fun e w' => ∃ g' c, e = .returned (.slice (some ⟨g', 0, none⟩) 1 c) ∧ w'.cell? ⟨g', 0, none⟩ = some (.int .i64 m) ∧ Hid (Own w0 w' g (tld s now 4) ∧ Fr1 g w w') := by
  refine (Pressed_own h now hn [m] hx 1 rfl).mono fun e w' ⟨A, c, he, h1⟩ => ?_
  obtain ⟨g', cap, hv, _, _⟩ := h1.out.2.1.form (by omega)
  injection hv with hA
  subst hA
  have hc := h1.out.2.1.cells (g := g') rfl 0 (.int .i64 m) rfl
  rw [add_plain] at hc
  exact ⟨g', c, he, hc, h1.out.1, h1.out.2.2⟩
end

theorem Own.new' {w w1 : World} (h : Fr0 w w1) : Own w (w1.alloc (.cells (enc z4) 29)) w1.heap.size z4 := ⟨Blk.new w1 _ _, wf_z4, h.size, h.alloc _⟩
theorem mem_getD {l : List Int} {i : Nat} (h : i < l.length) : l.getD i 0 ∈ l := by
  rw [List.getD_eq_getElem?_getD, List.getElem?_eq_getElem h]; exact List.getElem_mem h

/-- At the outer loop's head. -/
def OnceRel (w0 : World) (g i now : Nat) (wr : World) : Prop := ∃ s, Own w0 wr g s ∧ (∀ n, (s n).down = false) ∧ i ≤ 30 ∧ now ≤ i * 20
/-- At the inner loop's head. -/
def OnceIn (w0 : World) (g m now hold k : Nat) (wr : World) : Prop := ∃ s, Own w0 wr g s ∧ OnlyAt s m ∧ s m = ⟨true, decide (3 < k), now⟩ ∧ k ≤ hold + 1
theorem once_press {w0 w : World} {g i now m hold : Nat} (h : OnceRel w0 g i now w) (hm : m < 4) : ∃ s, Own w0 w g s ∧ ∀ w', Own w0 w' g (setS s m true now) → OnceIn w0 g m now hold 0 w' := by
  obtain ⟨s, ho, hd, _, _⟩ := h
  refine ⟨s, ho, fun w' h' => ⟨_, h', ?_, ?_, by omega⟩⟩
  · rw [setS_at hm]; exact only_upd (fun n _ => hd n) _
  · rw [setS_at hm, upd_at, pressB, if_neg (by rw [hd m]; decide)]; rfl
theorem once_round {w0 w : World} {g now m hold k : Nat} (h : OnceIn w0 g m now hold k w) (hm : m < 4) (hk : k ≤ hold) : ∃ s, Own w0 w g s ∧ prs s ((now : Int) + k) 4 = (if k = 3 then [(m : Int)] else []) ∧
    ∀ w', Own w0 w' g (tld s ((now : Int) + k) 4) → OnceIn w0 g m now hold (k + 1) w' := by
  obtain ⟨s, ho, hd, hs, _⟩ := h
  have ht : tellsB (s m) ((now : Int) + k) = decide (k = 3) := by
    rw [hs]
    by_cases h3 : 3 < k
    · have : k ≠ 3 := by omega
      simp [tellsB, h3, this]
    · by_cases e : k = 3
      · simp [tellsB, e]
      · have h4 : ¬ ((now : Int) + 3 ≤ now + k) := by omega
        simp [tellsB, h3, e]; omega
  refine ⟨s, ho, ?_, fun w' h' => ⟨_, h', ?_, ?_, by omega⟩⟩
  · rw [prs_only hd hm, ht]; simp
  · rw [tld_only hd hm]; exact only_upd hd _
  · rw [tld_only hd hm, upd_at, toldB, ht, hs]
    by_cases e : k = 3
    · subst e; simp
    · have : (3 < k ↔ 3 < k + 1) := by omega
      simp [e, this]
theorem once_up {w0 w : World} {g now m hold k : Nat} (h : OnceIn w0 g m now hold k w) (hm : m < 4) (t : Int) : ∃ s, Own w0 w g s ∧ ∀ w', Own w0 w' g (setS s m false t) → ∃ s', Own w0 w' g s' ∧ ∀ n, (s' n).down = false := by
  obtain ⟨s, ho, hd, hs, _⟩ := h
  refine ⟨s, ho, fun w' h' => ⟨_, h', fun n => ?_⟩⟩
  rw [setS_at hm]
  by_cases e : n = m
  · subst e; rw [upd_at, pressB, if_neg (by rw [hs]; simp)]
  · exact only_upd hd _ n e
theorem prs_up {s : BS} (h : ∀ n, (s n).down = false) (now : Int) : prs s now 4 = [] := by
  simp [prs, tellsB_up (h _)]
theorem tld_up {s : BS} (h : ∀ n, (s n).down = false) (now : Int) : tld s now 4 = s := by
  funext n; unfold tld; split
  · exact toldB_no (tellsB_up (h n) now)
  · rfl
theorem i64_small {n : Int} (h0 : 0 ≤ n) (h1 : n ≤ 1000000000) : I64 n := by unfold I64; omega

set_option maxHeartbeats 1000000 in
set_option maxRecDepth 10000 in
theorem once_walk (which : Int) (A1 A2 : Option Addr) (c1 c2 : Nat) (l1 l2 : List Int) (w : World)
    (h1 : RowOf (fun x => [.int .u8 x]) 1 w w.heap.size A1 l1) (h2 : RowOf (fun x => [.int .u8 x]) 1 w w.heap.size A2 l2)
    (b1 : ∀ x ∈ l1, 0 ≤ x ∧ x < 256) (b2 : ∀ x ∈ l2, 0 ≤ x ∧ x < 256) (n1 : l1.length ≤ 4611686018427387904) (n2 : l2.length ≤ 4611686018427387904) :
    Calls Try.prog 4 #[.int .i64 which, .slice A1 l1.length c1, .slice A2 l2.length c2] w fun e w' => e = .returned (.bool true) ∧ Below w.heap.size w w' := by
  have H1 := Lib.hid h1
  have H2 := Lib.hid h2
  have B1 := Lib.hid b1
  have B2 := Lib.hid b2
  obtain ⟨m, hm, hbits⟩ := and3 which
  have hm' : (m : Int) < 4 := by omega
  clear h1 h2 b1 b2
  go_enter Try.func4, Try.ntmps4
  go_wp2_with fail
  refine (shown_any _).mono ?_
  rintro e w1 ⟨rfl, F1⟩
  have O1 := Lib.hid (Own.new' F1)
  clear F1
  go_wp2
  go_loopw [9, 10] (fun n i wr => ∃ now i' : Nat, n = .int .i64 now ∧ i = .int .i64 i' ∧ OnceRel w w1.heap.size i' now wr) (fun _ i _ => l1.length - (intOf i).toNat)
  case atStart => exact ⟨0, 0, rfl, rfl, _, O1.out, fun n => rfl, by omega, by omega⟩
  case round =>
    obtain ⟨now, i, rfl, rfl, hR⟩ := hrel
    have HR := Lib.hid hR
    obtain ⟨_, _, _, hi, hnow⟩ := hR
    clear O1
    have hdone : ∀ w', OnceRel w w1.heap.size i now w' → Below w.heap.size w w' := fun w' ⟨s, ho, _⟩ => ho.fr.below0
    have HD := Lib.hid hdone
    clear hdone
    by_cases t1 : i < l1.length
    · by_cases t2 : i < l2.length
      · by_cases t3 : i < 30
        · obtain ⟨ad1, rfl, hb1, hc1⟩ := H1.out.num t1
          obtain ⟨ad2, rfl, hb2, hc2⟩ := H2.out.num t2
          have hx1 := B1.out _ (mem_getD t1)
          have hx2 := B2.out _ (mem_getD t2)
          generalize l1.getD i 0 = x1 at *
          generalize l2.getD i 0 = x2 at *
          obtain ⟨hx10, hx11⟩ := hx1
          obtain ⟨hx20, hx21⟩ := hx2
          have HC1 := Lib.hid hc1
          have HC2 := Lib.hid hc2
          clear hc1 hc2
          obtain ⟨hold, hh⟩ : ∃ hold : Nat, x1 % 9 = hold := ⟨(x1 % 9).toNat, by omega⟩
          obtain ⟨gap, hgap⟩ : ∃ gap : Nat, x2 % 5 = gap := ⟨(x2 % 5).toNat, by omega⟩
          have hh9 : hold < 9 := by omega
          have hg5 : gap < 5 := by omega
          obtain ⟨s1, ho1, hs1⟩ := once_press (hold := hold) HR.out hm
          have O1 := Lib.hid ho1
          have S1 := Lib.hid hs1
          clear ho1 hs1
          go_wp2_with fail
          (with_reducible refine (Set_own O1.out m true now (i64_small (by omega) (by omega)) 0 (by simp [okN_of hm])).mono ?_)
          rintro e w2 ⟨rfl, O2⟩
          have hc1 : w2.cell? (ad1.add i) = some (.int .u8 x1) := (O2.out.1.fr.below0.cell (by rw [block_of_add]; exact hb1)).trans HC1.out
          have R2 := Lib.hid (S1.out _ O2.out.1)
          clear O1 S1
          clear HR
          obtain ⟨wo, rfl⟩ : ∃ wo : World, wo = wr := ⟨_, rfl⟩
          go_wp2
          clear hh hc1
          go_loopw [12] (fun k wr => ∃ k' : Nat, k = .int .i64 k' ∧ OnceIn w w1.heap.size m now hold k' wr) (fun k _ => hold + 1 - (intOf k).toNat)
          case atStart => exact ⟨0, rfl, R2.out⟩
          case round =>
            obtain ⟨k, rfl, hR⟩ := hrel
            have HR := Lib.hid hR
            clear hR R2
            by_cases t4 : k ≤ hold
            · obtain ⟨s2, ho2, hp2, hs2⟩ := once_round HR.out hm t4
              have O2' := Lib.hid ho2
              have S2 := Lib.hid hs2
              clear ho2 hs2
              by_cases t5 : k = 3
              · have hp3 : Hid (prs s2 ((now : Int) + k) 4 = [(m : Int)]) := Lib.hid (by rw [hp2, if_pos t5])
                have hq : ((k : Int) == 3) = true := by simp; omega
                clear hp2 t5
                go_wp2_with fail
                (with_reducible refine (Pressed_one O2'.out _ (i64_small (by omega) (by omega)) m hp3.out).mono ?_)
                rintro e w3 ⟨g', c', rfl, hcl, O3⟩
                go_wp2
                go_roundw
                case rel => exact ⟨k + 1, by go_num, S2.out _ O3.out.1⟩
                case measure => simp [intOf]; omega
              · have hp3 : Hid (prs s2 ((now : Int) + k) 4 = []) := Lib.hid (by rw [hp2, if_neg t5])
                have hq : ((k : Int) == 3) = false := by simp; omega
                clear hp2 t5
                go_wp2_with fail
                (with_reducible refine (Pressed_none O2'.out _ (i64_small (by omega) (by omega)) hp3.out).mono ?_)
                rintro e w3 ⟨A', c', rfl, O3⟩
                go_wp2
                go_roundw
                case rel => exact ⟨k + 1, by go_num, S2.out _ O3.out.1⟩
                case measure => simp [intOf]; omega
            · obtain ⟨s3, ho3, hs3⟩ := once_up HR.out hm ((now : Int) + hold)
              have O3 := Lib.hid ho3
              have S3 := Lib.hid hs3
              clear ho3 hs3
              go_wp2_with fail
              (with_reducible refine (Set_own O3.out m false _ (i64_small (by omega) (by omega)) 0 (by simp [okN_of hm])).mono ?_)
              rintro e w4 ⟨rfl, O4⟩
              obtain ⟨s4, ho4, hd4⟩ := S3.out _ O4.out.1
              have O4' := Lib.hid ho4
              have D4 := Lib.hid hd4
              clear ho4 hd4 O4 O3 S3
              go_wp2_with fail
              (with_reducible refine (Pressed_none O4'.out _ (i64_small (by omega) (by omega)) (prs_up D4.out _)).mono ?_)
              rintro e w5 ⟨A5, c5, rfl, O5⟩
              have O5' : Hid (Own w w5 w1.heap.size s4) := Lib.hid (by have := O5.out.1; rw [tld_up D4.out] at this; exact this)
              have hc2 : w5.cell? (ad2.add i) = some (.int .u8 x2) := (O5'.out.fr.below0.cell (by rw [block_of_add]; exact hb2)).trans HC2.out
              go_wp2_with fail
              (with_reducible refine (Pressed_none O5'.out _ (i64_small (by omega) (by omega)) (prs_up D4.out _)).mono ?_)
              rintro e w6 ⟨A6, c6, rfl, O6⟩
              have O6' : Hid (Own w w6 w1.heap.size s4) := Lib.hid (by have := O6.out.1; rw [tld_up D4.out] at this; exact this)
              clear hc2
              go_wp2_with fail
              (with_reducible refine (Down_own O6'.out m false (by rw [Int.toNat_natCast, D4.out]; simp)).mono ?_)
              rintro e w7 ⟨rfl, rfl⟩
              go_wp2
              go_roundw
              case rel => exact ⟨now + hold + gap, i + 1, by go_num, by go_num, s4, O6'.out, D4.out, by omega, by omega⟩
              case measure => simp [intOf]; omega
        · go_wp2
          go_ret
          exact ⟨rfl, HD.out _ HR.out⟩
      · go_wp2
        go_ret
        exact ⟨rfl, HD.out _ HR.out⟩
    · go_wp2
      go_ret
      exact ⟨rfl, HD.out _ HR.out⟩
end Go.Proofs.Ytccehjcfphimgaa
