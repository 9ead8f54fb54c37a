/- The walk of ButtonHeld. -/
import Derived.Test.YtccehjcfphimgaaOnce
namespace Go.Proofs.Ytccehjcfphimgaa
open Go.RowKit
set_option linter.unusedVariables false
set_option linter.unusedSimpArgs false

theorem and_mask (x : Int) (k : Nat) (hk : k < 9223372036854775808) : ∃ m : Nat, m ≤ k ∧ bits .and .i64 x k = m := by
  have h2 : (BitVec.ofInt 64 (k : Int)).toNat = k := by
    rw [BitVec.ofInt_natCast, BitVec.toNat_ofNat]; exact Nat.mod_eq_of_lt (by omega)
  have h : (BitVec.ofInt 64 x &&& BitVec.ofInt 64 (k : Int)).toNat ≤ k := by
    rw [BitVec.toNat_and, h2]
    exact Nat.and_le_right
  refine ⟨_, h, ?_⟩
  show IntKind.i64.wrap ((BitVec.ofInt 64 x &&& BitVec.ofInt 64 (k : Int)).toNat : Int) = _
  rw [IntKind.wrap_i64]
  omega
theorem and40 (x : Int) : ∃ m : Nat, m ≤ 1099511627775 ∧ bits .and .i64 x 1099511627775 = m := and_mask x 1099511627775 (by omega)
theorem i64_mid {n : Int} (h0 : 0 ≤ n) (h1 : n ≤ 1000000000000000) : I64 n := by unfold I64; omega

/-- At the loop's head. -/
def HeldRel (w0 : World) (g m fr i now : Nat) (told : Bool) (wr : World) : Prop :=
  ∃ s, Own w0 wr g s ∧ OnlyAt s m ∧ s m = ⟨true, told, fr⟩ ∧ i ≤ 50 ∧ fr ≤ now ∧ now ≤ fr + i * 5
theorem held_round {w0 w : World} {g m fr i now : Nat} {told : Bool} (h : HeldRel w0 g m fr i now told w) (hm : m < 4) (gap : Nat) (hg : gap < 5) (hi : i < 50) :
    ∃ s, Own w0 w g s ∧ prs s ((now : Int) + gap) 4 = (if !told && decide (fr + 3 ≤ now + gap) then [(m : Int)] else []) ∧
      ∀ w', Own w0 w' g (tld s ((now : Int) + gap) 4) → ∃ s', Own w0 w' g s' ∧ (s' m).down = true ∧
        ∀ w'', Own w0 w'' g (setS s' m true ((now : Int) + gap)) → (okN m && (setS s' m true ((now : Int) + gap) m).down) = true ∧ HeldRel w0 g m fr (i + 1) (now + gap) (told || (!told && decide (fr + 3 ≤ now + gap))) w'' := by
  obtain ⟨s, ho, hd, hs, _, h1, h2⟩ := h
  have ht : tellsB (s m) ((now : Int) + gap) = (!told && decide (fr + 3 ≤ now + gap)) := by
    rw [hs]; simp only [tellsB, Bool.true_and]
    congr 1
    by_cases e : fr + 3 ≤ now + gap
    · simp [e]; omega
    · simp [e]; omega
  refine ⟨s, ho, ?_, fun w' h' => ⟨_, h', ?_, fun w'' h'' => ⟨?_, _, h'', ?_, ?_, by omega, by omega, by omega⟩⟩⟩
  · rw [prs_only hd hm, ht]
  · rw [tld_only hd hm, upd_at, toldB]; split <;> simp [hs]
  · rw [okN_of hm, tld_only hd hm, setS_at hm, upd_at, upd_at, pressB, toldB, ht, hs]
    cases told <;> simp; split <;> simp
  · rw [tld_only hd hm, setS_at hm, upd_upd]; exact only_upd hd _
  · rw [tld_only hd hm, setS_at hm, upd_at, upd_at, pressB, toldB, ht, hs]
    cases told
    · by_cases e : fr + 3 ≤ now + gap <;> simp [e]
    · simp

set_option maxHeartbeats 1000000 in
set_option maxRecDepth 10000 in
theorem held_walk (which frm : Int) (A2 : Option Addr) (c2 : Nat) (l2 : List Int) (w : World)
    (h2 : RowOf (fun x => [.int .u8 x]) 1 w w.heap.size A2 l2) (b2 : ∀ x ∈ l2, 0 ≤ x ∧ x < 256) (n2 : l2.length ≤ 4611686018427387904) :
    Calls Try.prog 8 #[.int .i64 which, .int .i64 frm, .slice A2 l2.length c2] w fun e w' => e = .returned (.bool true) ∧ Below w.heap.size w w' := by
  have H2 := Lib.hid h2
  have B2 := Lib.hid b2
  obtain ⟨m, hm, hbits⟩ := and3 which
  obtain ⟨fr, hfr, hmask⟩ := and40 frm
  have hm' : (m : Int) < 4 := by omega
  clear h2 b2
  go_enter Try.func8, Try.ntmps8
  go_wp2_with fail
  refine (shown_any _).mono ?_
  rintro e w1 ⟨rfl, F1⟩
  have O1 := Lib.hid (Own.new' F1)
  clear F1
  go_wp2_with fail
  refine (Set_own O1.out m true fr (i64_mid (by omega) (by omega)) 0 (by simp [okN_of hm])).mono ?_
  rintro e w2 ⟨rfl, O2⟩
  have R0 : Hid (HeldRel w w1.heap.size m fr 0 fr false w2) := Lib.hid ⟨_, O2.out.1, by rw [setS_at hm]; exact only_upd (fun n _ => rfl) _, by rw [setS_at hm, upd_at]; rfl, by omega, by omega, by omega⟩
  clear O1 O2
  go_wp2
  clear hbits hmask
  go_loopw [9, 10, 11] (fun n t i wr => ∃ (now i' : Nat) (told : Bool), n = .int .i64 now ∧ t = .bool told ∧ i = .int .i64 i' ∧ HeldRel w w1.heap.size m fr i' now told wr) (fun _ _ i _ => l2.length - (intOf i).toNat)
  case atStart => exact ⟨fr, 0, false, rfl, rfl, rfl, R0.out⟩
  case round =>
    obtain ⟨now, i, told, rfl, rfl, rfl, hR⟩ := hrel
    have HR := Lib.hid hR
    obtain ⟨_, _, _, _, hi, hnow0, hnow⟩ := hR
    clear R0
    have hend : ∀ (s : BS) wr, Own w wr w1.heap.size s → Below w.heap.size w wr := fun s wr ho => ho.fr.below0
    have HE := Lib.hid hend
    clear hend
    by_cases t2 : i < l2.length ∧ i < 50
    · obtain ⟨t2, t3⟩ := t2
      obtain ⟨ad2, rfl, hb2, hc2⟩ := H2.out.num t2
      have hx2 := B2.out _ (mem_getD t2)
      generalize l2.getD i 0 = x2 at *
      obtain ⟨hx20, hx21⟩ := hx2
      obtain ⟨gap, hgap⟩ : ∃ gap : Nat, x2 % 5 = gap := ⟨(x2 % 5).toNat, by omega⟩
      have hg5 : gap < 5 := by omega
      obtain ⟨s1, ho1, hp1, hn1⟩ := held_round HR.out hm gap hg5 t3
      have hcl : wr.cell? (ad2.add i) = some (.int .u8 x2) := ((HE.out _ _ ho1).cell (by rw [block_of_add]; exact hb2)).trans hc2
      have O1 := Lib.hid ho1
      have N1 := Lib.hid hn1
      clear ho1 hn1 hc2
      have key : ∀ b : Bool, (!told && decide (fr + 3 ≤ now + gap)) = b → (told = true → b = false) := by intro b hb ht; subst ht; simpa using hb.symm
      cases hb : (!told && decide (fr + 3 ≤ now + gap))
      · have hp3 : Hid (prs s1 ((now : Int) + gap) 4 = []) := Lib.hid (by rw [hp1, hb]; rfl)
        have HB := Lib.hid hb
        have hq : told = true ∨ (told = false ∧ ((now : Int) + gap) - fr < 3) := by
          cases told
          · right; refine ⟨rfl, ?_⟩; simp at hb; omega
          · left; rfl
        clear hp1 key hb
        go_wp2_with fail
        (with_reducible refine (Pressed_none O1.out _ (i64_mid (by omega) (by omega)) hp3.out).mono ?_)
        rintro e w3 ⟨A', c', rfl, O3⟩
        obtain ⟨s2, ho2, hd2, hn2⟩ := N1.out _ O3.out.1
        have O4 := Lib.hid ho2
        have N2 := Lib.hid hn2
        clear ho2 hn2 hcl hd2 hgap
        rcases hq with rfl | ⟨rfl, hq⟩
        all_goals
          go_wp2_with fail
          (with_reducible refine (Set_own O4.out m true _ (i64_mid (by omega) (by omega)) 0 (by simp [okN_of hm])).mono ?_)
          rintro e w4 ⟨rfl, O5⟩
          have N3 := Lib.hid (N2.out _ O5.out.1)
          go_wp2_with fail
          (with_reducible refine (Down_own O5.out.1 m true (by rw [Int.toNat_natCast]; exact N3.out.1)).mono ?_)
          rintro e w5 ⟨rfl, rfl⟩
          go_wp2
          go_roundw
          case rel => exact ⟨now + gap, i + 1, _, by go_num, rfl, by go_num, by have := N3.out.2; rw [HB.out] at this; exact this⟩
          case measure => simp [intOf]; omega
      · have hp3 : Hid (prs s1 ((now : Int) + gap) 4 = [(m : Int)]) := Lib.hid (by rw [hp1, hb]; rfl)
        have HB := Lib.hid hb
        obtain ⟨rfl, hq⟩ : told = false ∧ 3 ≤ ((now : Int) + gap) - fr := by
          cases told
          · refine ⟨rfl, ?_⟩; simp at hb; omega
          · cases hb
        clear hp1 key hb
        go_wp2_with fail
        (with_reducible refine (Pressed_one O1.out _ (i64_mid (by omega) (by omega)) m hp3.out).mono ?_)
        rintro e w3 ⟨g', c', rfl, hcl', O3⟩
        obtain ⟨s2, ho2, hd2, hn2⟩ := N1.out _ O3.out.1
        have O4 := Lib.hid ho2
        have N2 := Lib.hid hn2
        clear ho2 hn2 hcl hd2 hgap hcl'
        go_wp2_with fail
        (with_reducible refine (Set_own O4.out m true _ (i64_mid (by omega) (by omega)) 0 (by simp [okN_of hm])).mono ?_)
        rintro e w4 ⟨rfl, O5⟩
        have N3 := Lib.hid (N2.out _ O5.out.1)
        go_wp2_with fail
        (with_reducible refine (Down_own O5.out.1 m true (by rw [Int.toNat_natCast]; exact N3.out.1)).mono ?_)
        rintro e w5 ⟨rfl, rfl⟩
        go_wp2
        go_roundw
        case rel => exact ⟨now + gap, i + 1, _, by go_num, rfl, by go_num, by have := N3.out.2; rw [HB.out] at this; exact this⟩
        case measure => simp [intOf]; omega
    · obtain ⟨s1, ho1, _⟩ := HR.out
      have O1 := Lib.hid ho1
      clear ho1
      have hq : ¬ (i < l2.length) ∨ (i < l2.length ∧ ¬ i < 50) := by omega
      clear t2
      rcases hq with hq | ⟨hq0, hq⟩
      all_goals
        go_wp2_with fail
        (with_reducible refine (Reset_own O1.out).mono ?_)
        rintro e w3 ⟨rfl, O3⟩
        go_wp2_with fail
        (with_reducible refine (Down_own O3.out.1 m false (by simp [z4])).mono ?_)
        rintro e w4 ⟨rfl, rfl⟩
        go_wp2_with fail
        (with_reducible refine (Pressed_none O3.out.1 _ (i64_mid (by omega) (by omega)) (prs_up (fun n => rfl) _)).mono ?_)
        rintro e w5 ⟨A5, c5, rfl, O5⟩
        go_wp2
        go_ret
        exact ⟨rfl, HE.out _ _ O5.out.1⟩
end Go.Proofs.Ytccehjcfphimgaa
