/- The walk of ButtonShort. -/
import Derived.Test.YtccehjcfphimgaaHeld
import Derived.Deep.RegionHeld3
import Derived.Deep.DrawnRows
namespace Go.Proofs.Ytccehjcfphimgaa
open Go.RowKit
set_option linter.unusedVariables false
set_option linter.unusedSimpArgs false
attribute [local go_sem ↓] Go.wp_at_zero Go.wp_at_succ

theorem Own.drew {w0 w : World} {g : Nat} {s : BS} (h : Own w0 w g s) : Own w0 w.drew g s := ⟨h.blk.drew, h.wf, h.base, h.fr.drew⟩
/-- At the loop's head. -/
def ShortRel (w0 : World) (g m i since : Nat) (down : Bool) (wr : World) : Prop :=
  ∃ s, Own w0 wr g s ∧ OnlyAt s m ∧ i ≤ 60 ∧ since ≤ i ∧ (down = true → s m = ⟨true, decide (since + 3 < i), since⟩ ∧ since < i) ∧ (down = false → (s m).down = false)
/-- Since when it is down behind a step. -/
def sinceOf (d down : Bool) (since i : Nat) : Nat := if d && !down then i else since
theorem short_round {w0 w : World} {g m i since : Nat} {down : Bool} (h : ShortRel w0 g m i since down w) (hm : m < 4) (d : Bool) (hi : i < 60) :
    ∃ s, Own w0 w g s ∧ ∃ s1, setS s m d i = s1 ∧ (s1 m).down = d ∧ prs s1 i 4 = (if d && decide (sinceOf d down since i + 3 = i) then [(m : Int)] else []) ∧
      ∀ w', Own w0 w' g (tld s1 i 4) → ShortRel w0 g m (i + 1) (sinceOf d down since i) d w' := by
  obtain ⟨s, ho, hd, _, hle, h1, h0⟩ := h
  have hat : (setS s m d i) m = pressB (s m) d i := by rw [setS_at hm, upd_at]
  have hon : OnlyAt (setS s m d i) m := by rw [setS_at hm]; exact only_upd hd _
  have hdown : ((setS s m d i) m).down = d := by
    rw [hat, pressB]
    split
    · assumption
    · rfl
  have hkey : d = true → (setS s m d i) m = ⟨true, decide (sinceOf d down since i + 3 < i), sinceOf d down since i⟩ := by
    rintro rfl
    rw [hat, pressB]
    cases down
    · rw [if_neg (by rw [h0 rfl]; decide)]
      simp [sinceOf]
    · rw [if_pos (by rw [(h1 rfl).1]), (h1 rfl).1]
      simp [sinceOf]
  have hs : sinceOf d down since i ≤ i := by unfold sinceOf; split <;> omega
  have htell : tellsB ((setS s m d i) m) i = (d && decide (sinceOf d down since i + 3 = i)) := by
    cases d
    · rw [tellsB_up hdown]; rfl
    · rw [hkey rfl, Bool.true_and]
      generalize sinceOf true down since i = q at *
      by_cases e : q + 3 = i
      · simp [tellsB, e]; omega
      · by_cases e2 : q + 3 < i
        · simp [tellsB, e2, e]
        · have : ¬ ((q : Int) + 3 ≤ i) := by omega
          simp [tellsB, e, this]
  refine ⟨s, ho, _, rfl, hdown, ?_, fun w' h' => ⟨_, h', ?_, by omega, by omega, fun hd1 => ?_, fun hd0 => ?_⟩⟩
  · rw [prs_only hon hm, htell]
  · rw [tld_only hon hm]; exact only_upd hon _
  · rw [tld_only hon hm, upd_at, toldB, htell, hkey hd1]
    subst hd1
    generalize sinceOf true down since i = q at *
    refine ⟨?_, by omega⟩
    by_cases e : q + 3 = i
    · have : q + 3 < i + 1 := by omega
      simp [e, this]
    · have : (q + 3 < i ↔ q + 3 < i + 1) := by omega
      simp [e, this]
  · rw [tld_only hon hm, upd_at, toldB, htell]
    subst hd0
    simp [hdown]

set_option maxHeartbeats 1000000 in
set_option maxRecDepth 10000 in
theorem short_walk (which : Int) (A1 : Option Addr) (c1 : Nat) (l1 : List Bool) (w : World)
    (h1 : RowOf (fun x => [.bool x]) 1 w w.heap.size A1 l1) (n1 : l1.length ≤ 4611686018427387904) :
    Calls Try.prog 7 #[.int .i64 which, .slice A1 l1.length c1] w fun e w' => e = .returned (.bool true) ∧ Below w.heap.size w w' := by
  have H1 := Lib.hid h1
  obtain ⟨m, hm, hbits⟩ := and3 which
  have hm' : (m : Int) < 4 := by omega
  clear h1
  go_enter Try.func7, Try.ntmps7
  go_wp2_with fail
  refine (shown_any _).mono ?_
  rintro e w1 ⟨rfl, F1⟩
  have O1 := Lib.hid (Own.new' F1)
  clear F1
  go_wp2
  clear hbits
  go_loopw [7, 8, 9] (fun q t i wr => ∃ (since i' : Nat) (down : Bool), q = .int .i64 since ∧ t = .bool down ∧ i = .int .i64 i' ∧ ShortRel w w1.heap.size m i' since down wr) (fun _ _ i _ => l1.length - (intOf i).toNat)
  case atStart => exact ⟨0, 0, false, rfl, rfl, rfl, _, O1.out, fun n _ => rfl, by omega, by omega, (fun h => by cases h), fun _ => rfl⟩
  case round =>
    obtain ⟨since, i, down, rfl, rfl, rfl, hR⟩ := hrel
    have HR := Lib.hid hR
    obtain ⟨_, _, _, hi, hsi, _, _⟩ := hR
    clear O1
    have hend : ∀ (s : BS) wr, Own w wr w1.heap.size s → Below w.heap.size w wr := fun s wr ho => ho.fr.below0
    have HE := Lib.hid hend
    clear hend
    by_cases t2 : i < l1.length
    · by_cases t3 : i < 60
      · obtain ⟨ad, rfl, hb, hc⟩ := H1.out i _ (List.getElem?_eq_getElem t2)
        generalize l1[i] = d at *
        have hc0 := hc 0 _ rfl
        rw [Nat.mul_one, Nat.add_zero] at hc0
        obtain ⟨s, ho, s1, hs1, hd1, hp1, hn1⟩ := short_round HR.out hm d t3
        have hcl : wr.cell? (ad.add i) = some (.bool d) := ((HE.out _ _ ho).cell (by rw [block_of_add]; exact hb)).trans hc0
        have O1 := Lib.hid ho
        have N1 := Lib.hid hn1
        have D1 := Lib.hid hd1
        have P1 := Lib.hid hp1
        have S1 := Lib.hid hs1
        have HC := Lib.hid hc0
        have hbb : Hid ((ad.add i).block < w.heap.size) := Lib.hid (by rw [block_of_add]; exact hb)
        clear ho hn1 hd1 hp1 hs1 hc hc0 hb
        go_wp2_with fail
        go_region_held3 (fun w' => w'.cell? (ad.add i) = some (.bool d)) (go_keep) (first | (go_at_call 11; refine (Set_own (w0 := w) (g := w1.heap.size) (s := s) (by exact O1.out.drew) m d i (i64_mid (by omega) (by omega)) 0 (by simp [okN_of hm])).mono ?_; rintro e w2 ⟨rfl, O2⟩; have hcl2 : w2.cell? (ad.add i) = some (.bool d) := ((HE.out _ _ O2.out.1).cell hbb.out).trans HC.out) | (go_at_call 18; refine (Down_own (w0 := w) (g := w1.heap.size) (s := s1) (by exact (S1.out ▸ O2.out.1)) m d (by rw [Int.toNat_natCast, okN_of hm]; simpa using D1.out)).mono ?_; rintro e w3 ⟨rfl, rfl⟩))
        cases d
        · cases down
          · have hp3 : Hid (prs s1 (i : Int) 4 = []) := Lib.hid (by rw [P1.out]; rfl)
            go_wp2_with fail
            (with_reducible refine (Pressed_none (w0 := w) (g := w1.heap.size) (s := s1) (S1.out ▸ O2.out.1) _ (i64_mid (by omega) (by omega)) hp3.out).mono ?_)
            rintro e w3 ⟨A', c', rfl, O3⟩
            go_wp2
            go_roundw
            case rel => exact ⟨_, i + 1, _, rfl, rfl, by go_num, N1.out _ O3.out.1⟩
            case measure => simp [intOf]; omega
          · have hp3 : Hid (prs s1 (i : Int) 4 = []) := Lib.hid (by rw [P1.out]; rfl)
            go_wp2_with fail
            (with_reducible refine (Pressed_none (w0 := w) (g := w1.heap.size) (s := s1) (S1.out ▸ O2.out.1) _ (i64_mid (by omega) (by omega)) hp3.out).mono ?_)
            rintro e w3 ⟨A', c', rfl, O3⟩
            go_wp2
            go_roundw
            case rel => exact ⟨_, i + 1, _, rfl, rfl, by go_num, N1.out _ O3.out.1⟩
            case measure => simp [intOf]; omega
        · cases down
          · have hp3 : Hid (prs s1 (i : Int) 4 = []) := Lib.hid (by rw [P1.out]; simp [sinceOf])
            go_wp2_with fail
            (with_reducible refine (Pressed_none (w0 := w) (g := w1.heap.size) (s := s1) (S1.out ▸ O2.out.1) _ (i64_mid (by omega) (by omega)) hp3.out).mono ?_)
            rintro e w3 ⟨A', c', rfl, O3⟩
            go_wp2
            go_roundw
            case rel => exact ⟨_, i + 1, _, rfl, rfl, by go_num, N1.out _ O3.out.1⟩
            case measure => simp [intOf]; omega
          · by_cases he : since + 3 = i
            · have hp3 : Hid (prs s1 (i : Int) 4 = [(m : Int)]) := Lib.hid (by rw [P1.out]; simp [sinceOf, he])
              have hq : ((i : Int) - since == 3) = true := by simp; omega
              clear he
              go_wp2_with fail
              (with_reducible refine (Pressed_one (w0 := w) (g := w1.heap.size) (s := s1) (S1.out ▸ O2.out.1) _ (i64_mid (by omega) (by omega)) m hp3.out).mono ?_)
              rintro e w3 ⟨g', c', rfl, hcell, O3⟩
              go_wp2
              go_roundw
              case rel => exact ⟨_, i + 1, _, rfl, rfl, by go_num, N1.out _ O3.out.1⟩
              case measure => simp [intOf]; omega
            · have hp3 : Hid (prs s1 (i : Int) 4 = []) := Lib.hid (by rw [P1.out]; simp [sinceOf, he])
              have hq : ((i : Int) - since == 3) = false := by simp; omega
              clear he
              go_wp2_with fail
              (with_reducible refine (Pressed_none (w0 := w) (g := w1.heap.size) (s := s1) (S1.out ▸ O2.out.1) _ (i64_mid (by omega) (by omega)) hp3.out).mono ?_)
              rintro e w3 ⟨A', c', rfl, O3⟩
              go_wp2
              go_roundw
              case rel => exact ⟨_, i + 1, _, rfl, rfl, by go_num, N1.out _ O3.out.1⟩
              case measure => simp [intOf]; omega
      · obtain ⟨s1, ho1, _⟩ := HR.out
        have O1 := Lib.hid ho1
        clear ho1
        go_wp2
        go_ret
        exact ⟨rfl, HE.out _ _ O1.out⟩
    · obtain ⟨s1, ho1, _⟩ := HR.out
      have O1 := Lib.hid ho1
      clear ho1
      go_wp2
      go_ret
      exact ⟨rfl, HE.out _ _ O1.out⟩
end Go.Proofs.Ytccehjcfphimgaa
