/- The walk of ButtonApart. -/
import Derived.Test.YtccehjcfphimgaaMoved
namespace Go.Proofs.Ytccehjcfphimgaa
open Go.RowKit
set_option linter.unusedVariables false
set_option linter.unusedSimpArgs false
attribute [local go_sem ↓] Go.wp_at_zero Go.wp_at_succ

def ApartRel (w0 : World) (gx gy m : Nat) (wr : World) : Prop := ∃ s t, Own w0 wr gx s ∧ Own w0 wr gy t ∧ OnlyAt t m ∧ t m = s m
theorem only_set {t : BS} {m : Nat} (h : OnlyAt t m) (hm : m < 4) (d : Bool) (now : Int) : OnlyAt (setS t m d now) m := by rw [setS_at hm]; exact only_upd h _
theorem set_same {s t : BS} {m : Nat} (hm : m < 4) (h : t m = s m) (d : Bool) (now : Int) : (setS t m d now) m = (setS s m d now) m := by rw [setS_at hm, setS_at hm, upd_at, upd_at, h]
theorem set_other {s : BS} {m : Nat} {n : Int} (hn : n ≠ m) (d : Bool) (now : Int) : (setS s n d now) m = s m := by
  unfold setS
  split
  · rename_i h
    obtain ⟨k, rfl, _⟩ := okN_nat h
    unfold upd
    rw [if_neg (by simp; omega)]
  · rfl
theorem tld_same {s t : BS} {m : Nat} (h : t m = s m) (now : Int) (k : Nat) : (tld t now k) m = (tld s now k) m := by unfold tld; rw [h]
theorem prs_mem (s : BS) (now : Int) (m k : Nat) : (m : Int) ∈ prs s now k ↔ m < k ∧ tellsB (s m) now = true := by
  induction k with
  | zero => simp [prs]
  | succ k ih =>
    simp only [prs]
    split
    · rename_i h
      rw [List.mem_append, ih]
      simp only [List.mem_singleton]
      constructor
      · rintro (⟨h1, h2⟩ | h1)
        · exact ⟨by omega, h2⟩
        · obtain rfl : m = k := by omega
          exact ⟨by omega, h⟩
      · rintro ⟨h1, h2⟩
        by_cases e : m = k
        · right; subst e; rfl
        · left; exact ⟨by omega, h2⟩
    · rename_i h
      rw [ih]
      constructor
      · rintro ⟨h1, h2⟩; exact ⟨by omega, h2⟩
      · rintro ⟨h1, h2⟩
        refine ⟨?_, h2⟩
        by_cases e : m = k
        · subst e; exact absurd h2 h
        · omega
/-- Told ones rise, and are none but the four. -/
theorem prs_rise (s : BS) (now : Int) (k : Nat) : (∀ j, j < (prs s now k).length → 0 ≤ (prs s now k).getD j 0 ∧ (prs s now k).getD j 0 < k) ∧
    ∀ j, j + 1 < (prs s now k).length → (prs s now k).getD j 0 < (prs s now k).getD (j + 1) 0 := by
  induction k with
  | zero => simp [prs]
  | succ k ih =>
    obtain ⟨h1, h2⟩ := ih
    simp only [prs]
    split
    · have hg : ∀ j, j < (prs s now k).length → (prs s now k ++ [(k : Int)]).getD j 0 = (prs s now k).getD j 0 := fun j hj => by
        rw [List.getD_eq_getElem?_getD, List.getD_eq_getElem?_getD, List.getElem?_append_left hj]
      have hl : (prs s now k ++ [(k : Int)]).getD (prs s now k).length 0 = k := by
        rw [List.getD_eq_getElem?_getD, List.getElem?_append_right (Nat.le_refl _)]; simp
      refine ⟨fun j hj => ?_, fun j hj => ?_⟩
      · simp only [List.length_append, List.length_cons, List.length_nil] at hj
        by_cases e : j < (prs s now k).length
        · rw [hg j e]; have := h1 j e; omega
        · obtain rfl : j = (prs s now k).length := by omega
          rw [hl]; omega
      · simp only [List.length_append, List.length_cons, List.length_nil] at hj
        rw [hg j (by omega)]
        by_cases e : j + 1 < (prs s now k).length
        · rw [hg _ e]; exact h2 j e
        · rw [show j + 1 = (prs s now k).length by omega, hl]
          exact (h1 j (by omega)).2
    · exact ⟨fun j hj => by have := h1 j hj; omega, h2⟩
/-- The inner loop: what was found among the first k. -/
def hasTo (xs : List Int) (m k : Nat) : Bool := decide ((m : Int) ∈ xs.take k)
theorem hasTo_succ {xs : List Int} {m k : Nat} (hk : k < xs.length) : hasTo xs m (k + 1) = (hasTo xs m k || (xs.getD k 0 == (m : Int))) := by
  unfold hasTo
  have h : ((m : Int) ∈ xs.take (k + 1)) ↔ ((m : Int) ∈ xs.take k ∨ xs[k] = (m : Int)) := by
    rw [List.take_succ_eq_append_getElem hk, List.mem_append, List.mem_singleton]
    constructor
    · rintro (h | h)
      · exact .inl h
      · exact .inr h.symm
    · rintro (h | h)
      · exact .inl h
      · exact .inr h.symm
  rw [List.getD_eq_getElem?_getD, List.getElem?_eq_getElem hk]
  simp only [h, Bool.decide_or, Option.getD_some]
  congr 1
def ApIn (w0 : World) (gx gy : Nat) (s t : BS) (A : Option Addr) (c : Nat) (xs : List Int) (wr : World) : Prop :=
  Own w0 wr gx s ∧ Own w0 wr gy t ∧ ∃ b, wr.ownsRow b 3 1 (.slice A xs.length c) xs.length (nums .i64 xs)

set_option maxHeartbeats 4000000 in
set_option maxRecDepth 10000 in
theorem apart_walk (A0 : Option Addr) (c0 : Nat) (l0 : List Stp) (which : Int) (w : World)
    (h0 : RowOf Stp.c 4 w w.heap.size A0 l0) (n0 : l0.length ≤ 4611686018427387904) (i0 : ∀ s ∈ l0, I64 s.now) :
    Calls Try.prog 5 #[.slice A0 l0.length c0, .int .i64 which] w fun e w' => e = .returned (.bool true) ∧ Below w.heap.size w w' := by
  have H0 := Lib.hid h0
  have I0 := Lib.hid i0
  obtain ⟨m, hm, hbits⟩ := and3 which
  have hm' : (m : Int) < 4 := by omega
  clear h0 i0
  go_enter Try.func5, Try.ntmps5
  go_wp2_with fail
  refine (shown_any _).mono ?_
  rintro e w1 ⟨rfl, F1⟩
  have O1 := Lib.hid (Own.new2 F1)
  have hne := Lib.hid (show w1.heap.size ≠ w1.heap.size + 1 by omega)
  clear F1
  go_wp2
  clear hbits
  go_loopw [8] (fun i wr => ∃ i' : Nat, i = .int .i64 i' ∧ ApartRel w w1.heap.size (w1.heap.size + 1) m wr) (fun i _ => l0.length - (intOf i).toNat)
  case atStart => exact ⟨0, rfl, _, _, O1.out.1, O1.out.2, fun n _ => rfl, rfl⟩
  case round =>
    obtain ⟨j, rfl, s, t, hs, ht, hon, hst⟩ := hrel
    have OX := Lib.hid hs
    have OY := Lib.hid ht
    have HO := Lib.hid hon
    have HST := Lib.hid hst
    clear hs ht hon hst O1
    by_cases t2 : j < l0.length
    · by_cases t3 : j < 100
      · obtain ⟨ad, rfl, hb, c0, c1', c2', c3'⟩ := stp_later H0.out OX.out.fr.below0 t2
        have hnow := Lib.hid (I0.out _ (List.getElem_mem t2))
        generalize (l0[j]).kind = kind at *
        generalize (l0[j]).btn = btn at *
        generalize (l0[j]).down = dn at *
        generalize (l0[j]).now = now at *
        have OX1 := Lib.hid (OX.out.alloc (.cells #[.int .i64 kind, .int .i64 btn, .bool dn, .int .i64 now] 35))
        have OY1 := Lib.hid (OY.out.alloc (.cells #[.int .i64 kind, .int .i64 btn, .bool dn, .int .i64 now] 35))
        have BS1 := Lib.hid (Blk.new wr 35 #[.int .i64 kind, .int .i64 btn, .bool dn, .int .i64 now])
        have hns := Lib.hid (show wr.heap.size ≠ w1.heap.size ∧ wr.heap.size ≠ w1.heap.size + 1 from ⟨by have := OX.out.blk.lt; omega, by have := OY.out.blk.lt; omega⟩)
        rcases kind_cases kind with rfl | rfl | rfl | rfl | rfl | rfl | ⟨q1, q2, q3, q4, q5, q6⟩
        · obtain ⟨r, hr⟩ : ∃ r : Int, (if okN btn then (0 : Int) else 1) = r := ⟨_, rfl⟩
          have HRR := Lib.hid hr
          clear hr
          go_wp2_with fail
          clear c0 c1' c2' c3'
          (with_reducible refine (Set_own OX1.out btn dn now hnow.out r HRR.out).mono ?_)
          rintro e w2 ⟨rfl, O2⟩
          have B2 := Lib.hid (BS1.out.fr O2.out.2 hns.out.1)
          have k1 := B2.out.cell 1
          have k2 := B2.out.cell 2
          have k3 := B2.out.cell 3
          have OY2 := Lib.hid (OY1.out.beside OX1.out O2.out.2 (Ne.symm hne.out))
          by_cases hbt : btn = (m : Int)
          · subst hbt
            go_wp2_with fail
            (with_reducible refine (Set_own OY2.out (m : Int) dn now hnow.out r HRR.out).mono ?_)
            rintro e w3 ⟨rfl, O3⟩
            have OX3 := Lib.hid (O2.out.1.beside OY2.out O3.out.2 hne.out)
            clear k1 k2 k3
            go_wp2
            go_roundw
            case rel => exact ⟨j + 1, by go_num, _, _, OX3.out, O3.out.1, only_set HO.out hm dn now, set_same hm HST.out dn now⟩
            case measure => simp [intOf]; omega
          · have hq : (btn == (m : Int)) = false := by simp [hbt]
            have HN := Lib.hid hbt
            clear hbt
            go_wp2
            go_roundw
            case rel => exact ⟨j + 1, by go_num, _, _, O2.out.1, OY2.out, HO.out, by rw [set_other HN.out]; exact HST.out⟩
            case measure => simp [intOf]; omega
        · obtain ⟨r, hr⟩ : ∃ r : Int, (if okN btn then (0 : Int) else 1) = r := ⟨_, rfl⟩
          have HRR := Lib.hid hr
          clear hr
          go_wp2_with fail
          clear c0 c1' c2' c3'
          (with_reducible refine (Set_own OX1.out btn dn now hnow.out r HRR.out).mono ?_)
          rintro e w2 ⟨rfl, O2⟩
          have B2 := Lib.hid (BS1.out.fr O2.out.2 hns.out.1)
          have k1 := B2.out.cell 1
          have k2 := B2.out.cell 2
          have k3 := B2.out.cell 3
          have OY2 := Lib.hid (OY1.out.beside OX1.out O2.out.2 (Ne.symm hne.out))
          by_cases hbt : btn = (m : Int)
          · subst hbt
            go_wp2_with fail
            (with_reducible refine (Set_own OY2.out (m : Int) dn now hnow.out r HRR.out).mono ?_)
            rintro e w3 ⟨rfl, O3⟩
            have OX3 := Lib.hid (O2.out.1.beside OY2.out O3.out.2 hne.out)
            clear k1 k2 k3
            go_wp2
            go_roundw
            case rel => exact ⟨j + 1, by go_num, _, _, OX3.out, O3.out.1, only_set HO.out hm dn now, set_same hm HST.out dn now⟩
            case measure => simp [intOf]; omega
          · have hq : (btn == (m : Int)) = false := by simp [hbt]
            have HN := Lib.hid hbt
            clear hbt
            go_wp2
            go_roundw
            case rel => exact ⟨j + 1, by go_num, _, _, O2.out.1, OY2.out, HO.out, by rw [set_other HN.out]; exact HST.out⟩
            case measure => simp [intOf]; omega
        · obtain ⟨r, hr⟩ : ∃ r : Int, (if okN btn then (0 : Int) else 1) = r := ⟨_, rfl⟩
          have HRR := Lib.hid hr
          clear hr
          go_wp2_with fail
          clear c0 c1' c2' c3'
          (with_reducible refine (Set_own OX1.out btn dn now hnow.out r HRR.out).mono ?_)
          rintro e w2 ⟨rfl, O2⟩
          have B2 := Lib.hid (BS1.out.fr O2.out.2 hns.out.1)
          have k1 := B2.out.cell 1
          have k2 := B2.out.cell 2
          have k3 := B2.out.cell 3
          have OY2 := Lib.hid (OY1.out.beside OX1.out O2.out.2 (Ne.symm hne.out))
          by_cases hbt : btn = (m : Int)
          · subst hbt
            go_wp2_with fail
            (with_reducible refine (Set_own OY2.out (m : Int) dn now hnow.out r HRR.out).mono ?_)
            rintro e w3 ⟨rfl, O3⟩
            have OX3 := Lib.hid (O2.out.1.beside OY2.out O3.out.2 hne.out)
            clear k1 k2 k3
            go_wp2
            go_roundw
            case rel => exact ⟨j + 1, by go_num, _, _, OX3.out, O3.out.1, only_set HO.out hm dn now, set_same hm HST.out dn now⟩
            case measure => simp [intOf]; omega
          · have hq : (btn == (m : Int)) = false := by simp [hbt]
            have HN := Lib.hid hbt
            clear hbt
            go_wp2
            go_roundw
            case rel => exact ⟨j + 1, by go_num, _, _, O2.out.1, OY2.out, HO.out, by rw [set_other HN.out]; exact HST.out⟩
            case measure => simp [intOf]; omega
        · have hpl := prs_len s now 4
          have hrise := Lib.hid (prs_rise s now 4)
          have hmem := Lib.hid (prs_mem s now m 4)
          obtain ⟨xs, hxs⟩ : ∃ xs, prs s now 4 = xs := ⟨_, rfl⟩
          rw [hxs] at hpl
          have HX := Lib.hid hxs
          clear hxs
          go_wp2_with fail
          clear c0 c1' c2' c3'
          (with_reducible refine (Pressed_own OX1.out now hnow.out xs HX.out _ rfl).mono ?_)
          rintro e w2 ⟨A2, d2, rfl, O2⟩
          have B2 := Lib.hid (BS1.out.fr O2.out.2.2 hns.out.1)
          have k3 := B2.out.cell 3
          have OY2 := Lib.hid (OY1.out.beside OX1.out O2.out.2.2 (Ne.symm hne.out))
          obtain ⟨nq, hq1, hq2⟩ : ∃ nq : Nat, (prs t now 4).length = nq ∧ nq = (if tellsB (s m) now then 1 else 0) := by
            refine ⟨_, rfl, ?_⟩
            rw [prs_only HO.out hm, HST.out]
            split <;> rfl
          have HQ1 := Lib.hid hq1
          have HQ2 := Lib.hid hq2
          have hnq : nq ≤ 1 := by rw [hq2]; split <;> omega
          clear hq1 hq2
          go_wp2_with fail
          clear k3
          (with_reducible refine (Pressed_own OY2.out now hnow.out _ rfl nq HQ1.out).mono ?_)
          rintro e w3 ⟨A3, d3, rfl, O3⟩
          have IN0 : Hid (ApIn w w1.heap.size (w1.heap.size + 1) (tld s now 4) (tld t now 4) A2 d2 xs w3) := Lib.hid ⟨O2.out.1.beside OY2.out O3.out.2.2 hne.out, O3.out.1, _, own_keep O2.out.2.1 OY2.out.blk (by decide) O3.out.2.2⟩
          have RN : Hid (OnlyAt (tld t now 4) m ∧ (tld t now 4) m = (tld s now 4) m) := Lib.hid ⟨by rw [tld_only HO.out hm]; exact only_upd HO.out _, tld_same HST.out now 4⟩
          clear OX OY OX1 OY1 O2 O3 OY2
          obtain ⟨wo, rfl⟩ : ∃ wo : World, wo = wr := ⟨_, rfl⟩
          go_wp2
          go_loopw [12, 13] (fun h k wr => ∃ k' : Nat, k' ≤ xs.length ∧ h = .bool (hasTo xs m k') ∧ k = .int .i64 k' ∧ ApIn w w1.heap.size (w1.heap.size + 1) (tld s now 4) (tld t now 4) A2 d2 xs wr) (fun _ k _ => xs.length - (intOf k).toNat)
          case atStart => exact ⟨0, by omega, by simp [hasTo], rfl, IN0.out⟩
          case round =>
            obtain ⟨k, hk, rfl, rfl, hin⟩ := hrel
            have IN := Lib.hid hin
            clear hin IN0
            by_cases t4 : k < xs.length
            · obtain ⟨b0, hb0⟩ := IN.out.2.2
              obtain ⟨ae, u, rfl, _, hu, hcu⟩ := (Reads.of_own hb0).at_ t4
              have hu' := nums_at hu
              subst hu'
              have hx4 := (hrise.out.1 k (by rw [HX.out]; exact t4))
              rw [HX.out] at hx4
              have hsucc := hasTo_succ (m := m) t4
              obtain ⟨x, hx⟩ : ∃ x, xs.getD k 0 = x := ⟨_, rfl⟩
              rw [hx] at hcu hx4 hsucc
              obtain ⟨h0b, hb1, hb2⟩ : ∃ b, hasTo xs m k = b ∧ hasTo xs m (k + 1) = (b || (x == (m : Int))) := ⟨_, rfl, hsucc⟩
              rw [hb1]
              have HB := Lib.hid hb2
              obtain ⟨hx0, hx1⟩ := hx4
              have e1 : decide (x < 0) = false := by simp; omega
              have e2 : decide (3 < x) = false := by simp; omega
              have hx3 : ¬ 3 < x := by omega
              have hx0' : ¬ x < 0 := by omega
              have hread : Hid (∀ j y, xs.getD j 0 = y → j < xs.length → wr.cell? (ae.add j) = some (.int .i64 y)) := Lib.hid (fun j y hy hj => by
                obtain ⟨ae', v, he, _, hv, hcv⟩ := (Reads.of_own hb0).at_ hj
                injection he with he
                subst he
                rw [nums_at hv, hy] at hcv
                exact hcv)
              clear hsucc hb0 hu hb1 hb2
              by_cases hk0 : k = 0
              · subst hk0
                have hcz : wr.cell? ae = some (.int .i64 x) := by have := hcu; rwa [show ae.add 0 = ae from rfl] at this
                clear hread hx hcu
                cases h0b
                all_goals
                  go_wp2_with fail
                  go_quiet (fail)
                  go_wp2
                  go_roundw
                  case rel => exact ⟨0 + 1, by omega, by rw [HB.out]; simp, by go_num, IN.out.1.drewN _, IN.out.2.1.drewN _, IN.out.2.2⟩
                  case measure => simp [intOf]; omega
              · obtain ⟨k1, rfl⟩ : ∃ k1, k = k1 + 1 := ⟨k - 1, by omega⟩
                have hlt1 := hrise.out.2 k1 (by rw [HX.out]; exact t4)
                rw [HX.out, hx] at hlt1
                obtain ⟨y, hy⟩ : ∃ y, xs.getD k1 0 = y := ⟨_, rfl⟩
                rw [hy] at hlt1
                have hcy := hread.out k1 y hy (by omega)
                have hcu2 : wr.cell? ⟨ae.block, ae.off + (k1 + 1), none⟩ = some (.int .i64 x) := by have h := hcu; unfold Addr.add at h; rwa [if_neg (by omega)] at h
                have g3 : ¬ x ≤ y := by omega
                have g4 : (0 : Int) ≤ (k1 : Int) := by omega
                have g5 : (k1 : Int) < (xs.length : Int) := by omega
                have g6 : (k1 : Int) + 1 < (xs.length : Int) := by omega
                have g7 : (0 : Int) ≤ (k1 : Int) + 1 := by omega
                have g8 : decide ((0 : Int) < (k1 : Int) + 1) = true := decide_eq_true (by omega)
                have g9 : decide (x ≤ y) = false := by simp; omega
                clear hread hx hy hk0 hcu
                cases h0b
                all_goals
                  go_wp2_with fail
                  go_quiet (fail)
                  go_wp2
                  go_roundw
                  case rel => exact ⟨k1 + 1 + 1, by omega, by rw [HB.out]; simp, by go_num, IN.out.1.drewN _, IN.out.2.1.drewN _, IN.out.2.2⟩
                  case measure => simp [intOf]; omega
            · obtain rfl : k = xs.length := by omega
              have hh : Hid (hasTo xs m xs.length = decide (tellsB (s m) now = true)) := Lib.hid (by
                unfold hasTo
                rw [List.take_length]
                have := hmem.out
                rw [HX.out] at this
                simp [this, hm])
              rw [hh.out]
              cases htl : tellsB (s m) now
              · obtain rfl : nq = 0 := by rw [HQ2.out, htl]; rfl
                clear htl
                go_wp2
                go_roundw
                case rel => exact ⟨j + 1, by go_num, _, _, IN.out.1, IN.out.2.1, RN.out.1, RN.out.2⟩
                case measure => simp [intOf]; omega
              · obtain rfl : nq = 1 := by rw [HQ2.out, htl]; rfl
                clear htl
                go_wp2
                go_roundw
                case rel => exact ⟨j + 1, by go_num, _, _, IN.out.1, IN.out.2.1, RN.out.1, RN.out.2⟩
                case measure => simp [intOf]; omega
        · have hpl := prs_len s now 4
          have hrise := Lib.hid (prs_rise s now 4)
          have hmem := Lib.hid (prs_mem s now m 4)
          obtain ⟨xs, hxs⟩ : ∃ xs, prs s now 4 = xs := ⟨_, rfl⟩
          rw [hxs] at hpl
          have HX := Lib.hid hxs
          clear hxs
          go_wp2_with fail
          clear c0 c1' c2' c3'
          (with_reducible refine (Pressed_own OX1.out now hnow.out xs HX.out _ rfl).mono ?_)
          rintro e w2 ⟨A2, d2, rfl, O2⟩
          have B2 := Lib.hid (BS1.out.fr O2.out.2.2 hns.out.1)
          have k3 := B2.out.cell 3
          have OY2 := Lib.hid (OY1.out.beside OX1.out O2.out.2.2 (Ne.symm hne.out))
          obtain ⟨nq, hq1, hq2⟩ : ∃ nq : Nat, (prs t now 4).length = nq ∧ nq = (if tellsB (s m) now then 1 else 0) := by
            refine ⟨_, rfl, ?_⟩
            rw [prs_only HO.out hm, HST.out]
            split <;> rfl
          have HQ1 := Lib.hid hq1
          have HQ2 := Lib.hid hq2
          have hnq : nq ≤ 1 := by rw [hq2]; split <;> omega
          clear hq1 hq2
          go_wp2_with fail
          clear k3
          (with_reducible refine (Pressed_own OY2.out now hnow.out _ rfl nq HQ1.out).mono ?_)
          rintro e w3 ⟨A3, d3, rfl, O3⟩
          have IN0 : Hid (ApIn w w1.heap.size (w1.heap.size + 1) (tld s now 4) (tld t now 4) A2 d2 xs w3) := Lib.hid ⟨O2.out.1.beside OY2.out O3.out.2.2 hne.out, O3.out.1, _, own_keep O2.out.2.1 OY2.out.blk (by decide) O3.out.2.2⟩
          have RN : Hid (OnlyAt (tld t now 4) m ∧ (tld t now 4) m = (tld s now 4) m) := Lib.hid ⟨by rw [tld_only HO.out hm]; exact only_upd HO.out _, tld_same HST.out now 4⟩
          clear OX OY OX1 OY1 O2 O3 OY2
          obtain ⟨wo, rfl⟩ : ∃ wo : World, wo = wr := ⟨_, rfl⟩
          go_wp2
          go_loopw [12, 13] (fun h k wr => ∃ k' : Nat, k' ≤ xs.length ∧ h = .bool (hasTo xs m k') ∧ k = .int .i64 k' ∧ ApIn w w1.heap.size (w1.heap.size + 1) (tld s now 4) (tld t now 4) A2 d2 xs wr) (fun _ k _ => xs.length - (intOf k).toNat)
          case atStart => exact ⟨0, by omega, by simp [hasTo], rfl, IN0.out⟩
          case round =>
            obtain ⟨k, hk, rfl, rfl, hin⟩ := hrel
            have IN := Lib.hid hin
            clear hin IN0
            by_cases t4 : k < xs.length
            · obtain ⟨b0, hb0⟩ := IN.out.2.2
              obtain ⟨ae, u, rfl, _, hu, hcu⟩ := (Reads.of_own hb0).at_ t4
              have hu' := nums_at hu
              subst hu'
              have hx4 := (hrise.out.1 k (by rw [HX.out]; exact t4))
              rw [HX.out] at hx4
              have hsucc := hasTo_succ (m := m) t4
              obtain ⟨x, hx⟩ : ∃ x, xs.getD k 0 = x := ⟨_, rfl⟩
              rw [hx] at hcu hx4 hsucc
              obtain ⟨h0b, hb1, hb2⟩ : ∃ b, hasTo xs m k = b ∧ hasTo xs m (k + 1) = (b || (x == (m : Int))) := ⟨_, rfl, hsucc⟩
              rw [hb1]
              have HB := Lib.hid hb2
              obtain ⟨hx0, hx1⟩ := hx4
              have e1 : decide (x < 0) = false := by simp; omega
              have e2 : decide (3 < x) = false := by simp; omega
              have hx3 : ¬ 3 < x := by omega
              have hx0' : ¬ x < 0 := by omega
              have hread : Hid (∀ j y, xs.getD j 0 = y → j < xs.length → wr.cell? (ae.add j) = some (.int .i64 y)) := Lib.hid (fun j y hy hj => by
                obtain ⟨ae', v, he, _, hv, hcv⟩ := (Reads.of_own hb0).at_ hj
                injection he with he
                subst he
                rw [nums_at hv, hy] at hcv
                exact hcv)
              clear hsucc hb0 hu hb1 hb2
              by_cases hk0 : k = 0
              · subst hk0
                have hcz : wr.cell? ae = some (.int .i64 x) := by have := hcu; rwa [show ae.add 0 = ae from rfl] at this
                clear hread hx hcu
                cases h0b
                all_goals
                  go_wp2_with fail
                  go_quiet (fail)
                  go_wp2
                  go_roundw
                  case rel => exact ⟨0 + 1, by omega, by rw [HB.out]; simp, by go_num, IN.out.1.drewN _, IN.out.2.1.drewN _, IN.out.2.2⟩
                  case measure => simp [intOf]; omega
              · obtain ⟨k1, rfl⟩ : ∃ k1, k = k1 + 1 := ⟨k - 1, by omega⟩
                have hlt1 := hrise.out.2 k1 (by rw [HX.out]; exact t4)
                rw [HX.out, hx] at hlt1
                obtain ⟨y, hy⟩ : ∃ y, xs.getD k1 0 = y := ⟨_, rfl⟩
                rw [hy] at hlt1
                have hcy := hread.out k1 y hy (by omega)
                have hcu2 : wr.cell? ⟨ae.block, ae.off + (k1 + 1), none⟩ = some (.int .i64 x) := by have h := hcu; unfold Addr.add at h; rwa [if_neg (by omega)] at h
                have g3 : ¬ x ≤ y := by omega
                have g4 : (0 : Int) ≤ (k1 : Int) := by omega
                have g5 : (k1 : Int) < (xs.length : Int) := by omega
                have g6 : (k1 : Int) + 1 < (xs.length : Int) := by omega
                have g7 : (0 : Int) ≤ (k1 : Int) + 1 := by omega
                have g8 : decide ((0 : Int) < (k1 : Int) + 1) = true := decide_eq_true (by omega)
                have g9 : decide (x ≤ y) = false := by simp; omega
                clear hread hx hy hk0 hcu
                cases h0b
                all_goals
                  go_wp2_with fail
                  go_quiet (fail)
                  go_wp2
                  go_roundw
                  case rel => exact ⟨k1 + 1 + 1, by omega, by rw [HB.out]; simp, by go_num, IN.out.1.drewN _, IN.out.2.1.drewN _, IN.out.2.2⟩
                  case measure => simp [intOf]; omega
            · obtain rfl : k = xs.length := by omega
              have hh : Hid (hasTo xs m xs.length = decide (tellsB (s m) now = true)) := Lib.hid (by
                unfold hasTo
                rw [List.take_length]
                have := hmem.out
                rw [HX.out] at this
                simp [this, hm])
              rw [hh.out]
              cases htl : tellsB (s m) now
              · obtain rfl : nq = 0 := by rw [HQ2.out, htl]; rfl
                clear htl
                go_wp2
                go_roundw
                case rel => exact ⟨j + 1, by go_num, _, _, IN.out.1, IN.out.2.1, RN.out.1, RN.out.2⟩
                case measure => simp [intOf]; omega
              · obtain rfl : nq = 1 := by rw [HQ2.out, htl]; rfl
                clear htl
                go_wp2
                go_roundw
                case rel => exact ⟨j + 1, by go_num, _, _, IN.out.1, IN.out.2.1, RN.out.1, RN.out.2⟩
                case measure => simp [intOf]; omega
        · go_wp2_with fail
          clear c0 c1' c2' c3'
          (with_reducible refine (Reset_own OX1.out).mono ?_)
          rintro e w2 ⟨rfl, O2⟩
          have OY2 := Lib.hid (OY1.out.beside OX1.out O2.out.2 (Ne.symm hne.out))
          go_wp2_with fail
          (with_reducible refine (Reset_own OY2.out).mono ?_)
          rintro e w3 ⟨rfl, O3⟩
          have OX3 := Lib.hid (O2.out.1.beside OY2.out O3.out.2 hne.out)
          go_wp2
          go_roundw
          case rel => exact ⟨j + 1, by go_num, _, _, OX3.out, O3.out.1, fun n _ => rfl, rfl⟩
          case measure => simp [intOf]; omega
        · go_wp2
          go_roundw
          case rel => exact ⟨j + 1, by go_num, _, _, OX1.out, OY1.out, HO.out, HST.out⟩
          case measure => simp [intOf]; omega
      · go_wp2
        go_ret
        exact ⟨rfl, OX.out.fr.below0⟩
    · go_wp2
      go_ret
      exact ⟨rfl, OX.out.fr.below0⟩
end Go.Proofs.Ytccehjcfphimgaa
