/- The walk of ButtonMoved. -/
import Derived.Test.YtccehjcfphimgaaSteps
namespace Go.Proofs.Ytccehjcfphimgaa
open Go.RowKit
set_option linter.unusedVariables false
set_option linter.unusedSimpArgs false
attribute [local go_sem ↓] Go.wp_at_zero Go.wp_at_succ

/-- The same buttons, so much later. -/
def Shift (d : Int) (s t : BS) : Prop := ∀ n, (s n).down = (t n).down ∧ (s n).told = (t n).told ∧ ((s n).down = true → (t n).since = (s n).since + d)
theorem shift_z4 (d : Int) : Shift d z4 z4 := fun n => ⟨rfl, rfl, fun h => by cases h⟩
theorem shift_set {d : Int} {s t : BS} (h : Shift d s t) (n : Int) (b : Bool) (now : Int) : Shift d (setS s n b now) (setS t n b (now + d)) := by
  unfold setS
  split
  · intro i
    unfold upd
    split
    · obtain ⟨h1, h2, h3⟩ := h n.toNat
      unfold pressB
      by_cases e : (s n.toNat).down = b
      · rw [if_pos e, if_pos (h1 ▸ e)]; exact ⟨h1, h2, h3⟩
      · rw [if_neg e, if_neg (h1 ▸ e)]; exact ⟨rfl, rfl, fun _ => rfl⟩
    · exact h i
  · exact h
theorem shift_tells {d : Int} {s t : BS} (h : Shift d s t) (n : Nat) (now : Int) : tellsB (t n) (now + d) = tellsB (s n) now := by
  obtain ⟨h1, h2, h3⟩ := h n
  unfold tellsB
  rw [← h1, ← h2]
  cases hd : (s n).down
  · rfl
  · rw [h3 hd]
    have : ((s n).since + d + 3 ≤ now + d) ↔ ((s n).since + 3 ≤ now) := by omega
    simp [this]
theorem shift_prs {d : Int} {s t : BS} (h : Shift d s t) (now : Int) (k : Nat) : prs t (now + d) k = prs s now k := by
  induction k with
  | zero => rfl
  | succ k ih => simp only [prs]; rw [shift_tells h, ih]
theorem shift_tld {d : Int} {s t : BS} (h : Shift d s t) (now : Int) (k : Nat) : Shift d (tld s now k) (tld t (now + d) k) := by
  intro n
  unfold tld
  split
  · unfold toldB
    rw [shift_tells h]
    obtain ⟨h1, h2, h3⟩ := h n
    split
    · exact ⟨h1, rfl, h3⟩
    · exact ⟨h1, h2, h3⟩
  · exact h n

def MovedRel (w0 : World) (gx gy : Nat) (d : Int) (wr : World) : Prop := ∃ s t, Own w0 wr gx s ∧ Own w0 wr gy t ∧ Shift d s t

set_option maxHeartbeats 2000000 in
set_option maxRecDepth 10000 in
theorem moved_walk (A1 : Option Addr) (c1 : Nat) (l1 : List Stp) (d : Int) (w : World)
    (h1 : RowOf Stp.c 4 w w.heap.size A1 l1) (n1 : l1.length ≤ 4611686018427387904) (d0 : 0 ≤ d) (d1 : d ≤ 4294967295) :
    Calls Try.prog 6 #[.slice A1 l1.length c1, .int .u32 d] w fun e w' => e = .returned (.bool true) ∧ Below w.heap.size w w' := by
  have H1 := Lib.hid h1
  clear h1
  go_enter Try.func6, Try.ntmps6
  go_wp2_with fail
  refine (shown_any _).mono ?_
  rintro e w1 ⟨rfl, F1⟩
  have O1 := Lib.hid (Own.new2 F1)
  clear F1
  go_wp2
  go_loopw [8] (fun i wr => ∃ i' : Nat, i = .int .i64 i' ∧ MovedRel w w1.heap.size (w1.heap.size + 1) d wr) (fun i _ => l1.length - (intOf i).toNat)
  case atStart => exact ⟨0, rfl, _, _, O1.out.1, O1.out.2, shift_z4 d⟩
  case round =>
    obtain ⟨i, rfl, s, t, hs, ht, hR⟩ := hrel
    have OX := Lib.hid hs
    have OY := Lib.hid ht
    have HR := Lib.hid hR
    have hne := Lib.hid (show w1.heap.size ≠ w1.heap.size + 1 by omega)
    clear hs ht hR O1
    by_cases t2 : i < l1.length
    · by_cases t3 : i < 100
      · obtain ⟨ad, rfl, hb, c0, c1', c2', c3'⟩ := stp_later H1.out OX.out.fr.below0 t2
        generalize (l1[i]).kind = kind at *
        generalize (l1[i]).btn = btn at *
        generalize (l1[i]).down = dn at *
        generalize (l1[i]).now = nw at *
        obtain ⟨now, hnow, hmask⟩ := and40 nw
        rcases kind_cases kind with rfl | rfl | rfl | rfl | rfl | rfl | ⟨q1, q2, q3, q4, q5, q6⟩
        · have OX1 := Lib.hid (OX.out.alloc (.cells #[.int .i64 1, .int .i64 btn, .bool dn, .int .i64 now] 35))
          have OY1 := Lib.hid (OY.out.alloc (.cells #[.int .i64 1, .int .i64 btn, .bool dn, .int .i64 now] 35))
          have BS0 := Lib.hid (Blk.new wr 35 #[.int .i64 1, .int .i64 btn, .bool dn, .int .i64 now])
          have hns := Lib.hid (show wr.heap.size ≠ w1.heap.size ∧ wr.heap.size ≠ w1.heap.size + 1 from ⟨by have := OX.out.blk.lt; omega, by have := OY.out.blk.lt; omega⟩)
          obtain ⟨r, hr⟩ : ∃ r : Int, (if okN btn then (0 : Int) else 1) = r := ⟨_, rfl⟩
          have HRR := Lib.hid hr
          have hi1 := Lib.hid (i64_mid (n := now) (by omega) (by omega))
          have hi2 := Lib.hid (i64_mid (n := now + d) (by omega) (by omega))
          clear hr
          go_wp2_with fail
          clear c0 c1' c2' c3' hmask
          have tok1 : True := trivial
          go_region_held3 (fun w' => w'.cell? ⟨wr.heap.size, 1, none⟩ = some (.int .i64 btn) ∧ w'.cell? ⟨wr.heap.size, 2, none⟩ = some (.bool dn) ∧ w'.cell? ⟨wr.heap.size, 3, none⟩ = some (.int .i64 now)) (go_keep) (first | (go_at_call 11; have _t := tok1; refine (Set_own (w0 := w) (g := w1.heap.size) (s := s) (by exact OX1.out.drew) btn dn now hi1.out r HRR.out).mono ?_; rintro e w2 ⟨rfl, O2⟩; have B2 := Lib.hid (BS0.out.drew.fr O2.out.2 hns.out.1); have k1 := B2.out.cell 1; have k2 := B2.out.cell 2; have k3 := B2.out.cell 3; have OY2 := Lib.hid (OY1.out.drew.beside OX1.out.drew O2.out.2 (Ne.symm hne.out)); clear tok1) | (go_at_call 11; refine (Set_own (w0 := w) (g := w1.heap.size + 1) (s := t) (by exact OY2.out) btn dn (now + d) hi2.out r HRR.out).mono ?_; rintro e w3 ⟨rfl, O3⟩; have B3 := Lib.hid (B2.out.fr O3.out.2 hns.out.2); have k1' := B3.out.cell 1; have k2' := B3.out.cell 2; have k3' := B3.out.cell 3; have OX3 := Lib.hid (O2.out.1.beside OY2.out O3.out.2 hne.out)))
          go_wp2
          go_roundw
          case rel => exact ⟨i + 1, by go_num, _, _, OX3.out, O3.out.1, shift_set HR.out btn dn now⟩
          case measure => simp [intOf]; omega
        · have OX1 := Lib.hid (OX.out.alloc (.cells #[.int .i64 2, .int .i64 btn, .bool dn, .int .i64 now] 35))
          have OY1 := Lib.hid (OY.out.alloc (.cells #[.int .i64 2, .int .i64 btn, .bool dn, .int .i64 now] 35))
          have BS0 := Lib.hid (Blk.new wr 35 #[.int .i64 2, .int .i64 btn, .bool dn, .int .i64 now])
          have hns := Lib.hid (show wr.heap.size ≠ w1.heap.size ∧ wr.heap.size ≠ w1.heap.size + 1 from ⟨by have := OX.out.blk.lt; omega, by have := OY.out.blk.lt; omega⟩)
          obtain ⟨r, hr⟩ : ∃ r : Int, (if okN btn then (0 : Int) else 1) = r := ⟨_, rfl⟩
          have HRR := Lib.hid hr
          have hi1 := Lib.hid (i64_mid (n := now) (by omega) (by omega))
          have hi2 := Lib.hid (i64_mid (n := now + d) (by omega) (by omega))
          clear hr
          go_wp2_with fail
          clear c0 c1' c2' c3' hmask
          have tok1 : True := trivial
          go_region_held3 (fun w' => w'.cell? ⟨wr.heap.size, 1, none⟩ = some (.int .i64 btn) ∧ w'.cell? ⟨wr.heap.size, 2, none⟩ = some (.bool dn) ∧ w'.cell? ⟨wr.heap.size, 3, none⟩ = some (.int .i64 now)) (go_keep) (first | (go_at_call 11; have _t := tok1; refine (Set_own (w0 := w) (g := w1.heap.size) (s := s) (by exact OX1.out.drew) btn dn now hi1.out r HRR.out).mono ?_; rintro e w2 ⟨rfl, O2⟩; have B2 := Lib.hid (BS0.out.drew.fr O2.out.2 hns.out.1); have k1 := B2.out.cell 1; have k2 := B2.out.cell 2; have k3 := B2.out.cell 3; have OY2 := Lib.hid (OY1.out.drew.beside OX1.out.drew O2.out.2 (Ne.symm hne.out)); clear tok1) | (go_at_call 11; refine (Set_own (w0 := w) (g := w1.heap.size + 1) (s := t) (by exact OY2.out) btn dn (now + d) hi2.out r HRR.out).mono ?_; rintro e w3 ⟨rfl, O3⟩; have B3 := Lib.hid (B2.out.fr O3.out.2 hns.out.2); have k1' := B3.out.cell 1; have k2' := B3.out.cell 2; have k3' := B3.out.cell 3; have OX3 := Lib.hid (O2.out.1.beside OY2.out O3.out.2 hne.out)))
          go_wp2
          go_roundw
          case rel => exact ⟨i + 1, by go_num, _, _, OX3.out, O3.out.1, shift_set HR.out btn dn now⟩
          case measure => simp [intOf]; omega
        · have OX1 := Lib.hid (OX.out.alloc (.cells #[.int .i64 3, .int .i64 btn, .bool dn, .int .i64 now] 35))
          have OY1 := Lib.hid (OY.out.alloc (.cells #[.int .i64 3, .int .i64 btn, .bool dn, .int .i64 now] 35))
          have BS0 := Lib.hid (Blk.new wr 35 #[.int .i64 3, .int .i64 btn, .bool dn, .int .i64 now])
          have hns := Lib.hid (show wr.heap.size ≠ w1.heap.size ∧ wr.heap.size ≠ w1.heap.size + 1 from ⟨by have := OX.out.blk.lt; omega, by have := OY.out.blk.lt; omega⟩)
          obtain ⟨r, hr⟩ : ∃ r : Int, (if okN btn then (0 : Int) else 1) = r := ⟨_, rfl⟩
          have HRR := Lib.hid hr
          have hi1 := Lib.hid (i64_mid (n := now) (by omega) (by omega))
          have hi2 := Lib.hid (i64_mid (n := now + d) (by omega) (by omega))
          clear hr
          go_wp2_with fail
          clear c0 c1' c2' c3' hmask
          have tok1 : True := trivial
          go_region_held3 (fun w' => w'.cell? ⟨wr.heap.size, 1, none⟩ = some (.int .i64 btn) ∧ w'.cell? ⟨wr.heap.size, 2, none⟩ = some (.bool dn) ∧ w'.cell? ⟨wr.heap.size, 3, none⟩ = some (.int .i64 now)) (go_keep) (first | (go_at_call 11; have _t := tok1; refine (Set_own (w0 := w) (g := w1.heap.size) (s := s) (by exact OX1.out.drew) btn dn now hi1.out r HRR.out).mono ?_; rintro e w2 ⟨rfl, O2⟩; have B2 := Lib.hid (BS0.out.drew.fr O2.out.2 hns.out.1); have k1 := B2.out.cell 1; have k2 := B2.out.cell 2; have k3 := B2.out.cell 3; have OY2 := Lib.hid (OY1.out.drew.beside OX1.out.drew O2.out.2 (Ne.symm hne.out)); clear tok1) | (go_at_call 11; refine (Set_own (w0 := w) (g := w1.heap.size + 1) (s := t) (by exact OY2.out) btn dn (now + d) hi2.out r HRR.out).mono ?_; rintro e w3 ⟨rfl, O3⟩; have B3 := Lib.hid (B2.out.fr O3.out.2 hns.out.2); have k1' := B3.out.cell 1; have k2' := B3.out.cell 2; have k3' := B3.out.cell 3; have OX3 := Lib.hid (O2.out.1.beside OY2.out O3.out.2 hne.out)))
          go_wp2
          go_roundw
          case rel => exact ⟨i + 1, by go_num, _, _, OX3.out, O3.out.1, shift_set HR.out btn dn now⟩
          case measure => simp [intOf]; omega
        · have OX1 := Lib.hid (OX.out.alloc (.cells #[.int .i64 4, .int .i64 btn, .bool dn, .int .i64 now] 35))
          have OY1 := Lib.hid (OY.out.alloc (.cells #[.int .i64 4, .int .i64 btn, .bool dn, .int .i64 now] 35))
          have hi1 := Lib.hid (i64_mid (n := now) (by omega) (by omega))
          have hi2 := Lib.hid (i64_mid (n := now + d) (by omega) (by omega))
          have hpl := Lib.hid (prs_len s now 4)
          go_wp2_with fail
          clear c0 c1' c2' c3' hmask
          (with_reducible refine (Pressed_own OX1.out now hi1.out _ rfl _ rfl).mono ?_)
          rintro e w2 ⟨A2, c2, rfl, O2⟩
          have OY2 := Lib.hid (OY1.out.beside OX1.out O2.out.2.2 (Ne.symm hne.out))
          go_wp2_with fail
          (with_reducible refine (Pressed_own OY2.out (now + d) hi2.out (prs s now 4) (shift_prs HR.out now 4) _ rfl).mono ?_)
          rintro e w3 ⟨A3, c3, rfl, O3⟩
          have OX3 := Lib.hid (O2.out.1.beside OY2.out O3.out.2.2 hne.out)
          have E2 := Lib.hid (own_keep O2.out.2.1 OY2.out.blk (by decide) O3.out.2.2)
          go_wp2_with fail
          (with_reducible refine (same_b A2 A3 c2 c3 (prs s now 4) (prs s now 4) true (by simp) _ _ _ (Reads.of_own E2.out) (Reads.of_own O3.out.2.1) (by have := hpl.out; omega)).mono ?_)
          rintro e w4 ⟨rfl, H4⟩
          have OX4 := Lib.hid (OX3.out.other0 H4.out.1)
          have OY4 := Lib.hid (O3.out.1.other0 H4.out.1)
          go_wp2
          go_roundw
          case rel => exact ⟨i + 1, by go_num, _, _, OX4.out, OY4.out, shift_tld HR.out now 4⟩
          case measure => simp [intOf]; omega
        · have OX1 := Lib.hid (OX.out.alloc (.cells #[.int .i64 5, .int .i64 btn, .bool dn, .int .i64 now] 35))
          have OY1 := Lib.hid (OY.out.alloc (.cells #[.int .i64 5, .int .i64 btn, .bool dn, .int .i64 now] 35))
          have hi1 := Lib.hid (i64_mid (n := now) (by omega) (by omega))
          have hi2 := Lib.hid (i64_mid (n := now + d) (by omega) (by omega))
          have hpl := Lib.hid (prs_len s now 4)
          go_wp2_with fail
          clear c0 c1' c2' c3' hmask
          (with_reducible refine (Pressed_own OX1.out now hi1.out _ rfl _ rfl).mono ?_)
          rintro e w2 ⟨A2, c2, rfl, O2⟩
          have OY2 := Lib.hid (OY1.out.beside OX1.out O2.out.2.2 (Ne.symm hne.out))
          go_wp2_with fail
          (with_reducible refine (Pressed_own OY2.out (now + d) hi2.out (prs s now 4) (shift_prs HR.out now 4) _ rfl).mono ?_)
          rintro e w3 ⟨A3, c3, rfl, O3⟩
          have OX3 := Lib.hid (O2.out.1.beside OY2.out O3.out.2.2 hne.out)
          have E2 := Lib.hid (own_keep O2.out.2.1 OY2.out.blk (by decide) O3.out.2.2)
          go_wp2_with fail
          (with_reducible refine (same_b A2 A3 c2 c3 (prs s now 4) (prs s now 4) true (by simp) _ _ _ (Reads.of_own E2.out) (Reads.of_own O3.out.2.1) (by have := hpl.out; omega)).mono ?_)
          rintro e w4 ⟨rfl, H4⟩
          have OX4 := Lib.hid (OX3.out.other0 H4.out.1)
          have OY4 := Lib.hid (O3.out.1.other0 H4.out.1)
          go_wp2
          go_roundw
          case rel => exact ⟨i + 1, by go_num, _, _, OX4.out, OY4.out, shift_tld HR.out now 4⟩
          case measure => simp [intOf]; omega
        · have OX1 := Lib.hid (OX.out.alloc (.cells #[.int .i64 6, .int .i64 btn, .bool dn, .int .i64 now] 35))
          have OY1 := Lib.hid (OY.out.alloc (.cells #[.int .i64 6, .int .i64 btn, .bool dn, .int .i64 now] 35))
          go_wp2_with fail
          clear c0 c1' c2' c3' hmask
          (with_reducible refine (Reset_own OX1.out).mono ?_)
          rintro e w2 ⟨rfl, O2⟩
          have OY2 := Lib.hid (OY1.out.beside OX1.out O2.out.2 (Ne.symm hne.out))
          go_wp2_with fail
          (with_reducible refine (Reset_own OY2.out).mono ?_)
          rintro e w3 ⟨rfl, O3⟩
          have OX3 := Lib.hid (O2.out.1.beside OY2.out O3.out.2 hne.out)
          go_wp2
          go_roundw
          case rel => exact ⟨i + 1, by go_num, _, _, OX3.out, O3.out.1, shift_z4 d⟩
          case measure => simp [intOf]; omega
        · have OX1 := Lib.hid (OX.out.alloc (.cells #[.int .i64 kind, .int .i64 btn, .bool dn, .int .i64 now] 35))
          have OY1 := Lib.hid (OY.out.alloc (.cells #[.int .i64 kind, .int .i64 btn, .bool dn, .int .i64 now] 35))
          go_wp2
          go_roundw
          case rel => exact ⟨i + 1, by go_num, _, _, OX1.out, OY1.out, HR.out⟩
          case measure => simp [intOf]; omega
      · go_wp2
        go_ret
        exact ⟨rfl, OX.out.fr.below0⟩
    · go_wp2
      go_ret
      exact ⟨rfl, OX.out.fr.below0⟩
end Go.Proofs.Ytccehjcfphimgaa
