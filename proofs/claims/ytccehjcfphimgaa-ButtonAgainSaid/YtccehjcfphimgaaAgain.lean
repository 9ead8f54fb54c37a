/- The walk of ButtonAgain. -/
import Derived.Test.YtccehjcfphimgaaMoved
namespace Go.Proofs.Ytccehjcfphimgaa
open Go.RowKit
set_option linter.unusedVariables false
set_option linter.unusedSimpArgs false
attribute [local go_sem ↓] Go.wp_at_zero Go.wp_at_succ

def AgainRel (w0 : World) (gx gy : Nat) (wr : World) : Prop := ∃ s, Own w0 wr gx s ∧ Own w0 wr gy s

set_option maxHeartbeats 4000000 in
set_option maxRecDepth 10000 in
theorem again_walk (A0 A1 : Option Addr) (c0 c1 : Nat) (l0 l1 : List Stp) (w : World)
    (h0 : RowOf Stp.c 4 w w.heap.size A0 l0) (n0 : l0.length ≤ 4611686018427387904) (h1 : RowOf Stp.c 4 w w.heap.size A1 l1) (n1 : l1.length ≤ 4611686018427387904)
    (i0 : ∀ s ∈ l0, I64 s.now) (i1 : ∀ s ∈ l1, I64 s.now) :
    Calls Try.prog 9 #[.slice A0 l0.length c0, .slice A1 l1.length c1] w fun e w' => e = .returned (.bool true) ∧ Below w.heap.size w w' := by
  have H0 := Lib.hid h0
  have H1 := Lib.hid h1
  have I0 := Lib.hid i0
  have I1 := Lib.hid i1
  clear h0 h1 i0 i1
  go_enter Try.func9, Try.ntmps9
  go_wp2_with fail
  refine (shown_any _).mono ?_
  rintro e w1 ⟨rfl, F1⟩
  have O1 := Lib.hid (Own.new2 F1)
  have hne := Lib.hid (show w1.heap.size ≠ w1.heap.size + 1 by omega)
  clear F1
  go_wp2
  go_loopw [8] (fun i wr => ∃ i' : Nat, i = .int .i64 i' ∧ ∃ s, Own w wr w1.heap.size s ∧ Own w wr (w1.heap.size + 1) z4) (fun i _ => l1.length - (intOf i).toNat)
  case atStart => exact ⟨0, rfl, _, O1.out.1, O1.out.2⟩
  case round =>
    obtain ⟨i, rfl, s, hs, ht⟩ := hrel
    have OX := Lib.hid hs
    have OY := Lib.hid ht
    clear hs ht O1
    by_cases t2 : i < l1.length ∧ i < 50
    · obtain ⟨t2, t3⟩ := t2
      obtain ⟨ad, rfl, hb, k0, k1, k2, k3⟩ := stp_later H1.out OX.out.fr.below0 t2
      have hnow := Lib.hid (I1.out _ (List.getElem_mem t2))
      have hbb : Hid ((ad.add (i * 4)).block < w.heap.size) := Lib.hid (by rw [block_of_add]; exact hb)
      generalize (l1[i]).btn = btn at *
      generalize (l1[i]).down = dn at *
      generalize (l1[i]).now = nw at *
      obtain ⟨r, hr⟩ : ∃ r : Int, (if okN btn then (0 : Int) else 1) = r := ⟨_, rfl⟩
      have HRR := Lib.hid hr
      have HK := Lib.hid (show wr.cell? ⟨(ad.add (i * 4)).block, (ad.add (i * 4)).off + 3, none⟩ = some (.int .i64 nw) from k3)
      clear hr k0 hb
      go_wp2_with fail
      go_region_held3 (fun w' => w'.cell? ⟨(ad.add (i * 4)).block, (ad.add (i * 4)).off + 1, none⟩ = some (.int .i64 btn) ∧ w'.cell? ⟨(ad.add (i * 4)).block, (ad.add (i * 4)).off + 2, none⟩ = some (.bool dn) ∧ w'.cell? ⟨(ad.add (i * 4)).block, (ad.add (i * 4)).off + 3, none⟩ = some (.int .i64 nw)) (go_keep) (first | (go_at_call 11; refine (Set_own (w0 := w) (g := w1.heap.size) (s := s) (by exact OX.out.drew) btn dn nw hnow.out r HRR.out).mono ?_; rintro e w2 ⟨rfl, O2⟩; have k1' : w2.cell? ⟨(ad.add (i * 4)).block, (ad.add (i * 4)).off + 1, none⟩ = some (.int .i64 btn) := (O2.out.2.far (Nat.lt_of_lt_of_le hbb.out OX.out.fr.size) (Nat.ne_of_lt (Nat.lt_of_lt_of_le hbb.out OX.out.base)) |> fun h => (World.cell?_of_block (a := ⟨(ad.add (i * 4)).block, (ad.add (i * 4)).off + 1, none⟩) h).trans k1); have k2' : w2.cell? ⟨(ad.add (i * 4)).block, (ad.add (i * 4)).off + 2, none⟩ = some (.bool dn) := (O2.out.2.far (Nat.lt_of_lt_of_le hbb.out OX.out.fr.size) (Nat.ne_of_lt (Nat.lt_of_lt_of_le hbb.out OX.out.base)) |> fun h => (World.cell?_of_block (a := ⟨(ad.add (i * 4)).block, (ad.add (i * 4)).off + 2, none⟩) h).trans k2); have k3' : w2.cell? ⟨(ad.add (i * 4)).block, (ad.add (i * 4)).off + 3, none⟩ = some (.int .i64 nw) := (O2.out.2.far (Nat.lt_of_lt_of_le hbb.out OX.out.fr.size) (Nat.ne_of_lt (Nat.lt_of_lt_of_le hbb.out OX.out.base)) |> fun h => (World.cell?_of_block (a := ⟨(ad.add (i * 4)).block, (ad.add (i * 4)).off + 3, none⟩) h).trans k3)))
      have OY2 := Lib.hid (OY.out.drew.beside OX.out.drew O2.out.2 (Ne.symm hne.out))
      go_wp2_with fail
      (with_reducible refine (Pressed_own O2.out.1 nw hnow.out _ rfl _ rfl).mono ?_)
      rintro e w3 ⟨A3, c3, rfl, O3⟩
      have OY3 := Lib.hid (OY2.out.beside O2.out.1 O3.out.2.2 (Ne.symm hne.out))
      clear k1 k2 k3 k1' k2' k3'
      go_wp2
      go_roundw
      case rel => exact ⟨i + 1, by go_num, _, O3.out.1, OY3.out⟩
      case measure => simp [intOf]; omega
    · have hq : ¬ (i < l1.length) ∨ (i < l1.length ∧ ¬ i < 50) := by omega
      clear t2
      rcases hq with hq | ⟨hq0, hq⟩
      all_goals
        go_wp2_with fail
        (with_reducible refine (Reset_own OX.out).mono ?_)
        rintro e wq ⟨rfl, OR⟩
        have RR : Hid (AgainRel w w1.heap.size (w1.heap.size + 1) wq) := Lib.hid ⟨z4, OR.out.1, OY.out.beside OX.out OR.out.2 (Ne.symm hne.out)⟩
        clear OX OY OR
        go_wp2
        go_loopw [9] (fun i wr => ∃ i' : Nat, i = .int .i64 i' ∧ AgainRel w w1.heap.size (w1.heap.size + 1) wr) (fun i _ => l0.length - (intOf i).toNat)
        case atStart => exact ⟨0, rfl, RR.out⟩
        case round =>
          obtain ⟨j, rfl, s, hs, ht⟩ := hrel
          have OX := Lib.hid hs
          have OY := Lib.hid ht
          clear hs ht RR
          by_cases t2 : j < l0.length
          · by_cases t3 : j < 100
            · obtain ⟨ad, rfl, hb, c0, c1', c2', c3'⟩ := stp_later H0.out OX.out.fr.below0 t2
              have hnow := Lib.hid (I0.out _ (List.getElem_mem t2))
              generalize (l0[j]).kind = kind at *
              generalize (l0[j]).btn = btn at *
              generalize (l0[j]).down = dn at *
              generalize (l0[j]).now = now at *
              have OX1 := Lib.hid (OX.out.alloc (.cells #[.int .i64 kind, .int .i64 btn, .bool dn, .int .i64 now] 35))
              have OY1 := Lib.hid (OY.out.alloc (.cells #[.int .i64 kind, .int .i64 btn, .bool dn, .int .i64 now] 35))
              have BS1 := Lib.hid (Blk.new wr 35 #[.int .i64 kind, .int .i64 btn, .bool dn, .int .i64 now])
              have hns := Lib.hid (show wr.heap.size ≠ w1.heap.size ∧ wr.heap.size ≠ w1.heap.size + 1 from ⟨by have := OX.out.blk.lt; omega, by have := OY.out.blk.lt; omega⟩)
              rcases kind_cases kind with rfl | rfl | rfl | rfl | rfl | rfl | ⟨q1, q2, q3, q4, q5, q6⟩
              · obtain ⟨r, hr⟩ : ∃ r : Int, (if okN btn then (0 : Int) else 1) = r := ⟨_, rfl⟩
                have HRR := Lib.hid hr
                clear hr
                go_wp2_with fail
                clear c0 c1' c2' c3'
                have tok1 : True := trivial
                go_region_held3 (fun w' => w'.cell? ⟨wr.heap.size, 1, none⟩ = some (.int .i64 btn) ∧ w'.cell? ⟨wr.heap.size, 2, none⟩ = some (.bool dn) ∧ w'.cell? ⟨wr.heap.size, 3, none⟩ = some (.int .i64 now)) (go_keep) (first | (go_at_call 11; have _t := tok1; refine (Set_own (w0 := w) (g := w1.heap.size) (s := s) (by exact OX1.out.drew) btn dn now hnow.out r HRR.out).mono ?_; rintro e w2 ⟨rfl, O2⟩; have B2 := Lib.hid (BS1.out.drew.fr O2.out.2 hns.out.1); have k1 := B2.out.cell 1; have k2 := B2.out.cell 2; have k3 := B2.out.cell 3; have OY2 := Lib.hid (OY1.out.drew.beside OX1.out.drew O2.out.2 (Ne.symm hne.out)); clear tok1) | (go_at_call 11; refine (Set_own (w0 := w) (g := w1.heap.size + 1) (s := s) (by exact OY2.out) btn dn now hnow.out r HRR.out).mono ?_; rintro e w3 ⟨rfl, O3⟩; have B3 := Lib.hid (B2.out.fr O3.out.2 hns.out.2); have k1' := B3.out.cell 1; have k2' := B3.out.cell 2; have k3' := B3.out.cell 3; have OX3 := Lib.hid (O2.out.1.beside OY2.out O3.out.2 hne.out)))
                have OXn := OX3
                have OYn := Lib.hid O3.out.1
                go_wp2_with fail
                have tok1 : True := trivial
                obtain ⟨bd, hbd⟩ : ∃ bd : Bool, (okN btn && ((setS s btn dn now) btn.toNat).down) = bd := ⟨_, rfl⟩
                have HBD := Lib.hid hbd
                clear hbd
                go_region_held3 (fun w' => w'.cell? ⟨wr.heap.size, 1, none⟩ = some (.int .i64 btn)) (go_keep) (first | (go_at_call 18; have _t := tok1; refine (Down_own (w0 := w) (g := w1.heap.size) (s := (setS s btn dn now)) (by exact OXn.out.drew) btn bd HBD.out).mono ?_; rintro e w6 ⟨rfl, rfl⟩; clear tok1) | (go_at_call 18; refine (Down_own (w0 := w) (g := w1.heap.size + 1) (s := (setS s btn dn now)) (by exact OYn.out.drew) btn bd HBD.out).mono ?_; rintro e w7 ⟨rfl, rfl⟩))
                go_wp2
                go_roundw
                case rel => exact ⟨j + 1, by go_num, _, OXn.out.drew, OYn.out.drew⟩
                case measure => simp [intOf]; omega
              · obtain ⟨r, hr⟩ : ∃ r : Int, (if okN btn then (0 : Int) else 1) = r := ⟨_, rfl⟩
                have HRR := Lib.hid hr
                clear hr
                go_wp2_with fail
                clear c0 c1' c2' c3'
                have tok1 : True := trivial
                go_region_held3 (fun w' => w'.cell? ⟨wr.heap.size, 1, none⟩ = some (.int .i64 btn) ∧ w'.cell? ⟨wr.heap.size, 2, none⟩ = some (.bool dn) ∧ w'.cell? ⟨wr.heap.size, 3, none⟩ = some (.int .i64 now)) (go_keep) (first | (go_at_call 11; have _t := tok1; refine (Set_own (w0 := w) (g := w1.heap.size) (s := s) (by exact OX1.out.drew) btn dn now hnow.out r HRR.out).mono ?_; rintro e w2 ⟨rfl, O2⟩; have B2 := Lib.hid (BS1.out.drew.fr O2.out.2 hns.out.1); have k1 := B2.out.cell 1; have k2 := B2.out.cell 2; have k3 := B2.out.cell 3; have OY2 := Lib.hid (OY1.out.drew.beside OX1.out.drew O2.out.2 (Ne.symm hne.out)); clear tok1) | (go_at_call 11; refine (Set_own (w0 := w) (g := w1.heap.size + 1) (s := s) (by exact OY2.out) btn dn now hnow.out r HRR.out).mono ?_; rintro e w3 ⟨rfl, O3⟩; have B3 := Lib.hid (B2.out.fr O3.out.2 hns.out.2); have k1' := B3.out.cell 1; have k2' := B3.out.cell 2; have k3' := B3.out.cell 3; have OX3 := Lib.hid (O2.out.1.beside OY2.out O3.out.2 hne.out)))
                have OXn := OX3
                have OYn := Lib.hid O3.out.1
                go_wp2_with fail
                have tok1 : True := trivial
                obtain ⟨bd, hbd⟩ : ∃ bd : Bool, (okN btn && ((setS s btn dn now) btn.toNat).down) = bd := ⟨_, rfl⟩
                have HBD := Lib.hid hbd
                clear hbd
                go_region_held3 (fun w' => w'.cell? ⟨wr.heap.size, 1, none⟩ = some (.int .i64 btn)) (go_keep) (first | (go_at_call 18; have _t := tok1; refine (Down_own (w0 := w) (g := w1.heap.size) (s := (setS s btn dn now)) (by exact OXn.out.drew) btn bd HBD.out).mono ?_; rintro e w6 ⟨rfl, rfl⟩; clear tok1) | (go_at_call 18; refine (Down_own (w0 := w) (g := w1.heap.size + 1) (s := (setS s btn dn now)) (by exact OYn.out.drew) btn bd HBD.out).mono ?_; rintro e w7 ⟨rfl, rfl⟩))
                go_wp2
                go_roundw
                case rel => exact ⟨j + 1, by go_num, _, OXn.out.drew, OYn.out.drew⟩
                case measure => simp [intOf]; omega
              · obtain ⟨r, hr⟩ : ∃ r : Int, (if okN btn then (0 : Int) else 1) = r := ⟨_, rfl⟩
                have HRR := Lib.hid hr
                clear hr
                go_wp2_with fail
                clear c0 c1' c2' c3'
                have tok1 : True := trivial
                go_region_held3 (fun w' => w'.cell? ⟨wr.heap.size, 1, none⟩ = some (.int .i64 btn) ∧ w'.cell? ⟨wr.heap.size, 2, none⟩ = some (.bool dn) ∧ w'.cell? ⟨wr.heap.size, 3, none⟩ = some (.int .i64 now)) (go_keep) (first | (go_at_call 11; have _t := tok1; refine (Set_own (w0 := w) (g := w1.heap.size) (s := s) (by exact OX1.out.drew) btn dn now hnow.out r HRR.out).mono ?_; rintro e w2 ⟨rfl, O2⟩; have B2 := Lib.hid (BS1.out.drew.fr O2.out.2 hns.out.1); have k1 := B2.out.cell 1; have k2 := B2.out.cell 2; have k3 := B2.out.cell 3; have OY2 := Lib.hid (OY1.out.drew.beside OX1.out.drew O2.out.2 (Ne.symm hne.out)); clear tok1) | (go_at_call 11; refine (Set_own (w0 := w) (g := w1.heap.size + 1) (s := s) (by exact OY2.out) btn dn now hnow.out r HRR.out).mono ?_; rintro e w3 ⟨rfl, O3⟩; have B3 := Lib.hid (B2.out.fr O3.out.2 hns.out.2); have k1' := B3.out.cell 1; have k2' := B3.out.cell 2; have k3' := B3.out.cell 3; have OX3 := Lib.hid (O2.out.1.beside OY2.out O3.out.2 hne.out)))
                have OXn := OX3
                have OYn := Lib.hid O3.out.1
                go_wp2_with fail
                have tok1 : True := trivial
                obtain ⟨bd, hbd⟩ : ∃ bd : Bool, (okN btn && ((setS s btn dn now) btn.toNat).down) = bd := ⟨_, rfl⟩
                have HBD := Lib.hid hbd
                clear hbd
                go_region_held3 (fun w' => w'.cell? ⟨wr.heap.size, 1, none⟩ = some (.int .i64 btn)) (go_keep) (first | (go_at_call 18; have _t := tok1; refine (Down_own (w0 := w) (g := w1.heap.size) (s := (setS s btn dn now)) (by exact OXn.out.drew) btn bd HBD.out).mono ?_; rintro e w6 ⟨rfl, rfl⟩; clear tok1) | (go_at_call 18; refine (Down_own (w0 := w) (g := w1.heap.size + 1) (s := (setS s btn dn now)) (by exact OYn.out.drew) btn bd HBD.out).mono ?_; rintro e w7 ⟨rfl, rfl⟩))
                go_wp2
                go_roundw
                case rel => exact ⟨j + 1, by go_num, _, OXn.out.drew, OYn.out.drew⟩
                case measure => simp [intOf]; omega
              · have hpl := Lib.hid (prs_len s now 4)
                go_wp2_with fail
                clear c0 c1' c2' c3'
                have tok1 : True := trivial
                go_region_held3 (fun w' => w'.cell? ⟨wr.heap.size, 1, none⟩ = some (.int .i64 btn) ∧ w'.cell? ⟨wr.heap.size, 3, none⟩ = some (.int .i64 now)) (go_keep) (first | (go_at_call 13; have _t := tok1; refine (Pressed_own (w0 := w) (g := w1.heap.size) (s := s) (by exact OX1.out.drew) now hnow.out _ rfl _ rfl).mono ?_; rintro e w2 ⟨A2, d2, rfl, O2⟩; have B2 := Lib.hid (BS1.out.drew.fr O2.out.2.2 hns.out.1); have k1 := B2.out.cell 1; have k3 := B2.out.cell 3; have OY2 := Lib.hid (OY1.out.drew.beside OX1.out.drew O2.out.2.2 (Ne.symm hne.out)); clear tok1) | (go_at_call 13; refine (Pressed_own (w0 := w) (g := w1.heap.size + 1) (s := s) (by exact OY2.out) now hnow.out _ rfl _ rfl).mono ?_; rintro e w3 ⟨A3, d3, rfl, O3⟩; have B3 := Lib.hid (B2.out.fr O3.out.2.2 hns.out.2); have k1' := B3.out.cell 1; have k3' := B3.out.cell 3; have OX3 := Lib.hid (O2.out.1.beside OY2.out O3.out.2.2 hne.out); have E2 := Lib.hid (own_keep O2.out.2.1 OY2.out.blk (by decide) O3.out.2.2)) | (go_at_call 14; refine (same_b A2 A3 d2 d3 (prs s now 4) (prs s now 4) true (by simp) _ _ _ (Reads.of_own E2.out) (Reads.of_own O3.out.2.1) (by have := hpl.out; omega)).mono ?_; rintro e w4 ⟨rfl, H4⟩; have k1'' := (H4.out.2 ⟨wr.heap.size, 1, none⟩).trans k1'; have k3'' := (H4.out.2 ⟨wr.heap.size, 3, none⟩).trans k3'; have OXn := Lib.hid (OX3.out.other0 H4.out.1); have OYn := Lib.hid (O3.out.1.other0 H4.out.1)))
                go_wp2_with fail
                have tok1 : True := trivial
                obtain ⟨bd, hbd⟩ : ∃ bd : Bool, (okN btn && ((tld s now 4) btn.toNat).down) = bd := ⟨_, rfl⟩
                have HBD := Lib.hid hbd
                clear hbd
                go_region_held3 (fun w' => w'.cell? ⟨wr.heap.size, 1, none⟩ = some (.int .i64 btn)) (go_keep) (first | (go_at_call 18; have _t := tok1; refine (Down_own (w0 := w) (g := w1.heap.size) (s := (tld s now 4)) (by exact OXn.out.drew) btn bd HBD.out).mono ?_; rintro e w6 ⟨rfl, rfl⟩; clear tok1) | (go_at_call 18; refine (Down_own (w0 := w) (g := w1.heap.size + 1) (s := (tld s now 4)) (by exact OYn.out.drew) btn bd HBD.out).mono ?_; rintro e w7 ⟨rfl, rfl⟩))
                go_wp2
                go_roundw
                case rel => exact ⟨j + 1, by go_num, _, OXn.out.drew, OYn.out.drew⟩
                case measure => simp [intOf]; omega
              · have hpl := Lib.hid (prs_len s now 4)
                go_wp2_with fail
                clear c0 c1' c2' c3'
                have tok1 : True := trivial
                go_region_held3 (fun w' => w'.cell? ⟨wr.heap.size, 1, none⟩ = some (.int .i64 btn) ∧ w'.cell? ⟨wr.heap.size, 3, none⟩ = some (.int .i64 now)) (go_keep) (first | (go_at_call 13; have _t := tok1; refine (Pressed_own (w0 := w) (g := w1.heap.size) (s := s) (by exact OX1.out.drew) now hnow.out _ rfl _ rfl).mono ?_; rintro e w2 ⟨A2, d2, rfl, O2⟩; have B2 := Lib.hid (BS1.out.drew.fr O2.out.2.2 hns.out.1); have k1 := B2.out.cell 1; have k3 := B2.out.cell 3; have OY2 := Lib.hid (OY1.out.drew.beside OX1.out.drew O2.out.2.2 (Ne.symm hne.out)); clear tok1) | (go_at_call 13; refine (Pressed_own (w0 := w) (g := w1.heap.size + 1) (s := s) (by exact OY2.out) now hnow.out _ rfl _ rfl).mono ?_; rintro e w3 ⟨A3, d3, rfl, O3⟩; have B3 := Lib.hid (B2.out.fr O3.out.2.2 hns.out.2); have k1' := B3.out.cell 1; have k3' := B3.out.cell 3; have OX3 := Lib.hid (O2.out.1.beside OY2.out O3.out.2.2 hne.out); have E2 := Lib.hid (own_keep O2.out.2.1 OY2.out.blk (by decide) O3.out.2.2)) | (go_at_call 14; refine (same_b A2 A3 d2 d3 (prs s now 4) (prs s now 4) true (by simp) _ _ _ (Reads.of_own E2.out) (Reads.of_own O3.out.2.1) (by have := hpl.out; omega)).mono ?_; rintro e w4 ⟨rfl, H4⟩; have k1'' := (H4.out.2 ⟨wr.heap.size, 1, none⟩).trans k1'; have k3'' := (H4.out.2 ⟨wr.heap.size, 3, none⟩).trans k3'; have OXn := Lib.hid (OX3.out.other0 H4.out.1); have OYn := Lib.hid (O3.out.1.other0 H4.out.1)))
                go_wp2_with fail
                have tok1 : True := trivial
                obtain ⟨bd, hbd⟩ : ∃ bd : Bool, (okN btn && ((tld s now 4) btn.toNat).down) = bd := ⟨_, rfl⟩
                have HBD := Lib.hid hbd
                clear hbd
                go_region_held3 (fun w' => w'.cell? ⟨wr.heap.size, 1, none⟩ = some (.int .i64 btn)) (go_keep) (first | (go_at_call 18; have _t := tok1; refine (Down_own (w0 := w) (g := w1.heap.size) (s := (tld s now 4)) (by exact OXn.out.drew) btn bd HBD.out).mono ?_; rintro e w6 ⟨rfl, rfl⟩; clear tok1) | (go_at_call 18; refine (Down_own (w0 := w) (g := w1.heap.size + 1) (s := (tld s now 4)) (by exact OYn.out.drew) btn bd HBD.out).mono ?_; rintro e w7 ⟨rfl, rfl⟩))
                go_wp2
                go_roundw
                case rel => exact ⟨j + 1, by go_num, _, OXn.out.drew, OYn.out.drew⟩
                case measure => simp [intOf]; omega
              · go_wp2_with fail
                clear c0 c1' c2' c3'
                (with_reducible refine (Reset_own OX1.out).mono ?_)
                rintro e w2 ⟨rfl, O2⟩
                have OY2 := Lib.hid (OY1.out.beside OX1.out O2.out.2 (Ne.symm hne.out))
                have B2 := Lib.hid (BS1.out.fr O2.out.2 hns.out.1)
                go_wp2_with fail
                (with_reducible refine (Reset_own OY2.out).mono ?_)
                rintro e w3 ⟨rfl, O3⟩
                have B3 := Lib.hid (B2.out.fr O3.out.2 hns.out.2)
                have k1' := B3.out.cell 1
                have OXn := Lib.hid (O2.out.1.beside OY2.out O3.out.2 hne.out)
                have OYn := Lib.hid O3.out.1
                go_wp2_with fail
                have tok1 : True := trivial
                obtain ⟨bd, hbd⟩ : ∃ bd : Bool, (okN btn && (z4 btn.toNat).down) = bd := ⟨_, rfl⟩
                have HBD := Lib.hid hbd
                clear hbd
                go_region_held3 (fun w' => w'.cell? ⟨wr.heap.size, 1, none⟩ = some (.int .i64 btn)) (go_keep) (first | (go_at_call 18; have _t := tok1; refine (Down_own (w0 := w) (g := w1.heap.size) (s := z4) (by exact OXn.out.drew) btn bd HBD.out).mono ?_; rintro e w6 ⟨rfl, rfl⟩; clear tok1) | (go_at_call 18; refine (Down_own (w0 := w) (g := w1.heap.size + 1) (s := z4) (by exact OYn.out.drew) btn bd HBD.out).mono ?_; rintro e w7 ⟨rfl, rfl⟩))
                go_wp2
                go_roundw
                case rel => exact ⟨j + 1, by go_num, _, OXn.out.drew, OYn.out.drew⟩
                case measure => simp [intOf]; omega
              · have OXn := OX1
                have OYn := OY1
                go_wp2_with fail
                have tok1 : True := trivial
                obtain ⟨bd, hbd⟩ : ∃ bd : Bool, (okN btn && (s btn.toNat).down) = bd := ⟨_, rfl⟩
                have HBD := Lib.hid hbd
                clear hbd
                go_region_held3 (fun w' => w'.cell? ⟨wr.heap.size, 1, none⟩ = some (.int .i64 btn)) (go_keep) (first | (go_at_call 18; have _t := tok1; refine (Down_own (w0 := w) (g := w1.heap.size) (s := s) (by exact OXn.out.drew) btn bd HBD.out).mono ?_; rintro e w6 ⟨rfl, rfl⟩; clear tok1) | (go_at_call 18; refine (Down_own (w0 := w) (g := w1.heap.size + 1) (s := s) (by exact OYn.out.drew) btn bd HBD.out).mono ?_; rintro e w7 ⟨rfl, rfl⟩))
                go_wp2
                go_roundw
                case rel => exact ⟨j + 1, by go_num, _, OXn.out.drew, OYn.out.drew⟩
                case measure => simp [intOf]; omega
            · go_wp2
              go_ret
              exact ⟨rfl, OX.out.fr.below0⟩
          · go_wp2
            go_ret
            exact ⟨rfl, OX.out.fr.below0⟩
end Go.Proofs.Ytccehjcfphimgaa
