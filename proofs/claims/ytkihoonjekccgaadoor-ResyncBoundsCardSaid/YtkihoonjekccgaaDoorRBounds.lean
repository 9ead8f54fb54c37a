/- The walk of ResyncBounds. -/
import Derived.Test.YtkihoonjekccgaaDoorG8
namespace Go.Proofs.YtkihoonjekccgaaDoor.K
open Go.RowKit
set_option linter.unusedVariables false
set_option linter.unusedSimpArgs false
attribute [local go_sem] min2_min min_two
/-- What a decoder is behind k bytes alike, none of them a flag. -/
def sB (c : Int) (k : Nat) : Ds := if k ≤ 62 then ⟨d0.n, List.replicate k c, false⟩ else ⟨inc d0.n 10, [], true⟩
theorem sB_step {c : Int} (h : c ≠ 126) (k : Nat) : stepD c (sB c k) = (sB c (k + 1), []) := by
  unfold stepD
  rw [if_neg h]
  by_cases h1 : k ≤ 61
  · rw [show sB c k = ⟨d0.n, List.replicate k c, false⟩ by unfold sB; rw [if_pos (by omega)], show sB c (k + 1) = ⟨d0.n, List.replicate (k + 1) c, false⟩ by unfold sB; rw [if_pos (by omega)]]
    unfold takeD
    simp only [List.length_replicate]
    rw [if_neg (by simp), if_neg (by omega), List.replicate_succ']
  · by_cases h2 : k = 62
    · subst h2
      rw [show sB c 62 = ⟨d0.n, List.replicate 62 c, false⟩ from rfl, show sB c (62 + 1) = ⟨inc d0.n 10, [], true⟩ from rfl]
      unfold takeD
      simp only [List.length_replicate]
      simp
    · rw [show sB c k = ⟨inc d0.n 10, [], true⟩ by unfold sB; rw [if_neg (by omega)], show sB c (k + 1) = ⟨inc d0.n 10, [], true⟩ by unfold sB; rw [if_neg (by omega)]]
      rfl
theorem inB_rep {c : Int} (h : 0 ≤ c ∧ c < 256) (k : Nat) : InB (List.replicate k c) := fun x hx => by obtain ⟨_, rfl⟩ := List.mem_replicate.1 hx; exact h
theorem sB_ok {c : Int} (h : 0 ≤ c ∧ c < 256) (k : Nat) : DsOk 1 (sB c k) := by
  unfold sB
  split
  · exact ⟨rfl, fun x hx => by simp [d0] at hx; omega, by simp; omega, inB_rep h k, by simp⟩
  · exact ⟨rfl, fun x hx => by simp [d0, inc] at hx; omega, by simp, (fun x hx => by cases hx), fun _ => rfl⟩
theorem sB_held (c : Int) (k : Nat) : (sB c k).held.length = if k ≤ 62 then k else 0 := by unfold sB; split <;> simp
theorem sB_n (c : Int) (k : Nat) : (sB c k).n = [0, 0, 0, 0, 0, 0, 0, 0, 0, 0, if k ≤ 62 then 0 else 1, 0] := by unfold sB; split <;> rfl
/-- What a flag does behind them. -/
theorem sB_end (c : Int) (k : Nat) : ∃ b0 b1 b2 b3 b4 b5 b6 b7 b8 b9 b11 fs, stepD 126 (sB c k) = (⟨[b0, b1, b2, b3, b4, b5, b6, b7, b8, b9, if k ≤ 62 then 0 else 1, b11], [], false⟩, fs) := by
  have h0 := sB_n c k
  have hs : stepD 126 (sB c k) = endD (sB c k) := by simp [stepD]
  rw [hs]
  unfold endD
  split
  · rw [h0]; exact ⟨_, _, _, _, _, _, _, _, _, _, _, _, rfl⟩
  · split
    · rw [h0]; exact ⟨_, _, _, _, _, _, _, _, _, _, _, _, rfl⟩
    · rcases dec_err (sB c k).held with e | e | e | e
      · contradiction
      all_goals
        rw [e, h0]
        exact ⟨_, _, _, _, _, _, _, _, _, _, _, _, rfl⟩
set_option maxHeartbeats 1000000 in
set_option maxRecDepth 10000 in
theorem rbounds_walk (a0 c : Int) (hc : 0 ≤ c ∧ c < 256) (w : World) (hT : Turns w) :
    Calls Tryd.prog 6 #[.int .i64 a0, .int .u8 c] w fun e w' => e = .returned (.bool true) ∧ Below w.heap.size w w' := by
  have HTB : Hid (∀ w' : World, Below w.heap.size w w' → Turns w') := Lib.hid (fun w' b => hT.below b hT.lt)
  have HT := Lib.hid hT
  obtain ⟨mk, hmk, hbits⟩ := and_mask a0 65535 (by omega)
  have hbits : bits .and .i64 a0 65535 = (mk : Int) := hbits
  obtain ⟨N, hN⟩ : ∃ N : Nat, N = mk % 1001 := ⟨_, rfl⟩
  have hN1 : N ≤ 1000 := by omega
  have hmod : (mk : Int) % 1001 = (N : Int) := by rw [hN]; simp
  clear hT hN hmk
  by_cases h126 : c = 126
  · subst h126
    have HC : Hid ((0 : Int) ≠ 126) := Lib.hid (by decide)
    have HCI : Hid (0 ≤ (0 : Int) ∧ (0 : Int) < 256) := Lib.hid (by decide)
    clear hc
    go_enter Tryd.func6, Tryd.ntmps6
    go_wp2_with fail
    refine Calls.mono (shown5_walk HT.out) ?_
    rintro e w1 ⟨rfl, H1⟩
    go_wp2
    obtain ⟨W0, hW0⟩ : ∃ W0, w1.alloc (.cells Tryd.zeroCells30 30) = W0 := ⟨_, rfl⟩
    have HG0 : Hid (DecB W0 w1.heap.size (sB 0 0)) := Lib.hid (hW0 ▸ dec_zero w1)
    have HB0 : Hid (Below w.heap.size w W0) := Lib.hid (hW0 ▸ H1.out.alloc H1.out.size _)
    have hgw : w.heap.size ≤ w1.heap.size := H1.out.size
    rw [hW0]
    simp only [hmod]
    clear hW0 H1 hmod hbits
    generalize w1.heap.size = g at *
    go_loopw [7, 8] (fun i _ wr => ∃ k : Nat, i = .int .i64 k ∧ k ≤ N ∧ DecB wr g (sB 0 k) ∧ Below w.heap.size w wr) (fun i _ _ => N - (intOf i).toNat)
    case atStart => exact ⟨0, rfl, by omega, HG0.out, HB0.out⟩
    case round =>
      obtain ⟨k, rfl, hk, hd, hb⟩ := hrel
      have HD := Lib.hid hd
      have HB := Lib.hid hb
      clear hd hb
      by_cases hlt : k < N
      · have HR : Hid (RowOf c8 1 (wr.alloc (.cells #[.int .u8 0] 5)) (wr.alloc (.cells #[.int .u8 0] 5)).heap.size (some ⟨wr.heap.size, 0, none⟩) [0]) := Lib.hid (row_lit (l := [0]) (heap_alloc_new wr _) (by simp))
        have HD1 : Hid (DecB (wr.alloc (.cells #[.int .u8 0] 5)) g (sB 0 k)) := Lib.hid (HD.out.fr ((Fr.refl (fun _ => False) wr).alloc _) (fun h => h))
        have hgr : g < wr.heap.size := HD.out.lt
        have HB1 : Hid (Below w.heap.size w (wr.alloc (.cells #[.int .u8 0] 5))) := Lib.hid (HB.out.alloc HB.out.size _)
        go_wp2_with fail
        refine Calls.mono (FeedE (K := 1) (l := [0]) (n := 1) (m := 0) rfl ((feed_one _ _).trans (sB_step HC.out k)) rfl HD1.out (sB_ok HCI.out k) (by decide) (HTB.out _ HB1.out) (fun x hx => by obtain rfl := List.mem_singleton.1 hx; exact HCI.out) (by decide) HR.out (fun ad e => by obtain rfl := Option.some.inj e; simp; omega)) ?_
        rintro e w2 ⟨A2, c2, xs2, rfl, O2, X2, G2, F2⟩
        have HB2 := Lib.hid (fr1_below HB1.out F2.out hgw (Nat.le_refl _))
        clear O2 X2 F2 HB1 HD1 HR
        by_cases h62 : k < 62
        · have h62' : ¬ (62 : Int) ≤ (k : Int) := by omega
          go_wp2_with fail
          refine Calls.mono (heldE (n := k + 1) G2.out ((sB_held _ _).trans (by rw [if_pos (by omega)]))) ?_
          rintro e w' ⟨rfl, rfl⟩
          go_wp2
          go_roundw
          case rel => exact ⟨k + 1, by go_num, by omega, G2.out, HB2.out⟩
          case measure => simp [intOf]; omega
        · have h62' : (62 : Int) ≤ (k : Int) := by omega
          go_wp2_with fail
          refine Calls.mono (heldE (n := 0) G2.out ((sB_held _ _).trans (by rw [if_neg (by omega)]))) ?_
          rintro e w' ⟨rfl, rfl⟩
          go_wp2
          go_roundw
          case rel => exact ⟨k + 1, by go_num, by omega, G2.out, HB2.out⟩
          case measure => simp [intOf]; omega
      · obtain rfl : k = N := by omega
        have hsz : g < wr.heap.size := HD.out.lt
        obtain ⟨ov, hov⟩ : ∃ ov : Int, ov = if k ≤ 62 then 0 else 1 := ⟨_, rfl⟩
        have hn := sB_n 0 k
        rw [← hov] at hn
        obtain ⟨b0, b1, b2, b3, b4, b5, b6, b7, b8, b9, b11, fs, he⟩ := sB_end 0 k
        rw [← hov] at he
        have hok := sB_ok HCI.out k
        have HOK := Lib.hid hok
        obtain ⟨⟨sn, sh, so⟩, hS⟩ : ∃ S, sB 0 k = S := ⟨_, rfl⟩
        rw [hS] at hn he HD HOK
        simp only at hn
        subst hn
        have HE := Lib.hid ((feed_one _ _).trans he)
        have ho : (62 < k ∧ ov = 1) ∨ (¬ 62 < k ∧ ov = 0) := by by_cases h : k ≤ 62 <;> simp [h] at hov <;> omega
        clear he hS hok hov
        rcases ho with ⟨hk62, rfl⟩ | ⟨hk62, rfl⟩
        · have e62 : decide (62 < (k : Int)) = decide (62 < k) := by rw [decide_eq_decide]; omega
          go_wp2_with fail
          refine Calls.mono (errC HD.out) ?_
          rintro e w2 ⟨rfl, D2⟩
          have HB2 := Lib.hid (HB.out.trans (D2.out.mono HB.out.size))
          have HD2 := Lib.hid (HD.out.fr (Fr.of_below D2.out) (fun h => h))
          have hs2 : g < w2.heap.size := HD2.out.lt
          clear D2
          go_wp2_with fail
          obtain ⟨W3, hW3⟩ : ∃ W3, (w2.alloc (.cells #[.int .i64 0, .int .i64 0, .int .i64 0, .int .i64 0, .int .i64 0, .int .i64 0, .int .i64 0, .int .i64 0, .int .i64 0, .int .i64 0, .int .i64 1, .int .i64 0] 25)).alloc (.cells #[.int .u8 126] 5) = W3 := ⟨_, rfl⟩
          have F2 : Hid (Fr0 w2 W3) := Lib.hid (hW3 ▸ ((Fr.refl (fun _ => False) w2).alloc _).alloc _)
          have HD3 := Lib.hid (HD2.out.fr F2.out (fun h => h))
          have HB3 := Lib.hid (fr0_below HB2.out F2.out (Nat.le_refl _))
          have HR3 : Hid (RowOf c8 1 W3 W3.heap.size (some ⟨w2.heap.size + 1, 0, none⟩) [126]) := Lib.hid (hW3 ▸ row_lit (l := [126]) (heap_new_at (by simp)) (by simp))
          have HX3 : Hid (Blk W3 w2.heap.size 25 #[.int .i64 0, .int .i64 0, .int .i64 0, .int .i64 0, .int .i64 0, .int .i64 0, .int .i64 0, .int .i64 0, .int .i64 0, .int .i64 0, .int .i64 1, .int .i64 0]) := Lib.hid (hW3 ▸ (Blk.new w2 _ _).alloc _)
          have hs3 : W3.heap.size = w2.heap.size + 2 := by rw [← hW3]; simp
          rw [hW3]
          clear hW3 F2 HB2 HD2
          refine Calls.mono (FeedE (K := 1) (l := [126]) (n := 1) rfl HE.out rfl HD3.out HOK.out (by decide) (HTB.out _ HB3.out) (inB_of (by decide)) (by decide) HR3.out (fun ad e => by obtain rfl := Option.some.inj e; simp; omega)) ?_
          rintro e w4 ⟨A4, c4, xs4, rfl, O4, X4, G4, F4⟩
          have HB4 := Lib.hid (fr1_below HB3.out F4.out hgw (Nat.le_refl _))
          have k10 : w4.cell? ⟨w2.heap.size, 10, none⟩ = some (.int .i64 1) := (HX3.out.fr F4.out (by omega)).cell 10
          clear O4 X4 F4 HX3 HR3 HD3
          go_wp2_with fail
          refine Calls.mono (errC G4.out) ?_
          rintro e w5 ⟨rfl, D5⟩
          have HD5 := Lib.hid (G4.out.fr (Fr.of_below D5.out) (fun h => h))
          have HB5 := Lib.hid (HB4.out.trans (D5.out.mono HB4.out.size))
          clear k10 D5 G4
          have hi10 := idx10 b0 b1 b2 b3 b4 b5 b6 b7 b8 b9 1 b11 w5
          go_wp2_with fail
          refine Calls.mono (heldE (n := 0) HD5.out rfl) ?_
          rintro e w' ⟨rfl, rfl⟩
          go_wp2
          go_ret
          exact ⟨rfl, HB5.out⟩
        · have e62 : decide (62 < (k : Int)) = decide (62 < k) := by rw [decide_eq_decide]; omega
          go_wp2_with fail
          refine Calls.mono (errC HD.out) ?_
          rintro e w2 ⟨rfl, D2⟩
          have HB2 := Lib.hid (HB.out.trans (D2.out.mono HB.out.size))
          have HD2 := Lib.hid (HD.out.fr (Fr.of_below D2.out) (fun h => h))
          have hs2 : g < w2.heap.size := HD2.out.lt
          clear D2
          go_wp2_with fail
          obtain ⟨W3, hW3⟩ : ∃ W3, (w2.alloc (.cells #[.int .i64 0, .int .i64 0, .int .i64 0, .int .i64 0, .int .i64 0, .int .i64 0, .int .i64 0, .int .i64 0, .int .i64 0, .int .i64 0, .int .i64 0, .int .i64 0] 25)).alloc (.cells #[.int .u8 126] 5) = W3 := ⟨_, rfl⟩
          have F2 : Hid (Fr0 w2 W3) := Lib.hid (hW3 ▸ ((Fr.refl (fun _ => False) w2).alloc _).alloc _)
          have HD3 := Lib.hid (HD2.out.fr F2.out (fun h => h))
          have HB3 := Lib.hid (fr0_below HB2.out F2.out (Nat.le_refl _))
          have HR3 : Hid (RowOf c8 1 W3 W3.heap.size (some ⟨w2.heap.size + 1, 0, none⟩) [126]) := Lib.hid (hW3 ▸ row_lit (l := [126]) (heap_new_at (by simp)) (by simp))
          have HX3 : Hid (Blk W3 w2.heap.size 25 #[.int .i64 0, .int .i64 0, .int .i64 0, .int .i64 0, .int .i64 0, .int .i64 0, .int .i64 0, .int .i64 0, .int .i64 0, .int .i64 0, .int .i64 0, .int .i64 0]) := Lib.hid (hW3 ▸ (Blk.new w2 _ _).alloc _)
          have hs3 : W3.heap.size = w2.heap.size + 2 := by rw [← hW3]; simp
          rw [hW3]
          clear hW3 F2 HB2 HD2
          refine Calls.mono (FeedE (K := 1) (l := [126]) (n := 1) rfl HE.out rfl HD3.out HOK.out (by decide) (HTB.out _ HB3.out) (inB_of (by decide)) (by decide) HR3.out (fun ad e => by obtain rfl := Option.some.inj e; simp; omega)) ?_
          rintro e w4 ⟨A4, c4, xs4, rfl, O4, X4, G4, F4⟩
          have HB4 := Lib.hid (fr1_below HB3.out F4.out hgw (Nat.le_refl _))
          have k10 : w4.cell? ⟨w2.heap.size, 10, none⟩ = some (.int .i64 0) := (HX3.out.fr F4.out (by omega)).cell 10
          clear O4 X4 F4 HX3 HR3 HD3
          go_wp2_with fail
          refine Calls.mono (errC G4.out) ?_
          rintro e w5 ⟨rfl, D5⟩
          have HD5 := Lib.hid (G4.out.fr (Fr.of_below D5.out) (fun h => h))
          have HB5 := Lib.hid (HB4.out.trans (D5.out.mono HB4.out.size))
          clear k10 D5 G4
          have hi10 := idx10 b0 b1 b2 b3 b4 b5 b6 b7 b8 b9 0 b11 w5
          go_wp2_with fail
          refine Calls.mono (heldE (n := 0) HD5.out rfl) ?_
          rintro e w' ⟨rfl, rfl⟩
          go_wp2
          go_ret
          exact ⟨rfl, HB5.out⟩
  · have HC := Lib.hid h126
    have HCI := Lib.hid hc
    have e1 : (c == 126) = false := by simpa using h126
    clear hc h126
    go_enter Tryd.func6, Tryd.ntmps6
    go_wp2_with fail
    refine Calls.mono (shown5_walk HT.out) ?_
    rintro e w1 ⟨rfl, H1⟩
    go_wp2
    obtain ⟨W0, hW0⟩ : ∃ W0, w1.alloc (.cells Tryd.zeroCells30 30) = W0 := ⟨_, rfl⟩
    have HG0 : Hid (DecB W0 w1.heap.size (sB c 0)) := Lib.hid (hW0 ▸ dec_zero w1)
    have HB0 : Hid (Below w.heap.size w W0) := Lib.hid (hW0 ▸ H1.out.alloc H1.out.size _)
    have hgw : w.heap.size ≤ w1.heap.size := H1.out.size
    rw [hW0]
    simp only [hmod]
    clear hW0 H1 hmod hbits
    generalize w1.heap.size = g at *
    go_loopw [7, 8] (fun i _ wr => ∃ k : Nat, i = .int .i64 k ∧ k ≤ N ∧ DecB wr g (sB c k) ∧ Below w.heap.size w wr) (fun i _ _ => N - (intOf i).toNat)
    case atStart => exact ⟨0, rfl, by omega, HG0.out, HB0.out⟩
    case round =>
      obtain ⟨k, rfl, hk, hd, hb⟩ := hrel
      have HD := Lib.hid hd
      have HB := Lib.hid hb
      clear hd hb
      by_cases hlt : k < N
      · have HR : Hid (RowOf c8 1 (wr.alloc (.cells #[.int .u8 c] 5)) (wr.alloc (.cells #[.int .u8 c] 5)).heap.size (some ⟨wr.heap.size, 0, none⟩) [c]) := Lib.hid (row_lit (l := [c]) (heap_alloc_new wr _) (by simp))
        have HD1 : Hid (DecB (wr.alloc (.cells #[.int .u8 c] 5)) g (sB c k)) := Lib.hid (HD.out.fr ((Fr.refl (fun _ => False) wr).alloc _) (fun h => h))
        have hgr : g < wr.heap.size := HD.out.lt
        have HB1 : Hid (Below w.heap.size w (wr.alloc (.cells #[.int .u8 c] 5))) := Lib.hid (HB.out.alloc HB.out.size _)
        go_wp2_with fail
        refine Calls.mono (FeedE (K := 1) (l := [c]) (n := 1) (m := 0) rfl ((feed_one _ _).trans (sB_step HC.out k)) rfl HD1.out (sB_ok HCI.out k) (by decide) (HTB.out _ HB1.out) (fun x hx => by obtain rfl := List.mem_singleton.1 hx; exact HCI.out) (by decide) HR.out (fun ad e => by obtain rfl := Option.some.inj e; simp; omega)) ?_
        rintro e w2 ⟨A2, c2, xs2, rfl, O2, X2, G2, F2⟩
        have HB2 := Lib.hid (fr1_below HB1.out F2.out hgw (Nat.le_refl _))
        clear O2 X2 F2 HB1 HD1 HR
        by_cases h62 : k < 62
        · have h62' : ¬ (62 : Int) ≤ (k : Int) := by omega
          go_wp2_with fail
          refine Calls.mono (heldE (n := k + 1) G2.out ((sB_held _ _).trans (by rw [if_pos (by omega)]))) ?_
          rintro e w' ⟨rfl, rfl⟩
          go_wp2
          go_roundw
          case rel => exact ⟨k + 1, by go_num, by omega, G2.out, HB2.out⟩
          case measure => simp [intOf]; omega
        · have h62' : (62 : Int) ≤ (k : Int) := by omega
          go_wp2_with fail
          refine Calls.mono (heldE (n := 0) G2.out ((sB_held _ _).trans (by rw [if_neg (by omega)]))) ?_
          rintro e w' ⟨rfl, rfl⟩
          go_wp2
          go_roundw
          case rel => exact ⟨k + 1, by go_num, by omega, G2.out, HB2.out⟩
          case measure => simp [intOf]; omega
      · obtain rfl : k = N := by omega
        have hsz : g < wr.heap.size := HD.out.lt
        obtain ⟨ov, hov⟩ : ∃ ov : Int, ov = if k ≤ 62 then 0 else 1 := ⟨_, rfl⟩
        have hn := sB_n c k
        rw [← hov] at hn
        obtain ⟨b0, b1, b2, b3, b4, b5, b6, b7, b8, b9, b11, fs, he⟩ := sB_end c k
        rw [← hov] at he
        have hok := sB_ok HCI.out k
        have HOK := Lib.hid hok
        obtain ⟨⟨sn, sh, so⟩, hS⟩ : ∃ S, sB c k = S := ⟨_, rfl⟩
        rw [hS] at hn he HD HOK
        simp only at hn
        subst hn
        have HE := Lib.hid ((feed_one _ _).trans he)
        have ho : (62 < k ∧ ov = 1) ∨ (¬ 62 < k ∧ ov = 0) := by by_cases h : k ≤ 62 <;> simp [h] at hov <;> omega
        clear he hS hok hov
        rcases ho with ⟨hk62, rfl⟩ | ⟨hk62, rfl⟩
        · have e62 : decide (62 < (k : Int)) = decide (62 < k) := by rw [decide_eq_decide]; omega
          go_wp2_with fail
          refine Calls.mono (errC HD.out) ?_
          rintro e w2 ⟨rfl, D2⟩
          have HB2 := Lib.hid (HB.out.trans (D2.out.mono HB.out.size))
          have HD2 := Lib.hid (HD.out.fr (Fr.of_below D2.out) (fun h => h))
          have hs2 : g < w2.heap.size := HD2.out.lt
          clear D2
          go_wp2_with fail
          obtain ⟨W3, hW3⟩ : ∃ W3, (w2.alloc (.cells #[.int .i64 0, .int .i64 0, .int .i64 0, .int .i64 0, .int .i64 0, .int .i64 0, .int .i64 0, .int .i64 0, .int .i64 0, .int .i64 0, .int .i64 1, .int .i64 0] 25)).alloc (.cells #[.int .u8 126] 5) = W3 := ⟨_, rfl⟩
          have F2 : Hid (Fr0 w2 W3) := Lib.hid (hW3 ▸ ((Fr.refl (fun _ => False) w2).alloc _).alloc _)
          have HD3 := Lib.hid (HD2.out.fr F2.out (fun h => h))
          have HB3 := Lib.hid (fr0_below HB2.out F2.out (Nat.le_refl _))
          have HR3 : Hid (RowOf c8 1 W3 W3.heap.size (some ⟨w2.heap.size + 1, 0, none⟩) [126]) := Lib.hid (hW3 ▸ row_lit (l := [126]) (heap_new_at (by simp)) (by simp))
          have HX3 : Hid (Blk W3 w2.heap.size 25 #[.int .i64 0, .int .i64 0, .int .i64 0, .int .i64 0, .int .i64 0, .int .i64 0, .int .i64 0, .int .i64 0, .int .i64 0, .int .i64 0, .int .i64 1, .int .i64 0]) := Lib.hid (hW3 ▸ (Blk.new w2 _ _).alloc _)
          have hs3 : W3.heap.size = w2.heap.size + 2 := by rw [← hW3]; simp
          rw [hW3]
          clear hW3 F2 HB2 HD2
          refine Calls.mono (FeedE (K := 1) (l := [126]) (n := 1) rfl HE.out rfl HD3.out HOK.out (by decide) (HTB.out _ HB3.out) (inB_of (by decide)) (by decide) HR3.out (fun ad e => by obtain rfl := Option.some.inj e; simp; omega)) ?_
          rintro e w4 ⟨A4, c4, xs4, rfl, O4, X4, G4, F4⟩
          have HB4 := Lib.hid (fr1_below HB3.out F4.out hgw (Nat.le_refl _))
          have k10 : w4.cell? ⟨w2.heap.size, 10, none⟩ = some (.int .i64 1) := (HX3.out.fr F4.out (by omega)).cell 10
          clear O4 X4 F4 HX3 HR3 HD3
          go_wp2_with fail
          refine Calls.mono (errC G4.out) ?_
          rintro e w5 ⟨rfl, D5⟩
          have HD5 := Lib.hid (G4.out.fr (Fr.of_below D5.out) (fun h => h))
          have HB5 := Lib.hid (HB4.out.trans (D5.out.mono HB4.out.size))
          clear k10 D5 G4
          have hi10 := idx10 b0 b1 b2 b3 b4 b5 b6 b7 b8 b9 1 b11 w5
          go_wp2_with fail
          refine Calls.mono (heldE (n := 0) HD5.out rfl) ?_
          rintro e w' ⟨rfl, rfl⟩
          go_wp2
          go_ret
          exact ⟨rfl, HB5.out⟩
        · have e62 : decide (62 < (k : Int)) = decide (62 < k) := by rw [decide_eq_decide]; omega
          go_wp2_with fail
          refine Calls.mono (errC HD.out) ?_
          rintro e w2 ⟨rfl, D2⟩
          have HB2 := Lib.hid (HB.out.trans (D2.out.mono HB.out.size))
          have HD2 := Lib.hid (HD.out.fr (Fr.of_below D2.out) (fun h => h))
          have hs2 : g < w2.heap.size := HD2.out.lt
          clear D2
          go_wp2_with fail
          obtain ⟨W3, hW3⟩ : ∃ W3, (w2.alloc (.cells #[.int .i64 0, .int .i64 0, .int .i64 0, .int .i64 0, .int .i64 0, .int .i64 0, .int .i64 0, .int .i64 0, .int .i64 0, .int .i64 0, .int .i64 0, .int .i64 0] 25)).alloc (.cells #[.int .u8 126] 5) = W3 := ⟨_, rfl⟩
          have F2 : Hid (Fr0 w2 W3) := Lib.hid (hW3 ▸ ((Fr.refl (fun _ => False) w2).alloc _).alloc _)
          have HD3 := Lib.hid (HD2.out.fr F2.out (fun h => h))
          have HB3 := Lib.hid (fr0_below HB2.out F2.out (Nat.le_refl _))
          have HR3 : Hid (RowOf c8 1 W3 W3.heap.size (some ⟨w2.heap.size + 1, 0, none⟩) [126]) := Lib.hid (hW3 ▸ row_lit (l := [126]) (heap_new_at (by simp)) (by simp))
          have HX3 : Hid (Blk W3 w2.heap.size 25 #[.int .i64 0, .int .i64 0, .int .i64 0, .int .i64 0, .int .i64 0, .int .i64 0, .int .i64 0, .int .i64 0, .int .i64 0, .int .i64 0, .int .i64 0, .int .i64 0]) := Lib.hid (hW3 ▸ (Blk.new w2 _ _).alloc _)
          have hs3 : W3.heap.size = w2.heap.size + 2 := by rw [← hW3]; simp
          rw [hW3]
          clear hW3 F2 HB2 HD2
          refine Calls.mono (FeedE (K := 1) (l := [126]) (n := 1) rfl HE.out rfl HD3.out HOK.out (by decide) (HTB.out _ HB3.out) (inB_of (by decide)) (by decide) HR3.out (fun ad e => by obtain rfl := Option.some.inj e; simp; omega)) ?_
          rintro e w4 ⟨A4, c4, xs4, rfl, O4, X4, G4, F4⟩
          have HB4 := Lib.hid (fr1_below HB3.out F4.out hgw (Nat.le_refl _))
          have k10 : w4.cell? ⟨w2.heap.size, 10, none⟩ = some (.int .i64 0) := (HX3.out.fr F4.out (by omega)).cell 10
          clear O4 X4 F4 HX3 HR3 HD3
          go_wp2_with fail
          refine Calls.mono (errC G4.out) ?_
          rintro e w5 ⟨rfl, D5⟩
          have HD5 := Lib.hid (G4.out.fr (Fr.of_below D5.out) (fun h => h))
          have HB5 := Lib.hid (HB4.out.trans (D5.out.mono HB4.out.size))
          clear k10 D5 G4
          have hi10 := idx10 b0 b1 b2 b3 b4 b5 b6 b7 b8 b9 0 b11 w5
          go_wp2_with fail
          refine Calls.mono (heldE (n := 0) HD5.out rfl) ?_
          rintro e w' ⟨rfl, rfl⟩
          go_wp2
          go_ret
          exact ⟨rfl, HB5.out⟩
end Go.Proofs.YtkihoonjekccgaaDoor.K
