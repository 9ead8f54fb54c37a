/- OrderLines: its walk. -/
import Derived.Test.YtigknfkkegccgaaDoorOBd
import Derived.Test.YtigknfkkegccgaaDoorOLp
import Derived.Test.YtigknfkkegccgaaDoorGe
namespace Go.Proofs.YtigknfkkegccgaaDoor.K
open Go.RowKit
set_option linter.unusedVariables false
set_option linter.unusedSimpArgs false
attribute [local go_sem ↓] Go.wp_at_zero Go.wp_at_succ
set_option maxHeartbeats 8000000 in
set_option maxRecDepth 20000 in
theorem lines_walk (a0 a1 a2 a3 a4 : Int) (w : World) (b2 : -9223372036854775808 ≤ a2 ∧ a2 < 9223372036854775808) (b3 : 0 ≤ a3 ∧ a3 < 65536) :
    Calls Tryd.prog 6 #[.int .i64 a0, .int .i64 a1, .int .i64 a2, .int .u16 a3, .int .i64 a4] w fun e w' => e = .returned (.bool true) ∧ Below w.heap.size w w' := by
  obtain ⟨m0, hm0, h0⟩ := and_mask a0 65535 (by omega)
  obtain ⟨m1, hm1, h1⟩ := and_mask a1 65535 (by omega)
  obtain ⟨m4, hm4, h4⟩ := and_mask a4 65535 (by omega)
  have h0 : bits .and .i64 a0 65535 = (m0 : Int) := h0
  have h1 : bits .and .i64 a1 65535 = (m1 : Int) := h1
  have h4 : bits .and .i64 a4 65535 = (m4 : Int) := h4
  obtain ⟨n0, hn0⟩ : ∃ n0 : Nat, n0 = m0 % 10 := ⟨_, rfl⟩
  obtain ⟨n, hn⟩ : ∃ n : Nat, n = 1 + n0 := ⟨_, rfl⟩
  obtain ⟨k, hk⟩ : ∃ k : Nat, k = m1 % n := ⟨_, rfl⟩
  obtain ⟨o, ho⟩ : ∃ o : Nat, o = m4 % n := ⟨_, rfl⟩
  have hkn : k < n := by rw [hk]; exact Nat.mod_lt _ (by omega)
  have hon : o < n := by rw [ho]; exact Nat.mod_lt _ (by omega)
  have r0 : (m0 : Int) % 10 = (n0 : Int) := by rw [hn0]; simp
  have r1 : (m1 : Int) % (n : Int) = (k : Int) := by rw [hk]; simp
  have r4 : (m4 : Int) % (n : Int) = (o : Int) := by rw [ho]; simp
  have t0 : 1 + (n0 : Int) = (n : Int) := by omega
  have hn10 : 1 ≤ n ∧ n ≤ 10 := by omega
  have hnz : (n : Int) ≠ 0 := by omega
  obtain ⟨hn1, hn2⟩ := hn10
  clear hk ho hn0 hn hm0 hm1 hm4
  go_enter Tryd.func6, Tryd.ntmps6
  go_wp2_with fail
  refine Calls.mono shown14_walk ?_
  rintro e w1 ⟨rfl, F1⟩
  go_wp2
  simp only [r1, r4]
  clear r0 r1 r4 t0 h0 h1 h4 hnz
  rename bits .and .i64 a0 ↑65535 = _ => q0
  rename bits .and .i64 a1 ↑65535 = _ => q1
  rename bits .and .i64 a4 ↑65535 = _ => q4
  clear q0 q1 q4
  go_loopw [12, 13] (fun a i wr => ∃ j : Nat, i = .int .i64 j ∧ j ≤ n ∧ (∃ A c, a = .slice A j c ∧ MadeL w.heap.size A c (linesL j) wr) ∧ Below w.heap.size w wr) (fun _ i _ => n - (intOf i).toNat)
  case atStart => exact ⟨0, rfl, by omega, ⟨none, 0, rfl, MadeL.nil_ _ _⟩, F1.out⟩
  case round =>
    obtain ⟨j, rfl, hj, ⟨A, c, rfl, hm⟩, hf⟩ := hrel
    have HF := Lib.hid hf
    have hm1 := hm.1
    rw [linesL_len] at hm1
    have HO := Lib.hid hm1
    have HM := Lib.hid hm
    clear hf hm hm1
    by_cases hlt : j < n
    · have HS : Hid ((linesL (j + 1)).flatMap cL = (linesL j).flatMap cL ++ [.int .u16 (1000 + j), .int .u16 j, .int .i64 (1 + j)]) := Lib.hid (by rw [linesL_succ, List.flatMap_append]; rfl)
      go_wp2_with (at_builtin; go_loud (refine app1 rfl _ _ _ rfl 51 (.agg #[.int .u16 0, .int .u16 0, .int .i64 0]) 3 16 Tryd.underlying23 info_ln rfl (by omega) (by omega) w.heap.size (.slice A j c) j _ [.int .u16 (1000 + j), .int .u16 j, .int .i64 (1 + j)] rfl rfl rfl (fun u hu => by simp at hu; rcases hu with rfl | rfl | rfl <;> rfl) HO.out HF.out.size (by omega) ?_; intro v2 w2 h3 h4 h5; have H3 := Lib.hid h3; have H4 := Lib.hid h4; clear h3 h4 h5))
      go_wp2
      go_roundw
      case rel =>
        refine ⟨j + 1, by go_num, by omega, ?_, below_fr HF.out H4.out HF.out.size (fun q e => (HO.out.lt q e).1)⟩
        obtain ⟨A2, c2, rfl, hm2⟩ := madeL_of (B := w.heap.size) (l := linesL (j + 1)) (by rw [linesL_len, HS.out]; exact H3.out)
        rw [linesL_len]
        exact ⟨A2, c2, rfl, hm2⟩
      case measure => simp [intOf]; omega
    · obtain rfl : n = j := by omega
      generalize hg : linesL n = ls at HM
      have hn : n = ls.length := by rw [← hg, linesL_len]
      have HOK := Lib.hid (hg ▸ linesL_ok n hn2 : ∀ l ∈ ls, l.ok)
      have hget : ∀ (q : Nat) (h : q < ls.length), ls[q] = baseL q := fun q h => by subst hg; exact linesL_get n q h
      have hcl := HM.out.2.2
      have HLS := Lib.hid hg
      clear hg HO
      subst hn
      by_cases h8 : 8 < ls.length
      · have hr5 := HLS.out ▸ right_full h8
        have qR := RightE (id := 0) HM.out.2.1 rfl (by omega) hcl HOK.out hr5
        go_wp2_with fail
        refine Calls.mono qR ?_
        clear qR
        rintro e w2 ⟨rfl, F2⟩
        go_wp2
        go_ret
        exact ⟨rfl, HF.out.trans (F2.out.mono HF.out.size)⟩
      have hle8 : ls.length ≤ 8 := by omega
      have hv0 := HLS.out ▸ right_base hn1 hle8
      have hv1 := HLS.out ▸ right_qty (q := a2) hkn hle8
      have hv2 := HLS.out ▸ right_loc (x := a3) hkn hle8 b3.1
      have hv3 := HLS.out ▸ right_item hkn hon hle8
      have HV1 := Lib.hid hv1
      have HV2 := Lib.hid hv2
      have HV3 := Lib.hid hv3
      clear hv1 hv2 hv3
      have qR := RightE (id := 0) HM.out.2.1 rfl (by omega) hcl HOK.out hv0
      clear hv0
      go_wp2_with fail
      refine Calls.mono qR ?_
      clear qR
      rintro e w2 ⟨rfl, F2⟩
      have M2 := Lib.hid (HM.out.fr (Fr.of_below F2.out) (fun _ _ h => h))
      have B2 := Lib.hid (HF.out.trans (F2.out.mono HF.out.size))
      clear HM HF F2
      go_wp2_with (at_builtin; go_loud (refine appR (c := cL) rfl _ _ _ rfl 51 (.agg #[.int .u16 0, .int .u16 0, .int .i64 0]) 3 16 Tryd.underlying23 info_ln rfl (by omega) (by omega) (fun _ => rfl) one_ln w2.heap.size w2.heap.size _ [] ls _ _ rfl rfl (RowOf.below M2.out.2.1 ((Below.refl _ w2).alloc (Nat.le_refl _) _)) (World.ownsRow_lit w2 #[] 0 (Nat.le_refl _) (by decide) rfl) (by simp) (by simp only [List.length_nil]; omega) ?_; intro v2 wa1 h3 h4 h5; have FA1 : Hid (Fr0 w2 wa1) := Lib.hid (lit_fr h4 (fun k hk => Nat.le_of_eq (Option.some.inj hk))); obtain ⟨A1, c1, rfl, hq1⟩ := madeL_of (B := w2.heap.size) (v := v2) (l := ls) h3; clear h3 h4 h5; obtain ⟨g1, rfl, hb1, hl1, hc1, hf1, hset1⟩ := hq1.set (k := k) (f := 2) hkn (by decide); rw [hget] at hc1; have hd1 : wa1.cell? ⟨g1, k * 3 + 2, none⟩ = some (.int .i64 (1 + k)) := hc1; have he1 : wa1.frozen? ⟨g1, k * 3 + 2, none⟩ = false := hf1; have HQ1 := Lib.hid hq1; have HB1 := Lib.hid hb1; clear hq1 hb1 hset1 hl1 hc1))
      have hb1 := HB1.out
      obtain ⟨_, hgg, -, -, -, -, hset1⟩ := HQ1.out.set (k := k) (f := 2) hkn (by decide)
      obtain rfl := (Addr.mk.inj (Option.some.inj hgg)).1
      have MB1 := Lib.hid (M2.out.fr FA1.out (fun _ _ h => h))
      have HS1 := Lib.hid (hset1 ⟨1000 + k, k, a2⟩ (.int .i64 a2) (by rw [hget]; rfl))
      have HFS1 : Hid (Fr (fun q => q = g1) wa1 (wa1.setCell ⟨g1, k * 3 + 2, none⟩ (.int .i64 a2))) := Lib.hid ((Fr.refl (fun q => q = g1) wa1).setCell (p := ⟨g1, k * 3 + 2, none⟩) (fun _ => rfl) _)
      have HNE1 : Hid (∀ q, (Value.slice A ls.length c).ownBlock = some q → ¬ q = g1) := Lib.hid (fun q e => by have := (M2.out.1.lt q e).2; omega)
      have hsz1 : w.heap.size ≤ g1 := by have := B2.out.size; omega
      clear hset1 hgg HB1 HQ1
      obtain ⟨va1, hva1⟩ : ∃ va, rightO (ls.set k ⟨1000 + k, k, a2⟩) = va := ⟨_, rfl⟩
      rw [hva1] at HV1
      have qR := RightE (id := 0) HS1.out.2.1 (m := ls.length) (by rw [List.length_set]) (by omega) (by have := HS1.out.2.2; rwa [List.length_set] at this) (set_ok HOK.out ⟨⟨by simp only; omega, by simp only; omega⟩, ⟨by simp only; omega, by simp only; omega⟩, ⟨by simp only; omega, by simp only; omega⟩⟩) hva1
      clear hva1
      go_wp2_with fail
      refine Calls.mono qR ?_
      clear qR
      rintro e w3 ⟨rfl, FR1⟩
      have M3 := Lib.hid ((MB1.out.fr HFS1.out HNE1.out).fr (Fr.of_below FR1.out) (fun _ _ h => h))
      have B3 : Hid (Below w.heap.size w w3) := Lib.hid ((below_fr (B2.out.trans (FA1.out.below0.mono B2.out.size)) HFS1.out (Nat.le_trans B2.out.size FA1.out.size) (fun q e => by omega)).trans (FR1.out.mono (by have := Nat.le_trans B2.out.size FA1.out.size; simpa [World.setCell] using this)))
      clear MB1 HS1 HFS1 HNE1 FR1 FA1 M2 B2 hd1 hf1 he1
      go_wp2_with (at_builtin; go_loud (refine appR (c := cL) rfl _ _ _ rfl 51 (.agg #[.int .u16 0, .int .u16 0, .int .i64 0]) 3 16 Tryd.underlying23 info_ln rfl (by omega) (by omega) (fun _ => rfl) one_ln w3.heap.size w3.heap.size _ [] ls _ _ rfl rfl (RowOf.below M3.out.2.1 ((Below.refl _ w3).alloc (Nat.le_refl _) _)) (World.ownsRow_lit w3 #[] 0 (Nat.le_refl _) (by decide) rfl) (by simp) (by simp only [List.length_nil]; omega) ?_; intro v2 wa2 h3 h4 h5; have FA2 : Hid (Fr0 w3 wa2) := Lib.hid (lit_fr h4 (fun k hk => Nat.le_of_eq (Option.some.inj hk))); obtain ⟨A2, c2, rfl, hq2⟩ := madeL_of (B := w3.heap.size) (v := v2) (l := ls) h3; clear h3 h4 h5; obtain ⟨g2, rfl, hb2, hl2, hc2, hf2, hset2⟩ := hq2.set (k := k) (f := 1) hkn (by decide); rw [hget] at hc2; have hd2 : wa2.cell? ⟨g2, k * 3 + 1, none⟩ = some (.int .u16 k) := hc2; have he2 : wa2.frozen? ⟨g2, k * 3 + 1, none⟩ = false := hf2; have HQ2 := Lib.hid hq2; have HB2 := Lib.hid hb2; clear hq2 hb2 hset2 hl2 hc2))
      have hb2 := HB2.out
      obtain ⟨_, hgg, -, -, -, -, hset2⟩ := HQ2.out.set (k := k) (f := 1) hkn (by decide)
      obtain rfl := (Addr.mk.inj (Option.some.inj hgg)).1
      have MB2 := Lib.hid (M3.out.fr FA2.out (fun _ _ h => h))
      have HS2 := Lib.hid (hset2 ⟨1000 + k, a3, 1 + k⟩ (.int .u16 a3) (by rw [hget]; rfl))
      have HFS2 : Hid (Fr (fun q => q = g2) wa2 (wa2.setCell ⟨g2, k * 3 + 1, none⟩ (.int .u16 a3))) := Lib.hid ((Fr.refl (fun q => q = g2) wa2).setCell (p := ⟨g2, k * 3 + 1, none⟩) (fun _ => rfl) _)
      have HNE2 : Hid (∀ q, (Value.slice A ls.length c).ownBlock = some q → ¬ q = g2) := Lib.hid (fun q e => by have := (M3.out.1.lt q e).2; omega)
      have hsz2 : w.heap.size ≤ g2 := by have := B3.out.size; omega
      clear hset2 hgg HB2 HQ2
      obtain ⟨va2, hva2⟩ : ∃ va, rightO (ls.set k ⟨1000 + k, a3, 1 + k⟩) = va := ⟨_, rfl⟩
      rw [hva2] at HV2
      have qR := RightE (id := 0) HS2.out.2.1 (m := ls.length) (by rw [List.length_set]) (by omega) (by have := HS2.out.2.2; rwa [List.length_set] at this) (set_ok HOK.out ⟨⟨by simp only; omega, by simp only; omega⟩, ⟨by simp only; omega, by simp only; omega⟩, ⟨by simp only; omega, by simp only; omega⟩⟩) hva2
      clear hva2
      go_wp2_with fail
      refine Calls.mono qR ?_
      clear qR
      rintro e w4 ⟨rfl, FR2⟩
      have M4 := Lib.hid ((MB2.out.fr HFS2.out HNE2.out).fr (Fr.of_below FR2.out) (fun _ _ h => h))
      have B4 : Hid (Below w.heap.size w w4) := Lib.hid ((below_fr (B3.out.trans (FA2.out.below0.mono B3.out.size)) HFS2.out (Nat.le_trans B3.out.size FA2.out.size) (fun q e => by omega)).trans (FR2.out.mono (by have := Nat.le_trans B3.out.size FA2.out.size; simpa [World.setCell] using this)))
      clear MB2 HS2 HFS2 HNE2 FR2 FA2 M3 B3 hd2 hf2 he2
      go_wp2_with (at_builtin; go_loud (refine appR (c := cL) rfl _ _ _ rfl 51 (.agg #[.int .u16 0, .int .u16 0, .int .i64 0]) 3 16 Tryd.underlying23 info_ln rfl (by omega) (by omega) (fun _ => rfl) one_ln w4.heap.size w4.heap.size _ [] ls _ _ rfl rfl (RowOf.below M4.out.2.1 ((Below.refl _ w4).alloc (Nat.le_refl _) _)) (World.ownsRow_lit w4 #[] 0 (Nat.le_refl _) (by decide) rfl) (by simp) (by simp only [List.length_nil]; omega) ?_; intro v2 wa3 h3 h4 h5; have FA3 : Hid (Fr0 w4 wa3) := Lib.hid (lit_fr h4 (fun k hk => Nat.le_of_eq (Option.some.inj hk))); obtain ⟨A3, c3, rfl, hq3⟩ := madeL_of (B := w4.heap.size) (v := v2) (l := ls) h3; clear h3 h4 h5; obtain ⟨g3, rfl, hb3, hl3, hc3, hf3, hset3⟩ := hq3.set (k := k) (f := 0) hkn (by decide); rw [hget] at hc3; have hd3 : wa3.cell? ⟨g3, k * 3, none⟩ = some (.int .u16 (1000 + k)) := hc3; have he3 : wa3.frozen? ⟨g3, k * 3, none⟩ = false := hf3; have HQ3 := Lib.hid hq3; have HB3 := Lib.hid hb3; clear hq3 hb3 hset3 hl3 hc3; obtain ⟨gA, hgA, -, -, hcA, -, -⟩ := (M4.out.fr FA3.out (fun _ _ h => h)).set (k := o) (f := 0) hon (by decide); rw [hget] at hcA; have hdA : wa3.cell? ⟨gA, o * 3, none⟩ = some (.int .u16 (1000 + o)) := hcA; subst hgA; clear hcA))
      have hb3 := HB3.out
      obtain ⟨_, hgg, -, -, -, -, hset3⟩ := HQ3.out.set (k := k) (f := 0) hkn (by decide)
      obtain rfl := (Addr.mk.inj (Option.some.inj hgg)).1
      have MB3 := Lib.hid (M4.out.fr FA3.out (fun _ _ h => h))
      have HS3 := Lib.hid (hset3 ⟨1000 + o, k, 1 + k⟩ (.int .u16 (1000 + o)) (by rw [hget]; rfl))
      have HFS3 : Hid (Fr (fun q => q = g3) wa3 (wa3.setCell ⟨g3, k * 3, none⟩ (.int .u16 (1000 + o)))) := Lib.hid ((Fr.refl (fun q => q = g3) wa3).setCell (p := ⟨g3, k * 3, none⟩) (fun _ => rfl) _)
      have HNE3 : Hid (∀ q, (Value.slice (some ⟨gA, 0, none⟩) ls.length c).ownBlock = some q → ¬ q = g3) := Lib.hid (fun q e => by have := (M4.out.1.lt q e).2; omega)
      have hsz3 : w.heap.size ≤ g3 := by have := B4.out.size; omega
      clear hset3 hgg HB3 HQ3
      obtain ⟨va3, hva3⟩ : ∃ va, rightO (ls.set k ⟨1000 + o, k, 1 + k⟩) = va := ⟨_, rfl⟩
      rw [hva3] at HV3
      have qR := RightE (id := 0) HS3.out.2.1 (m := ls.length) (by rw [List.length_set]) (by omega) (by have := HS3.out.2.2; rwa [List.length_set] at this) (set_ok HOK.out ⟨⟨by simp only; omega, by simp only; omega⟩, ⟨by simp only; omega, by simp only; omega⟩, ⟨by simp only; omega, by simp only; omega⟩⟩) hva3
      clear hva3
      go_wp2_with fail
      refine Calls.mono qR ?_
      clear qR
      rintro e w5 ⟨rfl, FR3⟩
      have M5 := Lib.hid ((MB3.out.fr HFS3.out HNE3.out).fr (Fr.of_below FR3.out) (fun _ _ h => h))
      have B5 : Hid (Below w.heap.size w w5) := Lib.hid ((below_fr (B4.out.trans (FA3.out.below0.mono B4.out.size)) HFS3.out (Nat.le_trans B4.out.size FA3.out.size) (fun q e => by omega)).trans (FR3.out.mono (by have := Nat.le_trans B4.out.size FA3.out.size; simpa [World.setCell] using this)))
      clear MB3 HS3 HFS3 HNE3 FR3 FA3 M4 B4 hd3 hf3 he3
      obtain ⟨c30, c31⟩ := b3
      have h1' := HV1.out
      have h2' := HV2.out
      have h3' := HV3.out
      clear HV1 HV2 HV3 M5 hget HLS HOK
      have h3i : (k = o ∧ va3 = 0) ∨ ((k : Int) ≠ (o : Int) ∧ va3 = 8) := h3'.imp id (fun h => ⟨by omega, h.2⟩)
      clear h3'
      rcases h1' with ⟨p1, p2, rfl⟩ | ⟨p1 | p1, rfl⟩
      all_goals
        rcases h3i with ⟨rfl, rfl⟩ | ⟨s1, rfl⟩
        all_goals
          rcases h2' with ⟨u1, rfl⟩ | ⟨u1, u2, u3, rfl⟩ | ⟨u1, u2 | u2, rfl⟩
          all_goals
            go_wp2
            all_goals
              go_ret
              exact ⟨by first | rfl | (refine ret_bool ?_; simp_all; done) | (refine ret_bool ?_; simp_all; omega), B5.out⟩
end Go.Proofs.YtigknfkkegccgaaDoor.K
