/- The walk of ResyncCounts. -/
import Derived.Test.YtkihoonjekccgaaDoorG8
import Derived.Test.YtkihoonjekccgaaDoorG2
namespace Go.Proofs.YtkihoonjekccgaaDoor.K
open Go.RowKit
set_option linter.unusedVariables false
set_option linter.unusedSimpArgs false
attribute [local go_sem] min2_min min_two
theorem pcF_bd : ∀ (l : List Int) (p : Pc), (pcF l p).n ≤ p.n + l.length ∧ (pcF l p).pieces ≤ p.pieces + l.length ∧ (pcF l p).long ≤ p.long + l.length := by
  intro l
  induction l with
  | nil => intro p; simp [pcF]
  | cons c l ih =>
    intro p
    have h := ih (pcS c p)
    have hs : (pcS c p).n ≤ p.n + 1 ∧ (pcS c p).pieces ≤ p.pieces + 1 ∧ (pcS c p).long ≤ p.long + 1 := by
      unfold pcS
      split
      · simp
      · refine ⟨by simp, ?_, ?_⟩ <;> dsimp only <;> split <;> omega
    simp only [pcF, List.length_cons]
    omega
theorem pcF_take (l : List Int) (p : Pc) (k : Nat) (h : k < l.length) : pcF (l.take (k + 1)) p = pcS (l.getD k 0) (pcF (l.take k) p) := by
  rw [List.take_succ_eq_append_getElem h, pcF_app, List.getD_eq_getElem?_getD, List.getElem?_eq_getElem h]
  rfl
theorem sumI_take (l : List Int) (k : Nat) (h : k < l.length) : sumI (l.take (k + 1)) = sumI (l.take k) + l.getD k 0 := by
  rw [List.take_succ_eq_append_getElem h, sumI_app, List.getD_eq_getElem?_getD, List.getElem?_eq_getElem h]
  simp [sumI]
theorem sumI_bd {l : List Int} {K : Int} (h : ∀ x ∈ l, 0 ≤ x ∧ x ≤ K) : 0 ≤ sumI l ∧ sumI l ≤ K * l.length := by
  induction l with
  | nil => simp [sumI]
  | cons x l ih =>
    have h1 := ih (fun y hy => h y (by simp [hy]))
    have h2 := h x (by simp)
    have e : K * ((x :: l).length : Int) = K * (l.length : Int) + K := by
      rw [List.length_cons, Int.natCast_add, Int.mul_add]; simp
    simp only [sumI]
    rw [e]
    omega
theorem feed_len : ∀ (l : List Int) (s : Ds), (feedD l s).2.length ≤ l.length := by
  intro l
  induction l with
  | nil => intro s; simp [feedD]
  | cons c l ih =>
    intro s
    have h := ih (stepD c s).1
    have h1 : (stepD c s).2.length ≤ 1 := by
      unfold stepD endD
      split
      · split
        · simp
        · split <;> simp
      · simp
    simp only [feedD, List.length_append, List.length_cons]
    omega
theorem pcF_end (l : List Int) (p : Pc) : (pcF (l ++ [126]) p).n = 0 := by rw [pcF_app]; rfl
set_option maxHeartbeats 1000000 in
set_option maxRecDepth 10000 in
theorem rcounts_walk (A : Option Addr) (c : Nat) (zs : List Int) (h0 : zs.length ≤ c) (hc : c ≤ 9223372036854775807) (w : World) (hT : Turns w) (hR : RowOf c8 1 w w.heap.size A zs) (hi : InB zs) :
    Calls Tryd.prog 7 #[.slice A zs.length c] w fun e w' => e = .returned (.bool true) ∧ Below w.heap.size w w' := by
  have HTB : Hid (∀ w' : World, Below w.heap.size w w' → Turns w') := Lib.hid (fun w' b => hT.below b hT.lt)
  have HT := Lib.hid hT
  obtain ⟨n, hn, hn1, hn2⟩ := min_nat zs.length 2000
  have hcut := fun W => bcut_hi A zs.length c n (by omega) W
  have hmin : min (zs.length : Int) 2000 = (n : Int) := hn
  obtain ⟨l, hl⟩ : ∃ l, l = zs.take n := ⟨_, rfl⟩
  have hln : n = l.length := by rw [hl, List.length_take]; omega
  subst hln
  have HR := Lib.hid (hl ▸ hR.take_ l.length : RowOf c8 1 w w.heap.size A l)
  have HI := Lib.hid (hl ▸ hi.take_ l.length : InB l)
  obtain ⟨L, hL⟩ : ∃ L, L = l ++ [126] := ⟨_, rfl⟩
  have HLL := Lib.hid hL
  have HLI : Hid (InB L) := Lib.hid (fun x hx => by
    rw [hL] at hx
    rcases List.mem_append.1 hx with hx | hx
    · exact HI.out x hx
    · rw [List.mem_singleton] at hx; subst hx; omega)
  have hLn : L.length ≤ 2001 := by rw [hL]; simp; omega
  have HPE : Hid ((pcF L ⟨0, 0, 0⟩).n = 0) := Lib.hid (hL ▸ pcF_end l _)
  clear hT hR hi hl hn hL h0 hc
  go_enter Tryd.func7, Tryd.ntmps7
  go_wp2_with fail
  refine Calls.mono (shown5_walk HT.out) ?_
  rintro e w1 ⟨rfl, H1⟩
  have hs1 := H1.out.size
  have HR1 := Lib.hid (HR.out.now H1.out)
  go_wp2_with (first | (at_builtin; refine appR (c := c8) rfl _ _ _ rfl 5 (.int .u8 0) 1 1 Tryd.underlying32 info_u8 rfl (by omega) (by omega) (fun _ => rfl) (fun y u hu => by simp at hu; subst hu; rfl) w1.heap.size w1.heap.size _ [] l A c rfl rfl (RowOf.below HR1.out ((Below.refl _ w1).alloc (Nat.le_refl _) _)) (World.ownsRow_lit w1 #[] 0 (Nat.le_refl _) (by decide) rfl) (by simp) (by simp only [List.length_nil]; omega) ?_; intro v6 w6 h3 h4 h5; have F6 : Hid (Fr0 w1 w6) := Lib.hid (lit_fr h4 (fun k hk => Nat.le_of_eq (Option.some.inj hk))); have O6 : Hid (w6.ownsRow w1.heap.size 5 1 v6 l.length (nums .u8 l)) := Lib.hid (by rw [nums_flat]; exact h3); have hs6 := F6.out.size; clear h3 h4 h5) | (at_builtin; refine app1 rfl _ _ _ rfl 5 (.int .u8 0) 1 1 Tryd.underlying32 info_u8 rfl (by omega) (by omega) w1.heap.size v6 l.length (nums .u8 l) [.int .u8 126] rfl rfl rfl (fun u hu => by obtain rfl := List.mem_singleton.1 hu; rfl) O6.out hs6 (by omega) ?_; intro v8 w8 h3 h4 h5; have F8 : Hid (Fr0 w1 w8) := Lib.hid (F6.out.trans h4 (fun j hj e => by have := (O6.out.lt j e).1; omega)); obtain ⟨A8, c8', rfl, hm8⟩ := made_of (B := w1.heap.size) (v := v8) (l := L) (by rw [HLL.out, List.length_append, nums_snoc]; exact h3); have M8 := Lib.hid hm8; clear h3 h4 h5 hm8))
  have B8 := Lib.hid (fr0_below H1.out F8.out (Nat.le_refl _))
  clear F6 O6 F8 HR1 HR H1 hcut hmin
  generalize hLL : L.length = N at *
  have HN := Lib.hid hLL
  clear hLL
  go_loop [4, 5, 6, 7] (fun p lo m i => ∃ (k : Nat), i = .int .i64 k ∧ k ≤ N ∧ p = .int .i64 ((pcF (L.take k) ⟨0, 0, 0⟩).pieces : Int) ∧ lo = .int .i64 ((pcF (L.take k) ⟨0, 0, 0⟩).long : Int) ∧ m = .int .i64 ((pcF (L.take k) ⟨0, 0, 0⟩).n : Int)) (fun _ _ _ i => N - (intOf i).toNat)
  case atStart => exact ⟨0, rfl, by omega, rfl, rfl, rfl⟩
  case round =>
    obtain ⟨k, rfl, hk, rfl, rfl, rfl⟩ := hrel
    have hbd := pcF_bd (L.take k) ⟨0, 0, 0⟩
    rw [List.length_take] at hbd
    by_cases hgo : k < N
    · have HFT := Lib.hid (pcF_take L ⟨0, 0, 0⟩ k (by rw [HN.out]; exact hgo))
      obtain ⟨ad, rfl, _, hcell⟩ := M8.out.2.1.num (i := k) (by rw [HN.out]; exact hgo)
      obtain ⟨⟨pn, pp, pl⟩, hP⟩ : ∃ P, pcF (L.take k) ⟨0, 0, 0⟩ = P := ⟨_, rfl⟩
      rw [hP] at hbd HFT ⊢
      simp only at hbd ⊢
      obtain ⟨hb1, hb2, hb3⟩ := hbd
      have hb1' : pn ≤ 3000 := by omega
      have hb2' : pp ≤ 3000 := by omega
      have hb3' : pl ≤ 3000 := by omega
      clear hP hb1 hb2 hb3
      generalize L.getD k 0 = x at *
      by_cases h126 : x = 126
      · subst h126
        have HS : Hid (pcF (L.take (k + 1)) ⟨0, 0, 0⟩ = ⟨0, pp + (if pn > 0 then 1 else 0), pl + (if pn > 62 then 1 else 0)⟩) := Lib.hid (by rw [HFT.out]; rfl)
        rcases (by omega : pn = 0 ∨ (0 < pn ∧ pn ≤ 62) ∨ 62 < pn) with h | ⟨h, h'⟩ | h
        all_goals
          go_wp2
          go_round
          case rel => exact ⟨k + 1, by go_num, by omega, by rw [HS.out]; simp only; (first | rw [if_pos (by omega)] | rw [if_neg (by omega)]); (first | rfl | go_num), by rw [HS.out]; simp only; (first | rw [if_pos (by omega)] | rw [if_neg (by omega)]); (first | rfl | go_num), by rw [HS.out]; rfl⟩
          case measure => simp [intOf]; omega
      · have HS : Hid (pcF (L.take (k + 1)) ⟨0, 0, 0⟩ = ⟨pn + 1, pp, pl⟩) := Lib.hid (by rw [HFT.out]; unfold pcS; rw [if_pos h126])
        have hx1 : (x == 126) = false := by simpa using h126
        have hx2 : (x != 126) = true := by simpa using h126
        clear h126
        go_wp2
        go_round
        case rel => exact ⟨k + 1, by go_num, by omega, by rw [HS.out], by rw [HS.out], by rw [HS.out]; go_num⟩
        case measure => simp [intOf]; omega
    · obtain rfl : k = N := by omega
      have htk : L.take k = L := by rw [← HN.out, List.take_length]
      have hrel := rel_feed L rel0
      have hok := feed_ok L d0_ok (by omega) HLI.out
      obtain ⟨⟨⟨sn, sh, so⟩, fs⟩, hF⟩ : ∃ SF, feedD L d0 = SF := ⟨_, rfl⟩
      have hfl := feed_len L d0
      rw [hF] at hrel hok hfl
      rw [HN.out] at hok hfl
      simp only at hrel hok hfl
      rw [htk] at hbd ⊢
      have hpe := HPE.out
      obtain ⟨⟨pn, pp, pl⟩, hP⟩ : ∃ P, pcF L ⟨0, 0, 0⟩ = P := ⟨_, rfl⟩
      rw [hP] at hpe hrel hbd ⊢
      simp only at hpe hbd ⊢
      subst hpe
      have hsum := hrel.sum
      have hrng := hrel.rng
      have hok0 := hrel.ok
      have hl12 := hrel.len
      have hcnt := hok.cnt
      simp only at hsum hrng hok0 hl12 hcnt
      simp at hsum hrng
      obtain ⟨fl, hfl2⟩ : ∃ fl, fs.length = fl := ⟨_, rfl⟩
      rw [hfl2] at hsum hfl
      obtain ⟨a0, a1, a2, a3, a4, a5, a6, a7, a8, a9, a10, a11, rfl⟩ := twelve hl12
      have e0 : a0 = 0 := hok0
      have e10 : a10 = (pl : Int) := hrng
      subst e0 e10
      have HF := Lib.hid hF
      have HFL := Lib.hid hfl2
      have HCNT := Lib.hid hcnt
      have HSUM := Lib.hid hsum
      obtain ⟨W9, hW9⟩ : ∃ W9, w8.alloc (.cells Tryd.zeroCells30 30) = W9 := ⟨_, rfl⟩
      have HG9 : Hid (DecB W9 w8.heap.size d0) := Lib.hid (hW9 ▸ dec_zero w8)
      have F9 : Hid (Fr0 w8 W9) := Lib.hid (hW9 ▸ (Fr.refl (fun _ => False) w8).alloc _)
      have B9 := Lib.hid (fr0_below B8.out F9.out (Nat.le_refl _))
      have R9 := Lib.hid (M8.out.2.1.now F9.out.below0)
      have hl9 : ∀ ad, A8 = some ad → ad.block < w8.heap.size := fun ad e => (made_lt M8.out ad e).2
      have HL9 := Lib.hid hl9
      have hsW9 : W9.heap.size = w8.heap.size + 1 := by rw [← hW9]; simp
      have hb8 := B8.out.size
      have hpp : pp ≤ 3000 := by omega
      have hpl : pl ≤ 3000 := by omega
      clear hok hcnt hrel hF hfl2 hsum hrng hok0 hl12 hP htk hbd hl9
      go_wp2_with fail
      clear hW9
      refine Calls.mono (FeedE (w := W9) (K := 0) HN.out HF.out HFL.out HG9.out d0_ok (by decide) (HTB.out _ B9.out) HLI.out (by omega) R9.out (fun ad e => by have := HL9.out ad e; omega)) ?_
      rintro e w3 ⟨A3, c3, xs3, rfl, O3, X3, G3, F3⟩
      have B3 := Lib.hid (fr1_below B9.out F3.out (by omega) (Nat.le_refl _))
      clear O3 X3 F3 R9 HG9 B9
      go_wp2_with fail
      refine Calls.mono (errC G3.out) ?_
      rintro e w4 ⟨rfl, D4⟩
      have B4 := Lib.hid (B3.out.trans (D4.out.mono B3.out.size))
      clear D4 B3 G3
      go_wp2
      obtain ⟨W5, hW5⟩ : ∃ W5, w4.alloc (.cells #[.int .i64 0, .int .i64 a1, .int .i64 a2, .int .i64 a3, .int .i64 a4, .int .i64 a5, .int .i64 a6, .int .i64 a7, .int .i64 a8, .int .i64 a9, .int .i64 pl, .int .i64 a11] 25) = W5 := ⟨_, rfl⟩
      have B5 : Hid (Below w.heap.size w W5) := Lib.hid (hW5 ▸ B4.out.alloc B4.out.size _)
      have K5 : Hid (Blk W5 w4.heap.size 25 #[.int .i64 0, .int .i64 a1, .int .i64 a2, .int .i64 a3, .int .i64 a4, .int .i64 a5, .int .i64 a6, .int .i64 a7, .int .i64 a8, .int .i64 a9, .int .i64 pl, .int .i64 a11]) := Lib.hid (hW5 ▸ Blk.new w4 _ _)
      rw [hW5]
      clear hW5 B4
      generalize w4.heap.size = gx at *
      obtain ⟨sl, hsl⟩ : ∃ sl : List Int, [0, a1, a2, a3, a4, a5, a6, a7, a8, a9, (pl : Int), a11] = sl := ⟨_, rfl⟩
      have HSL := Lib.hid hsl
      have HS12 : Hid (sl.length = 12) := Lib.hid (by rw [← hsl]; rfl)
      have HKC : Hid (∀ k < 12, W5.cell? ⟨gx, k, none⟩ = some (.int .i64 (sl.getD k 0))) := Lib.hid (fun k hk => by
        rw [K5.out.cell k, ← hsl]
        match k, hk with
        | 0, _ | 1, _ | 2, _ | 3, _ | 4, _ | 5, _ | 6, _ | 7, _ | 8, _ | 9, _ | 10, _ | 11, _ => rfl)
      have HCN : Hid (∀ x ∈ sl, 0 ≤ x ∧ x ≤ 2001) := Lib.hid (fun x hx => by rw [← hsl] at hx; have := HCNT.out x hx; omega)
      have HSS : Hid (sumI sl + (fl : Int) = (pp : Int)) := Lib.hid (hsl ▸ HSUM.out)
      clear hsl
      go_loop [9, 11] (fun s i => ∃ (k : Nat), i = .int .i64 k ∧ k ≤ 12 ∧ s = .int .i64 ((fl : Int) + sumI (sl.take k))) (fun _ i => 12 - (intOf i).toNat)
      case atStart => exact ⟨0, rfl, by omega, by simp [sumI]⟩
      case round =>
        obtain ⟨k, rfl, hk, rfl⟩ := hrel
        by_cases hgo : k < 12
        · have HT := Lib.hid (sumI_take sl k (by rw [HS12.out]; exact hgo))
          have hsb := sumI_bd (l := sl.take k) (K := 2001) (fun x hx => HCN.out x (List.mem_of_mem_take hx))
          have hgb := getD_bd HCN.out (by decide) k
          have hcell := HKC.out k hgo
          rw [List.length_take] at hsb
          generalize sl.getD k 0 = x at *
          generalize sumI (sl.take k) = T at *
          obtain ⟨hs1, hs2⟩ := hsb
          obtain ⟨hg1, hg2⟩ := hgb
          have hs3 : T ≤ 30000 := by omega
          have i1 : (0 : Int) ≤ (k : Int) := by omega
          have i2 : (k : Int) < 12 := by omega
          have hu := Tryd.underlying25
          clear hs2
          go_wp2
          go_round
          case rel => exact ⟨k + 1, by go_num, by omega, by rw [HT.out]; congr 1; omega⟩
          case measure => simp [intOf]; omega
        · obtain rfl : k = 12 := by omega
          have ht : sl.take 12 = sl := by rw [← HS12.out, List.take_length]
          rw [ht]
          have k0 : W5.cell? ⟨gx, 0, none⟩ = some (.int .i64 0) := K5.out.cell 0
          have k10 : W5.cell? ⟨gx, 10, none⟩ = some (.int .i64 pl) := K5.out.cell 10
          have hss := HSS.out
          generalize sumI sl = T at *
          have e1 : ((fl : Int) + T == (pp : Int)) = true := by rw [beq_iff_eq]; omega
          clear ht hss
          go_wp2
          go_ret
          exact ⟨rfl, B5.out⟩
end Go.Proofs.YtkihoonjekccgaaDoor.K
