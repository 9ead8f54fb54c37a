/- The walk of StuffCuts. -/
import Derived.Test.YtgaeifdnbajopaaBack
namespace Go.Proofs.Ytgaeifdnbajopaa.K
open Go.RowKit Go.Proofs.YtgaeifdnbajopaaW.PrintWords Go.Proofs.YtgaeifdnbajopaaW.PrintLast Go.Proofs.YtgaeifdnbajopaaW.PrintMore
attribute [local go_sem] min2_min min_two
set_option linter.unusedVariables false
set_option linter.unusedSimpArgs false
/-- A beginning of what is stuffed. -/
theorem unst_cut (l acc : List Int) (p : Nat) (hp : p ≤ (stf l).length) :
    (0 < p ∧ (stf l).getD (p - 1) 0 = 125 ∧ unst false ((stf l).take p) acc = ([], 2)) ∨
    ((p = 0 ∨ (stf l).getD (p - 1) 0 ≠ 125) ∧ ∃ m, m ≤ l.length ∧ unst false ((stf l).take p) acc = (acc ++ l.take m, 0)) := by
  induction l generalizing acc p with
  | nil =>
    have : p = 0 := by simpa [stf] using hp
    subst this
    right; exact ⟨.inl rfl, 0, by simp, by simp [stf, unst]⟩
  | cons x l ih =>
    have e : stf (x :: l) = stf1 x ++ stf l := by simp [stf]
    rw [e] at hp ⊢
    rw [List.length_append] at hp
    match p with
    | 0 => right; exact ⟨.inl rfl, 0, by simp, by simp [unst]⟩
    | 1 =>
      by_cases h1 : x = 126
      · subst h1
        left; exact ⟨by omega, rfl, rfl⟩
      · by_cases h2 : x = 125
        · subst h2
          left; exact ⟨by omega, rfl, rfl⟩
        · right
          have e1 : stf1 x = [x] := by simp [stf1, h1, h2]
          rw [e1]
          exact ⟨.inr (by simpa using h2), 1, by simp, by simp [unst, h1, h2]⟩
    | q + 2 =>
      have key : ∃ acc', ∀ r, unst false (stf1 x ++ r) acc = unst false r (acc ++ [x]) := ⟨acc, fun r => by
        have := unst_stf [x] r acc
        simpa [stf] using this⟩
      obtain ⟨_, key⟩ := key
      have hl : (stf1 x).length = 1 ∨ (stf1 x).length = 2 := by unfold stf1; split <;> (try split) <;> simp
      obtain ⟨j, hj⟩ : ∃ j, q + 2 = (stf1 x).length + j := ⟨q + 2 - (stf1 x).length, by omega⟩
      rw [hj, List.take_length_add_append, key]
      rcases ih (acc ++ [x]) j (by omega) with ⟨h0, h1, h2⟩ | ⟨h1, m, hm, h2⟩
      · left
        refine ⟨by omega, ?_, h2⟩
        rw [List.getD_eq_getElem?_getD, List.getElem?_append_right (by omega), show (stf1 x).length + j - 1 - (stf1 x).length = j - 1 by omega, ← List.getD_eq_getElem?_getD]
        exact h1
      · right
        refine ⟨.inr ?_, m + 1, by simp; omega, by rw [h2]; simp⟩
        rcases h1 with rfl | h1
        · rw [Nat.add_zero, List.getD_eq_getElem?_getD, List.getElem?_append_left (by omega)]
          have h22 : (stf1 x).length = 2 := by omega
          unfold stf1 at h22 ⊢
          split
          · simp
          · split
            · simp
            · rename_i ha hb; simp [ha, hb] at h22
        · by_cases hj0 : j = 0
          · subst hj0
            rw [Nat.add_zero, List.getD_eq_getElem?_getD, List.getElem?_append_left (by omega)]
            have h22 : (stf1 x).length = 2 := by omega
            unfold stf1 at h22 ⊢
            split
            · simp
            · split
              · simp
              · rename_i ha hb; simp [ha, hb] at h22
          · rw [List.getD_eq_getElem?_getD, List.getElem?_append_right (by omega), show (stf1 x).length + j - 1 - (stf1 x).length = j - 1 by omega, ← List.getD_eq_getElem?_getD]
            exact h1
theorem and_mask (x : Int) (k : Nat) (hk : k < 9223372036854775808) : ∃ m : Nat, m ≤ k ∧ bits .and .i64 x k = m := by
  have h2 : (BitVec.ofInt 64 (k : Int)).toNat = k := by
    rw [BitVec.ofInt_natCast, BitVec.toNat_ofNat]; exact Nat.mod_eq_of_lt (by omega)
  have h : (BitVec.ofInt 64 x &&& BitVec.ofInt 64 (k : Int)).toNat ≤ k := by
    rw [BitVec.toNat_and, h2]
    exact Nat.and_le_right
  refine ⟨_, h, ?_⟩
  show IntKind.i64.wrap ((BitVec.ofInt 64 x &&& BitVec.ofInt 64 (k : Int)).toNat : Int) = _
  rw [IntKind.wrap_i64]
  omega

set_option maxHeartbeats 4000000 in
set_option maxRecDepth 10000 in
theorem cuts_walk (A : Option Addr) (c : Nat) (zs : List Int) (hc : zs.length ≤ c) (at_ : Int) (w : World) (h0 : RowOf c8 1 w w.heap.size A zs) (b0 : ∀ x ∈ zs, 0 ≤ x ∧ x < 256) :
    Calls Try.prog 6 #[.slice A zs.length c, .int .i64 at_] w fun e w' => e = .returned (.bool true) ∧ Below w.heap.size w w' := by
  obtain ⟨n, hn, hn1, hn2⟩ := min_nat zs.length 1000
  have hcut := fun W => cut8 A zs.length c n hn1 hc W
  obtain ⟨l, hl⟩ : ∃ l, l = zs.take n := ⟨_, rfl⟩
  have hln : n = l.length := by rw [hl, List.length_take]; omega
  subst hln
  have HR := Lib.hid (hl ▸ h0.take_ l.length : RowOf c8 1 w w.heap.size A l)
  have HCC := Lib.hid (Nat.le_trans hn1 hc)
  clear h0 b0 hl hc
  have hmin : min (zs.length : Int) 1000 = (l.length : Int) := hn
  obtain ⟨mk, hmk, hbits⟩ := and_mask at_ 65535 (by omega)
  have hbits : bits .and .i64 at_ 65535 = (mk : Int) := hbits
  clear hn
  go_enter Try.func6, Try.ntmps6
  go_wp2_with fail
  refine (shown3 _).mono ?_
  rintro e w1 ⟨rfl, H1⟩
  go_wp2_with fail
  (with_reducible refine (StuffC (by omega) _ (HR.out.now H1.out)).mono ?_)
  rintro e w2 ⟨A2, c2, rfl, hc2, _, HX, HB2⟩
  have H2 := Lib.hid (H1.out.trans (HB2.out.mono H1.out.size))
  have hll := stf_len l
  obtain ⟨p, hp⟩ : ∃ p : Nat, p = mk % ((stf l).length + 1) := ⟨_, rfl⟩
  have hp1 : p ≤ (stf l).length := by have := Nat.mod_lt mk (show 0 < (stf l).length + 1 by omega); omega
  have hmod : (mk : Int) % ((stf l).length + 1 : Int) = (p : Int) := by rw [hp]; simp
  have hcut2 := fun W => cut8 A2 (stf l).length c2 p hp1 hc2 W
  have HC := Lib.hid (unst_cut l [] p hp1)
  have HP := Lib.hid (show p = ((stf l).take p).length by rw [List.length_take]; omega)
  clear HB2 H1 hmin hcut hp
  go_wp2_with fail
  simp only [hmod]
  have hcall := UnstuffC (A := A2) (c := c2) (l := (stf l).take p) (z := (unst false ((stf l).take p) []).1) (f := (unst false ((stf l).take p) []).2) (by rw [← HP.out]; omega) rfl w2 (HX.out.take_ p)
  rw [← HP.out] at hcall
  (with_reducible refine hcall.mono ?_)
  rintro e w3 ⟨A3, c3, rfl, hc3, _, HY, HB3⟩
  have H3 := Lib.hid (H2.out.trans (HB3.out.mono H2.out.size))
  have HX3 := Lib.hid (HX.out.now HB3.out)
  clear hcall HB3 HX H2 hcut2 hmod hbits
  rcases HC.out with ⟨hp0, h125, hu⟩ | ⟨hno, m, hm, hu⟩
  · rw [hu] at HY hc3 ⊢
    obtain ⟨q, rfl⟩ : ∃ q, p = q + 1 := ⟨p - 1, by omega⟩
    have hq : q < (stf l).length := by omega
    obtain ⟨ad, rfl, hb, hcell⟩ := HX3.out.num hq
    have h125 : (stf l).getD q 0 = 125 := h125
    rw [h125] at hcell
    clear h125 hu HC
    have hw : ((q + 1 : Nat) : Int) - 1 = (q : Int) := by omega
    go_wp2
    go_ret
    exact ⟨rfl, H3.out⟩
  · have hu : unst false ((stf l).take p) [] = (l.take m, 0) := by simpa using hu
    rw [hu] at HY hc3 ⊢
    have HY : Hid (RowOf c8 1 w3 w3.heap.size A3 (l.take m)) := HY
    have hml : (l.take m).length ≤ l.length := by rw [List.length_take]; omega
    have hcut3 := fun W => cut8 A l.length c (l.take m).length hml HCC.out W
    have hs1 := str_row (c := c3) (by omega) HY.out
    have hs2 := str_row (c := c) (by omega) ((HR.out.now H3.out).take_ m)
    have hs3 := fun n => str_row (c := c3) (by omega) (HY.out.drewN n)
    have hs4 := fun n => str_row (c := c) (by omega) (((HR.out.now H3.out).take_ m).drewN n)
    have hml' : ((l.take m).length : Int) ≤ (l.length : Int) := by omega
    clear hu HC HY
    generalize l.take m = y at *
    by_cases hp0 : p = 0
    · subst hp0
      clear hno HX3
      go_wp2
      go_quiet (fail)
      go_wp2
      go_ret
      exact ⟨rfl, pw_below_drewN H3.out _⟩
    · obtain ⟨q, rfl⟩ : ∃ q, p = q + 1 := ⟨p - 1, by omega⟩
      have hq : q < (stf l).length := by omega
      obtain ⟨ad, rfl, hb, hcell⟩ := HX3.out.num hq
      have h125 : (stf l).getD q 0 ≠ 125 := by
        rcases hno with h | h
        · omega
        · exact h
      generalize (stf l).getD q 0 = v at *
      have h125' : (v == 125) = false := by simp [h125]
      clear hno h125 hp0
      go_wp2
      go_quiet (fail)
      go_wp2
      go_ret
      exact ⟨rfl, pw_below_drewN H3.out _⟩
end Go.Proofs.Ytgaeifdnbajopaa.K
