/- The walk of CrcBursts. -/
import Derived.Test.YtimlkmblfjoigaaDoorCTwo
import Derived.SizedLaws
import Derived.OpenShut
namespace Go.Proofs.YtimlkmblfjoigaaDoor.K
open Go.RowKit
set_option linter.unusedVariables false
set_option linter.unusedSimpArgs false
attribute [local go_sem] min2_min min_two
attribute [local go_sem ↓] Go.wp_at_zero Go.wp_at_succ
theorem wf_u16 {x : Int} (h : (Lit.int .u16 x).wf = true) : 0 ≤ x ∧ x < 65536 := by
  have : 0 ≤ x ∧ x ≤ 65535 := by simpa [Lit.wf, IntKind.min, IntKind.max, IntKind.signed, IntKind.bits] using h
  omega
/-- Bit i of a number. -/
def tb (n i : Nat) : Bool := n / 2 ^ i % 2 == 1
/-- The bits of n below i, the lowest first. -/
def rv (n : Nat) : Nat → B16
  | 0 => 0#16
  | i + 1 => rv n i ^^^ (if tb n i then (0x8000#16 >>> i) else 0#16)
theorem shift_bit (i : Nat) (hi : i < 16) : gn i (0x8000#16 >>> i) = 0x8000#16 := by
  have : i = 0 ∨ i = 1 ∨ i = 2 ∨ i = 3 ∨ i = 4 ∨ i = 5 ∨ i = 6 ∨ i = 7 ∨ i = 8 ∨ i = 9 ∨ i = 10 ∨ i = 11 ∨ i = 12 ∨ i = 13 ∨ i = 14 ∨ i = 15 := by omega
  rcases this with h | h | h | h | h | h | h | h | h | h | h | h | h | h | h | h <;> subst h <;> decide
theorem bit_at (i k : Nat) (hi : i < 16) (hk : k < 16) : (0x8000#16 >>> i).getLsbD (15 - k) = decide (i = k) := by
  rw [BitVec.getLsbD_ushiftRight]
  have h : ∀ j : Fin 31, (0x8000#16).getLsbD j.val = decide (j.val = 15) := by decide
  rw [h ⟨i + (15 - k), by omega⟩]
  rw [Bool.eq_iff_iff]
  simp only [decide_eq_true_eq]
  omega
theorem rv_bit (n : Nat) : ∀ i, i ≤ 16 → ∀ k, k < 16 → (rv n i).getLsbD (15 - k) = (decide (k < i) && tb n k) := by
  intro i
  induction i with
  | zero => intro _ k _; simp [rv]
  | succ i ih =>
    intro hi k hk
    simp only [rv]
    rw [BitVec.getLsbD_xor, ih (by omega) k hk]
    have h2 : (if tb n i = true then 0x8000#16 >>> i else 0#16).getLsbD (15 - k) = (tb n i && decide (i = k)) := by
      cases htb : tb n i with
      | true => simp only [if_true, Bool.true_and]; exact bit_at i k (by omega) hk
      | false => simp
    rw [h2]
    by_cases h : i = k
    · subst h
      simp
    · rw [decide_eq_false h, Bool.and_false, Bool.xor_false]
      congr 1
      rw [Bool.eq_iff_iff]
      simp only [decide_eq_true_eq]
      omega
theorem rv_ne {n : Nat} (h0 : n ≠ 0) (h1 : n < 65536) : rv n 16 ≠ 0#16 := by
  intro h
  have key : ∀ k, k < 16 → tb n k = false := fun k hk => by
    have := rv_bit n 16 (by omega) k hk
    rw [h] at this
    simpa [hk] using this.symm
  have : ∀ k, k ≤ 16 → n % 2 ^ k = 0 := by
    intro k
    induction k with
    | zero => intro _; omega
    | succ k ih =>
      intro hk
      have h2 := ih (by omega)
      have h3 := key k (by omega)
      unfold tb at h3
      have h4 : n / 2 ^ k % 2 ≠ 1 := by simpa using h3
      rw [Nat.pow_succ, Nat.mod_mul, h2]
      have : n / 2 ^ k % 2 = 0 := by omega
      rw [this]; rfl
  have := this 16 (by omega)
  omega
/-- The bits of n are turned, from bit a on, i of them. -/
def burst (m : List Int) (a n : Nat) : Nat → List Int
  | 0 => m
  | i + 1 => if tb n i then turn (burst m a n i) (a + i) else burst m a n i
theorem burst_len (m : List Int) (a n : Nat) : ∀ i, (burst m a n i).length = m.length := by
  intro i
  induction i with
  | zero => rfl
  | succ i ih =>
    simp only [burst]
    split
    · rw [turn_len, ih]
    · exact ih
theorem burst_inB {m : List Int} {a n : Nat} (h : InB m) (ha : a + 16 ≤ 8 * m.length) : ∀ i, i ≤ 16 → InB (burst m a n i) := by
  intro i
  induction i with
  | zero => intro _; exact h
  | succ i ih =>
    intro hi
    simp only [burst]
    split
    · exact turn_inB (ih (by omega)) (by rw [burst_len]; omega)
    · exact ih (by omega)
theorem burst_crc {m : List Int} {a n : Nat} (h : InB m) (ha : a + 16 ≤ 8 * m.length) : ∀ i, i ≤ 16 → crc (burst m a n i) = crc m ^^^ gn (8 * m.length - a) (rv n i) := by
  intro i
  induction i with
  | zero => intro _; simp only [burst, rv]; rw [gn_zero, BitVec.xor_zero]
  | succ i ih =>
    intro hi
    simp only [burst, rv]
    cases htb : tb n i with
    | false => simp only [Bool.false_eq_true, if_false, BitVec.xor_zero]; exact ih (by omega)
    | true =>
      simp only [if_true]
      rw [turn_crc (burst_inB h ha i (by omega)) (by rw [burst_len]; omega), ih (by omega), burst_len, gn_xor, BitVec.xor_assoc]
      congr 2
      unfold eb
      have h3 := gn_add i (8 * m.length - (a + i)) (0x8000#16 >>> i)
      rw [shift_bit i (by omega)] at h3
      rw [← h3]
      congr 1
      omega
theorem burst_valid {m : List Int} {a n : Nat} (h : InB m) (h0 : crc m = 0#16) (ha : a + 16 ≤ 8 * m.length) (hn : n ≠ 0) (hn1 : n < 65536) : valid (burst m a n 16) = false := by
  rw [valid_iff (burst_inB h ha 16 (by omega)) (by rw [burst_len]; omega), burst_crc h ha 16 (by omega), h0, BitVec.zero_xor]
  exact decide_eq_false (fun e => rv_ne hn hn1 (gn_inj0 _ _ e))
set_option maxHeartbeats 8000000 in
set_option maxRecDepth 10000 in
theorem cburst_walk (A : Option Addr) (c : Nat) (zs : List Int) (hc : zs.length ≤ c) (hcm : c ≤ 9223372036854775807) (a1 by_ : Int) (hby : 0 ≤ by_ ∧ by_ < 65536) (w : World) (hT : Turns w) (h0 : RowOf c8 1 w w.heap.size A zs) (ha : ∀ ad, A = some ad → ad.block < w.heap.size) (b0 : InB zs) :
    Calls Tryd.prog 5 #[.slice A zs.length c, .int .i64 a1, .int .u16 by_] w fun e w' => e = .returned (.bool true) ∧ Below w.heap.size w w' := by
  obtain ⟨n, hn, hn1, hn2⟩ := min_nat zs.length 100
  have hcut := fun W => bcut_hi A zs.length c n (by omega) W
  obtain ⟨l, hl⟩ : ∃ l, l = zs.take n := ⟨_, rfl⟩
  have hln : n = l.length := by rw [hl, List.length_take]; omega
  subst hln
  have HR := Lib.hid (hl ▸ h0.take_ l.length : RowOf c8 1 w w.heap.size A l)
  have HI := Lib.hid (hl ▸ b0.take_ l.length : InB l)
  have HA := Lib.hid ha
  clear h0 b0 hl hc ha
  have hmin : min (zs.length : Int) 100 = (l.length : Int) := hn
  have HTB : Hid (∀ w' : World, Below w.heap.size w w' → Turns w') := Lib.hid (fun w' b => hT.below b hT.lt)
  obtain ⟨m, hS⟩ := sealed_of HI.out
  obtain ⟨M, hM⟩ : ∃ M, l.length + 2 = M := ⟨_, rfl⟩
  rw [hM] at hS
  have HS := Lib.hid hS
  obtain ⟨N, hN⟩ : ∃ N, N = 8 * M := ⟨_, rfl⟩
  obtain ⟨mk, hmk, hbits⟩ := and_mask a1 65535 (by omega)
  have hbits : bits .and .i64 a1 65535 = (mk : Int) := hbits
  obtain ⟨N15, hN15⟩ : ∃ N15, N15 = N - 15 := ⟨_, rfl⟩
  obtain ⟨j, hj⟩ : ∃ j : Nat, j = mk % N15 := ⟨_, rfl⟩
  have hjN : j + 16 ≤ N := by have := Nat.mod_lt mk (show 0 < N15 by omega); omega
  have hmod : (mk : Int) % (N15 : Int) = (j : Int) := by rw [hj]; simp
  have hN0 : (N15 : Int) ≠ 0 := by omega
  have t15 : (N : Int) - 15 = (N15 : Int) := by omega
  have t8 : IntKind.i64.wrap (8 * (M : Int)) = (N : Int) := by rw [IntKind.wrap_i64]; omega
  have t8b : 8 * (M : Int) = (N : Int) := by omega
  have HM := Lib.hid hM
  have HNN := Lib.hid hN
  have HJN := Lib.hid hjN
  have hM300 : M ≤ 102 := by omega
  have hv0 : valid m = true := by rw [valid_iff HS.out.inB (by rw [HS.out.len]; omega), HS.out.zero]; rfl
  have HV0 := Lib.hid hv0
  clear hS hmk hj hM hN hn hn1 hv0 hN15
  go_enter Tryd.func5, Tryd.ntmps5
  go_wp2_with fail
  refine (shown2_walk hT).mono ?_
  rintro e w1 ⟨rfl, H1⟩
  go_wp2_with fail
  refine Calls.mono (CAppendE rfl HM.out HS.out.made (Same.refl w1) (HTB.out _ H1.out) (HR.out.now H1.out) (fun ad e => Nat.lt_of_lt_of_le (HA.out ad e) H1.out.size) HI.out (by have := HM.out; omega)) ?_
  rintro e w2 ⟨A2, c2, rfl, H2, F2⟩
  have B2 := Lib.hid (H1.out.trans (F2.out.mono H1.out.size))
  have hw1 := H1.out.size
  have hT2 := HTB.out _ B2.out
  go_wp2_with fail
  refine Calls.mono (CValidS (w := w2) HS.out.len HV0.out (Same.refl w2) hT2 H2.out HS.out.inB (by omega)) ?_
  rintro e w3 ⟨rfl, H3⟩
  have HP3 := Lib.hid (H2.out.below H3.out (Nat.le_refl _))
  have HB3 := Lib.hid (B2.out.trans (H3.out.mono B2.out.size))
  clear H2 F2 H1 H3 B2 hT2
  by_cases hz : by_ = 0
  · subst hz
    go_wp2
    go_ret
    exact ⟨rfl, HB3.out⟩
  · obtain ⟨nb, rfl⟩ : ∃ nb : Nat, by_ = (nb : Int) := ⟨by_.toNat, by omega⟩
    have HNB : Hid (nb ≠ 0 ∧ nb < 65536) := Lib.hid ⟨by omega, by omega⟩
    have hnz : ((nb : Int) == 0) = false := by simpa using hz
    have HBV := Lib.hid (burst_valid (m := m) (a := j) HS.out.inB HS.out.zero (by rw [HS.out.len, ← HNN.out]; exact HJN.out) HNB.out.1 HNB.out.2)
    have HBI : Hid (∀ i, i ≤ 16 → InB (burst m j nb i)) := Lib.hid (burst_inB HS.out.inB (by rw [HS.out.len, ← HNN.out]; exact HJN.out))
    go_wp2
    simp only [hmod]
    clear hmod hbits t15 t8 t8b hN0 hnz hz hby
    go_loopw [10] (fun i wr => ∃ (k : Nat) (A' : Option Addr), i = .int .i64 k ∧ k ≤ 16 ∧ A' = A2 ∧ Made w1.heap.size A' c2 (burst m j nb k) wr ∧ Below w.heap.size w wr) (fun i _ => 16 - (intOf i).toNat)
    case atStart => exact ⟨0, _, rfl, by omega, rfl, HP3.out, HB3.out⟩
    case round =>
      obtain ⟨k, A', rfl, hk, rfl, hmd, hbl⟩ := hrel
      have HMD := Lib.hid hmd
      have HBL := Lib.hid hbl
      clear hmd hbl
      by_cases hlt : k < 16
      · have hbs : burst m j nb (k + 1) = if tb nb k then turn (burst m j nb k) (j + k) else burst m j nb k := rfl
        have hand : bits .and .u16 ((nb : Int) / 2 ^ k) 1 = ((nb / 2 ^ k % 2 : Nat) : Int) := by
          have hd : nb / 2 ^ k < 65536 := Nat.lt_of_le_of_lt (Nat.div_le_self _ _) HNB.out.2
          have h1 : ((nb : Int) / 2 ^ k) = ((nb / 2 ^ k : Nat) : Int) := by rw [Int.natCast_ediv]; simp
          rw [h1, show (1 : Int) = ((1 : Nat) : Int) from rfl, u16_and_nat _ _ hd (by omega), Nat.and_one_is_mod]
        have hk0 : (0 : Int) ≤ (k : Int) := by omega
        have hk16 : (k : Int) ≤ 16 := by omega
        cases htb : tb nb k with
        | false =>
          have hm0 : ((nb / 2 ^ k % 2 : Nat) : Int) = 0 := by unfold tb at htb; have : nb / 2 ^ k % 2 ≠ 1 := by simpa using htb
                                                              omega
          rw [hm0] at hand
          rw [htb] at hbs
          have HBS := Lib.hid hbs
          clear hbs hm0 htb
          go_wp2
          go_roundw
          case rel => exact ⟨k + 1, _, by go_num, by omega, rfl, by rw [HBS.out]; exact HMD.out, HBL.out⟩
          case measure => simp [intOf]; omega
        | true =>
          have hm1 : ((nb / 2 ^ k % 2 : Nat) : Int) = 1 := by unfold tb at htb; have : nb / 2 ^ k % 2 = 1 := by simpa using htb
                                                              omega
          rw [hm1] at hand
          rw [htb] at hbs
          obtain ⟨b, hb⟩ : ∃ b, b = j + k := ⟨_, rfl⟩
          rw [← hb] at hbs
          have HBS := Lib.hid hbs
          obtain ⟨b1, hb1⟩ : ∃ b1, b1 = b / 8 := ⟨_, rfl⟩
          have hNN := HNN.out
          have hb1M : b1 < M := by omega
          have hbl2 : b / 8 < (burst m j nb k).length := by rw [burst_len, HS.out.len]; omega
          obtain ⟨g, e, hg1, hg2, hcell, hfroz, hput⟩ := HMD.out.turn hbl2
          subst e
          rw [← hb1] at hcell hfroz hput
          obtain ⟨y, hy⟩ : ∃ y, y = bits .xor .u8 ((burst m j nb k).getD b1 0) ((128 : Int) / 2 ^ (b % 8)) := ⟨_, rfl⟩
          rw [← hy] at hput
          have HP := Lib.hid hput
          have HB := Lib.hid (set_below (i := b1) (v := .int .u8 y) HBL.out (by omega : w.heap.size ≤ g))
          have hjk : (j : Int) + (k : Int) = (b : Int) := by omega
          have db : (b : Int) / 8 = (b1 : Int) := by omega
          have rb : (b : Int) % 8 = ((b % 8 : Nat) : Int) := by omega
          have rb8 : b % 8 < 8 := Nat.mod_lt _ (by omega)
          generalize (burst m j nb k).getD b1 0 = x at *
          generalize b % 8 = r at *
          have hy' := hy.symm
          clear hput hbs hm1 htb hy hbl2 hNN hb hb1
          go_wp2
          go_region
          go_wp2
          go_roundw
          case rel => exact ⟨k + 1, _, by go_num, by omega, rfl, by rw [HBS.out]; exact HP.out, below_dr HB.out⟩
          case measure => simp [intOf]; omega
      · obtain rfl : k = 16 := by omega
        have HTr := HTB.out _ HBL.out
        go_wp2_with fail
        refine Calls.mono (CValidS (w := wr) (by rw [burst_len]; exact HS.out.len) HBV.out ⟨rfl, rfl, rfl, rfl⟩ HTr HMD.out (HBI.out 16 (by omega)) (by omega)) ?_
        rintro e w6 ⟨rfl, H6⟩
        go_wp2
        go_ret
        exact ⟨rfl, HBL.out.trans (H6.out.mono HBL.out.size)⟩
end Go.Proofs.YtimlkmblfjoigaaDoor.K
