/- The walk of CrcTwo. -/
import Derived.Test.YtimlkmblfjoigaaDoorCw
namespace Go.Proofs.YtimlkmblfjoigaaDoor.K
open Go.RowKit
set_option linter.unusedVariables false
set_option linter.unusedSimpArgs false
attribute [local go_sem] min2_min min_two
attribute [local go_sem ↓] Go.wp_at_zero Go.wp_at_succ
/-- Bit k of bytes is turned. -/
def turn (m : List Int) (k : Nat) : List Int := m.set (k / 8) (bits .xor .u8 (m.getD (k / 8) 0) ((128 : Int) / 2 ^ (k % 8)))
theorem turn_len (m : List Int) (k : Nat) : (turn m k).length = m.length := by unfold turn; rw [List.length_set]
theorem half_bit (r : Nat) (hr : r < 8) : 0 ≤ (128 : Int) / 2 ^ r ∧ (128 : Int) / 2 ^ r < 256 := by
  have : r = 0 ∨ r = 1 ∨ r = 2 ∨ r = 3 ∨ r = 4 ∨ r = 5 ∨ r = 6 ∨ r = 7 := by omega
  rcases this with h | h | h | h | h | h | h | h <;> subst h <;> decide
theorem turn_byte {m : List Int} {k : Nat} (h : InB m) (hk : k / 8 < m.length) : 0 ≤ bits .xor .u8 (m.getD (k / 8) 0) ((128 : Int) / 2 ^ (k % 8)) ∧ bits .xor .u8 (m.getD (k / 8) 0) ((128 : Int) / 2 ^ (k % 8)) < 256 := by
  rw [List.getD_eq_getElem?_getD, List.getElem?_eq_getElem hk]
  exact xor_inB _ _ (h _ (List.getElem_mem hk)) (half_bit _ (Nat.mod_lt _ (by omega)))
theorem turn_inB {m : List Int} {k : Nat} (h : InB m) (hk : k / 8 < m.length) : InB (turn m k) := inB_set h (turn_byte h hk)
theorem turn_crc {m : List Int} {k : Nat} (h : InB m) (hk : k < 8 * m.length) : crc (turn m k) = crc m ^^^ eb (8 * m.length - k) := by
  have hq : k / 8 < m.length := by omega
  unfold turn
  rw [List.getD_eq_getElem?_getD, List.getElem?_eq_getElem hq]
  have := crc_bit (q := k / 8) (r := k % 8) hq (Nat.mod_lt _ (by omega)) h
  rw [show 8 * (k / 8) + k % 8 = k by omega] at this
  exact this
/-- The byte that is turned, as it is read. -/
theorem Made.turn {B c k : Nat} {A : Option Addr} {l : List Int} {w : World} (h : Made B A c l w) (hk : k / 8 < l.length) :
    ∃ g, A = some ⟨g, 0, none⟩ ∧ B ≤ g ∧ g < w.heap.size ∧ w.cell? ⟨g, k / 8, none⟩ = some (.int .u8 (l.getD (k / 8) 0)) ∧ w.frozen? ⟨g, k / 8, none⟩ = false ∧
      Made B (some ⟨g, 0, none⟩) c (turn l k) (w.setCell ⟨g, k / 8, none⟩ (.int .u8 (bits .xor .u8 (l.getD (k / 8) 0) ((128 : Int) / 2 ^ (k % 8))))) := by
  obtain ⟨g, h1, h2, h3, h4, h5, h6⟩ := h.put hk
  refine ⟨g, h1, h2, h3, ?_, h5, h6 _⟩
  rw [h4, List.getD_eq_getElem?_getD, List.getElem?_eq_getElem hk]; rfl
set_option maxHeartbeats 8000000 in
set_option maxRecDepth 10000 in
theorem ctwo_walk (A : Option Addr) (c : Nat) (zs : List Int) (hc : zs.length ≤ c) (hcm : c ≤ 9223372036854775807) (a1 a2 : Int) (w : World) (hT : Turns w) (h0 : RowOf c8 1 w w.heap.size A zs) (ha : ∀ ad, A = some ad → ad.block < w.heap.size) (b0 : InB zs) :
    Calls Tryd.prog 8 #[.slice A zs.length c, .int .i64 a1, .int .i64 a2] w fun e w' => e = .returned (.bool true) ∧ Below w.heap.size w w' := by
  obtain ⟨n, hn, hn1, hn2⟩ := min_nat zs.length 200
  have hcut := fun W => bcut_hi A zs.length c n (by omega) W
  obtain ⟨l, hl⟩ : ∃ l, l = zs.take n := ⟨_, rfl⟩
  have hln : n = l.length := by rw [hl, List.length_take]; omega
  subst hln
  have HR := Lib.hid (hl ▸ h0.take_ l.length : RowOf c8 1 w w.heap.size A l)
  have HI := Lib.hid (hl ▸ b0.take_ l.length : InB l)
  have HA := Lib.hid ha
  clear h0 b0 hl hc ha
  have hmin : min (zs.length : Int) 200 = (l.length : Int) := hn
  have HTB : Hid (∀ w' : World, Below w.heap.size w w' → Turns w') := Lib.hid (fun w' b => hT.below b hT.lt)
  obtain ⟨m, hS⟩ := sealed_of HI.out
  obtain ⟨M, hM⟩ : ∃ M, l.length + 2 = M := ⟨_, rfl⟩
  rw [hM] at hS
  have HS := Lib.hid hS
  obtain ⟨N, hN⟩ : ∃ N, N = 8 * M := ⟨_, rfl⟩
  obtain ⟨mk, hmk, hbits⟩ := and_mask a1 65535 (by omega)
  obtain ⟨mk2, hmk2, hbits2⟩ := and_mask a2 65535 (by omega)
  have hbits : bits .and .i64 a1 65535 = (mk : Int) := hbits
  have hbits2 : bits .and .i64 a2 65535 = (mk2 : Int) := hbits2
  obtain ⟨j, hj⟩ : ∃ j : Nat, j = mk % N := ⟨_, rfl⟩
  obtain ⟨k, hk⟩ : ∃ k : Nat, k = mk2 % N := ⟨_, rfl⟩
  have hjN : j < N := by rw [hj]; exact Nat.mod_lt _ (by omega)
  have hkN : k < N := by rw [hk]; exact Nat.mod_lt _ (by omega)
  have hmod : (mk : Int) % (N : Int) = (j : Int) := by rw [hj]; simp
  have hmod2 : (mk2 : Int) % (N : Int) = (k : Int) := by rw [hk]; simp
  have hN0 : (N : Int) ≠ 0 := by omega
  have t8 : IntKind.i64.wrap (8 * (M : Int)) = (N : Int) := by rw [IntKind.wrap_i64]; omega
  have t8b : 8 * (M : Int) = (N : Int) := by omega
  have HM := Lib.hid hM
  have HNN := Lib.hid hN
  have hM300 : M ≤ 202 := by omega
  obtain ⟨j1, hj1⟩ : ∃ j1, j1 = j / 8 := ⟨_, rfl⟩
  obtain ⟨k1, hk1⟩ : ∃ k1, k1 = k / 8 := ⟨_, rfl⟩
  have hj1M : j1 < M := by omega
  have hk1M : k1 < M := by omega
  have dj : (j : Int) / 8 = (j1 : Int) := by omega
  have dk : (k : Int) / 8 = (k1 : Int) := by omega
  have hmt := turn_inB (k := j) HS.out.inB (by rw [HS.out.len]; omega)
  have HMT := Lib.hid hmt
  have hv1 : valid (turn m j) = false := by
    rw [valid_iff hmt (by rw [turn_len, HS.out.len]; omega), turn_crc HS.out.inB (by rw [HS.out.len]; omega), HS.out.zero, BitVec.zero_xor]
    exact decide_eq_false (eb_ne _)
  have hmt2 := turn_inB (k := k) hmt (by rw [turn_len, HS.out.len]; omega)
  have HMT2 := Lib.hid hmt2
  have hv2 : valid (turn (turn m j) k) = ((j : Int) == (k : Int)) := by
    rw [valid_iff hmt2 (by rw [turn_len, turn_len, HS.out.len]; omega), turn_crc hmt (by rw [turn_len, HS.out.len]; omega), turn_crc HS.out.inB (by rw [HS.out.len]; omega), turn_len, HS.out.zero, BitVec.zero_xor, HS.out.len]
    rw [Bool.eq_iff_iff]
    simp only [decide_eq_true_eq, beq_iff_eq]
    rw [eb_inj (by omega) (by omega)]
    omega
  have HV1 := Lib.hid hv1
  have HV2 := Lib.hid hv2
  have HJ1 := Lib.hid hj1
  have HK1 := Lib.hid hk1
  have rj : (j : Int) % 8 = ((j % 8 : Nat) : Int) := by omega
  have rk : (k : Int) % 8 = ((k % 8 : Nat) : Int) := by omega
  have rj8 : j % 8 < 8 := Nat.mod_lt _ (by omega)
  have rk8 : k % 8 < 8 := Nat.mod_lt _ (by omega)
  have HB1 := Lib.hid (turn_byte (k := j) HS.out.inB (by rw [HS.out.len]; omega))
  have HB2 := Lib.hid (turn_byte (k := k) hmt (by rw [turn_len, HS.out.len]; omega))
  clear hS hmk hmk2 hj hk hv1 hv2 hM hN hmt hmt2 hn hn1 hj1 hk1
  go_enter Tryd.func8, Tryd.ntmps8
  go_wp2_with fail
  refine (shown2_walk hT).mono ?_
  rintro e w1 ⟨rfl, H1⟩
  go_wp2_with fail
  refine Calls.mono (CAppendE rfl HM.out HS.out.made (Same.refl w1) (HTB.out _ H1.out) (HR.out.now H1.out) (fun ad e => Nat.lt_of_lt_of_le (HA.out ad e) H1.out.size) HI.out (by have := HM.out; omega)) ?_
  rintro e w2 ⟨A2, c2, rfl, H2, F2⟩
  have B2 := Lib.hid (H1.out.trans (F2.out.mono H1.out.size))
  have hw1 := H1.out.size
  obtain ⟨g, rfl, hg1, hg2, hcell, hfroz, hput⟩ := H2.out.turn (k := j) (by rw [HS.out.len, ← HJ1.out]; exact hj1M)
  rw [← HJ1.out] at hcell hfroz hput
  obtain ⟨y, hy⟩ : ∃ y, y = bits .xor .u8 (m.getD j1 0) ((128 : Int) / 2 ^ (j % 8)) := ⟨_, rfl⟩
  rw [← hy] at hput
  have HP3 := Lib.hid hput
  have HB3 := Lib.hid (set_below (i := j1) (v := .int .u8 y) B2.out (by omega : w.heap.size ≤ g))
  have hT3 := HTB.out _ HB3.out
  generalize m.getD j1 0 = x at *
  generalize j % 8 = r at *
  have hy' := hy.symm
  clear hput H2 F2 H1 hy
  go_wp2_with fail
  simp only [hmod, hmod2]
  go_region
  go_wp2_with fail
  refine Calls.mono (CValidS (w := w2.setCell ⟨g, j1, none⟩ (.int .u8 y)) (by rw [turn_len]; exact HS.out.len) HV1.out ⟨rfl, rfl, rfl, rfl⟩ hT3 HP3.out HMT.out (by omega)) ?_
  rintro e w4 ⟨rfl, H4⟩
  have HP4 := Lib.hid (HP3.out.below H4.out (Nat.le_refl _))
  have HB4 := Lib.hid (HB3.out.trans (H4.out.mono HB3.out.size))
  obtain ⟨g', e', hg1', hg2', hcell', hfroz', hput'⟩ := HP4.out.turn (k := k) (by rw [turn_len, HS.out.len, ← HK1.out]; exact hk1M)
  injection e' with e'
  injection e' with e'
  subst e'
  rw [← HK1.out] at hcell' hfroz' hput'
  obtain ⟨y2, hy2⟩ : ∃ y, y = bits .xor .u8 ((turn m j).getD k1 0) ((128 : Int) / 2 ^ (k % 8)) := ⟨_, rfl⟩
  rw [← hy2] at hput'
  have HP5 := Lib.hid hput'
  have HB5 := Lib.hid (set_below (i := k1) (v := .int .u8 y2) HB4.out (by omega : w.heap.size ≤ g))
  have hT5 := HTB.out _ HB5.out
  generalize (turn m j).getD k1 0 = x2 at *
  generalize k % 8 = r2 at *
  have hy2' := hy2.symm
  clear hput' hcell hfroz hy2 HP4 H4 hy'
  go_wp2_with fail
  go_region
  go_wp2_with fail
  refine Calls.mono (CValidS (w := w4.setCell ⟨g, k1, none⟩ (.int .u8 y2)) (by rw [turn_len, turn_len]; exact HS.out.len) HV2.out ⟨rfl, rfl, rfl, rfl⟩ hT5 HP5.out HMT2.out (by omega)) ?_
  rintro e w6 ⟨rfl, H6⟩
  go_wp2
  go_ret
  exact ⟨by simp, HB5.out.trans (H6.out.mono HB5.out.size)⟩
end Go.Proofs.YtimlkmblfjoigaaDoor.K
