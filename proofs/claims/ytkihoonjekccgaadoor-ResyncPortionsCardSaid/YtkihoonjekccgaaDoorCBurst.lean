/- The walk of CrcBursts. -/
import Derived.Test.YtkihoonjekccgaaDoorCTwo
import Derived.SizedLaws
import Derived.OpenShut
namespace Go.Proofs.YtkihoonjekccgaaDoor.K
open Go.RowKit
set_option linter.unusedVariables false
set_option linter.unusedSimpArgs false
attribute [local go_sem] min2_min min_two
attribute [local go_sem ↓] Go.wp_at_zero Go.wp_at_succ
theorem wf_u16 {x : Int} (h : (Lit.int .u16 x).wf = true) : 0 ≤ x ∧ x < 65536 := by
  have : 0 ≤ x ∧ x ≤ 65535 := by simpa [Lit.wf, IntKind.min, IntKind.max, IntKind.signed, IntKind.bits] using h
  omega
/-- Bit i of a number. -/
def tb (n i : Nat) : Bool := n / 2 ^ i % 2 == 1
/-- The bits of n below i, the lowest first. -/
def rv (n : Nat) : Nat → B16
  | 0 => 0#16
  | i + 1 => rv n i ^^^ (if tb n i then (0x8000#16 >>> i) else 0#16)
theorem shift_bit (i : Nat) (hi : i < 16) : gn i (0x8000#16 >>> i) = 0x8000#16 := by
  have : i = 0 ∨ i = 1 ∨ i = 2 ∨ i = 3 ∨ i = 4 ∨ i = 5 ∨ i = 6 ∨ i = 7 ∨ i = 8 ∨ i = 9 ∨ i = 10 ∨ i = 11 ∨ i = 12 ∨ i = 13 ∨ i = 14 ∨ i = 15 := by omega
  rcases this with h | h | h | h | h | h | h | h | h | h | h | h | h | h | h | h <;> subst h <;> decide
theorem bit_at (i k : Nat) (hi : i < 16) (hk : k < 16) : (0x8000#16 >>> i).getLsbD (15 - k) = decide (i = k) := by
  rw [BitVec.getLsbD_ushiftRight]
  have h : ∀ j : Fin 31, (0x8000#16).getLsbD j.val = decide (j.val = 15) := by decide
  rw [h ⟨i + (15 - k), by omega⟩]
  rw [Bool.eq_iff_iff]
  simp only [decide_eq_true_eq]
  omega
theorem rv_bit (n : Nat) : ∀ i, i ≤ 16 → ∀ k, k < 16 → (rv n i).getLsbD (15 - k) = (decide (k < i) && tb n k) := by
  intro i
  induction i with
  | zero => intro _ k _; simp [rv]
  | succ i ih =>
    intro hi k hk
    simp only [rv]
    rw [BitVec.getLsbD_xor, ih (by omega) k hk]
    have h2 : (if tb n i = true then 0x8000#16 >>> i else 0#16).getLsbD (15 - k) = (tb n i && decide (i = k)) := by
      cases htb : tb n i with
      | true => simp only [if_true, Bool.true_and]; exact bit_at i k (by omega) hk
      | false => simp
    rw [h2]
    by_cases h : i = k
    · subst h
      simp
    · rw [decide_eq_false h, Bool.and_false, Bool.xor_false]
      congr 1
      rw [Bool.eq_iff_iff]
      simp only [decide_eq_true_eq]
      omega
theorem rv_ne {n : Nat} (h0 : n ≠ 0) (h1 : n < 65536) : rv n 16 ≠ 0#16 := by
  intro h
  have key : ∀ k, k < 16 → tb n k = false := fun k hk => by
    have := rv_bit n 16 (by omega) k hk
    rw [h] at this
    simpa [hk] using this.symm
  have : ∀ k, k ≤ 16 → n % 2 ^ k = 0 := by
    intro k
    induction k with
    | zero => intro _; omega
    | succ k ih =>
      intro hk
      have h2 := ih (by omega)
      have h3 := key k (by omega)
      unfold tb at h3
      have h4 : n / 2 ^ k % 2 ≠ 1 := by simpa using h3
      rw [Nat.pow_succ, Nat.mod_mul, h2]
      have : n / 2 ^ k % 2 = 0 := by omega
      rw [this]; rfl
  have := this 16 (by omega)
  omega
/-- The bits of n are turned, from bit a on, i of them. -/
def burst (m : List Int) (a n : Nat) : Nat → List Int
  | 0 => m
  | i + 1 => if tb n i then turn (burst m a n i) (a + i) else burst m a n i
theorem burst_len (m : List Int) (a n : Nat) : ∀ i, (burst m a n i).length = m.length := by
  intro i
  induction i with
  | zero => rfl
  | succ i ih =>
    simp only [burst]
    split
    · rw [turn_len, ih]
    · exact ih
theorem burst_inB {m : List Int} {a n : Nat} (h : InB m) (ha : a + 16 ≤ 8 * m.length) : ∀ i, i ≤ 16 → InB (burst m a n i) := by
  intro i
  induction i with
  | zero => intro _; exact h
  | succ i ih =>
    intro hi
    simp only [burst]
    split
    · exact turn_inB (ih (by omega)) (by rw [burst_len]; omega)
    · exact ih (by omega)
theorem burst_crc {m : List Int} {a n : Nat} (h : InB m) (ha : a + 16 ≤ 8 * m.length) : ∀ i, i ≤ 16 → crc (burst m a n i) = crc m ^^^ gn (8 * m.length - a) (rv n i) := by
  intro i
  induction i with
  | zero => intro _; simp only [burst, rv]; rw [gn_zero, BitVec.xor_zero]
  | succ i ih =>
    intro hi
    simp only [burst, rv]
    cases htb : tb n i with
    | false => simp only [Bool.false_eq_true, if_false, BitVec.xor_zero]; exact ih (by omega)
    | true =>
      simp only [if_true]
      rw [turn_crc (burst_inB h ha i (by omega)) (by rw [burst_len]; omega), ih (by omega), burst_len, gn_xor, BitVec.xor_assoc]
      congr 2
      unfold eb
      have h3 := gn_add i (8 * m.length - (a + i)) (0x8000#16 >>> i)
      rw [shift_bit i (by omega)] at h3
      rw [← h3]
      congr 1
      omega
theorem burst_valid {m : List Int} {a n : Nat} (h : InB m) (h0 : crc m = 0#16) (ha : a + 16 ≤ 8 * m.length) (hn : n ≠ 0) (hn1 : n < 65536) : valid (burst m a n 16) = false := by
  rw [valid_iff (burst_inB h ha 16 (by omega)) (by rw [burst_len]; omega), burst_crc h ha 16 (by omega), h0, BitVec.zero_xor]
  exact decide_eq_false (fun e => rv_ne hn hn1 (gn_inj0 _ _ e))
end Go.Proofs.YtkihoonjekccgaaDoor.K
