/- The sum, over bit vectors: plain laws. -/
import Derived.Test.YtkihoonjekccgaaDoorKit
namespace Go.Proofs.YtkihoonjekccgaaDoor.K
set_option linter.unusedVariables false
set_option linter.unusedSimpArgs false
abbrev B16 := BitVec 16
/-- One bit goes by. -/
def gs (x : B16) : B16 := (x <<< 1) ^^^ (if x.msb then 0x1021#16 else 0#16)
/-- k bits go by. -/
def gn : Nat → B16 → B16
  | 0, x => x
  | k + 1, x => gn k (gs x)
theorem gs_xor (x y : B16) : gs (x ^^^ y) = gs x ^^^ gs y := by
  unfold gs
  rw [BitVec.msb_xor]
  have h : (x ^^^ y) <<< 1 = (x <<< 1) ^^^ (y <<< 1) := by
    apply BitVec.eq_of_getLsbD_eq
    intro i hi
    simp only [BitVec.getLsbD_shiftLeft, BitVec.getLsbD_xor]
    cases decide (i < 16) <;> cases decide (i < 1) <;> simp
  rw [h]
  generalize x <<< 1 = a
  generalize y <<< 1 = b
  cases x.msb <;> cases y.msb
  · simp
  · simp [BitVec.xor_assoc]
  · simp only [Bool.bne_false, Bool.bne_true, Bool.not_false, Bool.not_true, if_true, if_false, BitVec.xor_zero, reduceIte, Bool.false_eq_true, bne_self_eq_false, Bool.true_bne, Bool.false_bne]
    rw [BitVec.xor_assoc, BitVec.xor_assoc, BitVec.xor_comm b]
  · simp only [Bool.bne_false, Bool.bne_true, Bool.not_false, Bool.not_true, if_true, if_false, BitVec.xor_zero, reduceIte, Bool.false_eq_true, bne_self_eq_false, Bool.true_bne, Bool.false_bne]
    rw [BitVec.xor_assoc a, BitVec.xor_comm 4129#16 (b ^^^ 4129#16), BitVec.xor_assoc b, BitVec.xor_self, BitVec.xor_zero]
theorem gn_xor (k : Nat) (x y : B16) : gn k (x ^^^ y) = gn k x ^^^ gn k y := by
  induction k generalizing x y with
  | zero => rfl
  | succ k ih => simp only [gn]; rw [gs_xor, ih]
theorem gn_add (j k : Nat) (x : B16) : gn (j + k) x = gn k (gn j x) := by
  induction j generalizing x with
  | zero => rw [Nat.zero_add]; rfl
  | succ j ih => rw [Nat.succ_add]; simp only [gn]; exact ih _
theorem gn_succ (k : Nat) (x : B16) : gn (k + 1) x = gs (gn k x) := gn_add k 1 x
theorem gn_zero (k : Nat) : gn k 0#16 = 0#16 := by
  induction k with
  | zero => rfl
  | succ k ih => simp only [gn]; rw [show gs 0#16 = 0#16 by decide]; exact ih
theorem gs_low (x : B16) (h : x.toNat < 32768) : (gs x).toNat = 2 * x.toNat := by
  have hm : x.msb = false := by rw [BitVec.msb_eq_decide]; simp; omega
  unfold gs
  rw [hm]
  simp [BitVec.toNat_shiftLeft]
  omega
theorem gn_low (k : Nat) : ∀ x : B16, x.toNat * 2 ^ k < 65536 → (gn k x).toNat = x.toNat * 2 ^ k := by
  induction k with
  | zero => intro x _; simp [gn]
  | succ k ih =>
    intro x h
    have hp : 1 ≤ 2 ^ k := Nat.one_le_two_pow
    have h2 : x.toNat * 2 ^ (k + 1) = 2 * x.toNat * 2 ^ k := by rw [Nat.pow_succ]; ac_rfl
    have hx : 2 * x.toNat ≤ 2 * x.toNat * 2 ^ k := Nat.le_mul_of_pos_right _ (by omega)
    have hs := gs_low x (by omega)
    simp only [gn]
    rw [ih (gs x) (by rw [hs]; omega), hs, h2]
theorem gs_inj0 (x : B16) (h : gs x = 0#16) : x = 0#16 := by
  have h2 := congrArg BitVec.toNat h
  unfold gs at h2
  cases hm : x.msb with
  | false =>
    rw [hm] at h2
    rw [BitVec.msb_eq_decide] at hm
    simp [BitVec.toNat_shiftLeft] at h2 hm
    apply BitVec.eq_of_toNat_eq
    simp
    omega
  | true =>
    exfalso
    have h3 := congrArg (fun z : B16 => z.getLsbD 0) h
    unfold gs at h3
    simp [hm] at h3
theorem gn_inj0 (k : Nat) : ∀ x : B16, gn k x = 0#16 → x = 0#16 := by
  induction k with
  | zero => intro x h; exact h
  | succ k ih => intro x h; exact gs_inj0 _ (ih _ h)
theorem xor_eq0 {x y : B16} : x ^^^ y = 0#16 ↔ x = y := by
  constructor
  · intro h
    have := congrArg (· ^^^ y) h
    simpa [BitVec.xor_assoc] using this
  · rintro rfl; simp
theorem gn_inj (k : Nat) {x y : B16} (h : gn k x = gn k y) : x = y := by
  have : gn k (x ^^^ y) = 0#16 := by rw [gn_xor]; exact xor_eq0.2 h
  exact xor_eq0.1 (gn_inj0 k _ this)
/-- A byte, ahead of the sum. -/
def up (c : Int) : B16 := BitVec.ofNat 16 (c.toNat * 256)
def sb (s : B16) (c : Int) : B16 := gn 8 (s ^^^ up c)
def cf (s : B16) (l : List Int) : B16 := l.foldl sb s
theorem cf_app (s : B16) (a b : List Int) : cf s (a ++ b) = cf (cf s a) b := by simp [cf]
theorem cf_snoc (s : B16) (a : List Int) (c : Int) : cf s (a ++ [c]) = sb (cf s a) c := by simp [cf]
/-- The sum of bytes. -/
def crc (l : List Int) : B16 := cf 0xFFFF#16 l
def crcN (l : List Int) : Int := ((crc l).toNat : Int)
theorem crcN_bound (l : List Int) : 0 ≤ crcN l ∧ crcN l < 65536 := by
  have := (crc l).isLt
  unfold crcN
  omega
theorem up_toNat (c : Int) (h : 0 ≤ c ∧ c < 256) : (up c).toNat = c.toNat * 256 := by
  unfold up
  rw [BitVec.toNat_ofNat]
  omega
theorem gn8_byte (c : Int) (h : 0 ≤ c ∧ c < 256) : gn 8 (BitVec.ofNat 16 c.toNat) = up c := by
  apply BitVec.eq_of_toNat_eq
  have h1 : (BitVec.ofNat 16 c.toNat).toNat = c.toNat := by rw [BitVec.toNat_ofNat]; omega
  rw [gn_low 8 _ (by rw [h1]; omega), h1, up_toNat c h]
/-- Two bytes behind a sum lead to 0 just where they are it. -/
theorem two_zero (s : B16) (p q : Int) (hp : 0 ≤ p ∧ p < 256) (hq : 0 ≤ q ∧ q < 256) : sb (sb s p) q = 0#16 ↔ (s.toNat : Int) = p * 256 + q := by
  have hv : up p ^^^ BitVec.ofNat 16 q.toNat = BitVec.ofNat 16 (p.toNat * 256 + q.toNat) := by
    unfold up
    apply BitVec.eq_of_toNat_eq
    rw [BitVec.toNat_xor]
    simp only [BitVec.toNat_ofNat]
    rw [Nat.mod_eq_of_lt (by omega : p.toNat * 256 < 2 ^ 16), Nat.mod_eq_of_lt (by omega : q.toNat < 2 ^ 16), Nat.mod_eq_of_lt (by omega : p.toNat * 256 + q.toNat < 2 ^ 16)]
    have h1 : p.toNat * 256 = p.toNat <<< 8 := by rw [Nat.shiftLeft_eq]
    have hor : p.toNat <<< 8 + q.toNat = p.toNat <<< 8 ||| q.toNat := Nat.shiftLeft_add_eq_or_of_lt (by omega) _
    have hand : p.toNat <<< 8 &&& q.toNat = 0 := by
      apply Nat.eq_of_testBit_eq
      intro i
      rw [Nat.testBit_and, Nat.testBit_shiftLeft, Nat.zero_testBit]
      by_cases h8 : 8 ≤ i
      · have : q.toNat.testBit i = false := Nat.testBit_lt_two_pow (Nat.lt_of_lt_of_le (by omega : q.toNat < 2 ^ 8) (Nat.pow_le_pow_right (by omega) h8))
        rw [this]; simp
      · simp [h8]
    rw [h1, hor]
    apply Nat.eq_of_testBit_eq
    intro i
    have := congrArg (fun n => Nat.testBit n i) hand
    simp only [Nat.testBit_and, Nat.zero_testBit] at this
    rw [Nat.testBit_xor, Nat.testBit_or]
    cases h2 : (p.toNat <<< 8).testBit i <;> cases h3 : q.toNat.testBit i <;> simp_all
  constructor
  · intro h
    have h1 := gn_inj0 8 _ h
    have h2 := xor_eq0.1 h1
    rw [← gn8_byte q hq] at h2
    have h3 := gn_inj 8 h2
    have h4 : s = up p ^^^ BitVec.ofNat 16 q.toNat := by
      have := congrArg (· ^^^ up p) h3
      simp only [BitVec.xor_assoc, BitVec.xor_self, BitVec.xor_zero] at this
      rw [this, BitVec.xor_comm]
    rw [h4, hv, BitVec.toNat_ofNat]
    omega
  · intro h
    have h4 : s = up p ^^^ BitVec.ofNat 16 q.toNat := by
      rw [hv]
      apply BitVec.eq_of_toNat_eq
      rw [BitVec.toNat_ofNat]
      omega
    unfold sb
    rw [h4, BitVec.xor_comm (up p), BitVec.xor_assoc, BitVec.xor_self, BitVec.xor_zero, gn8_byte q hq, BitVec.xor_self, gn_zero]
end Go.Proofs.YtkihoonjekccgaaDoor.K
