/- The sum: a byte by bits, a byte by the table. -/
import Derived.Test.YtkihoonjekccgaaDoorCm
import Derived.Test.YtkihoonjekccgaaDoorWj
import Derived.Laws.BitsAllLaws
namespace Go.Proofs.YtkihoonjekccgaaDoor.K
open Go.RowKit
set_option linter.unusedVariables false
set_option linter.unusedSimpArgs false
/-- A sum, as a number. -/
abbrev iv (x : B16) : Int := (x.toNat : Int)
theorem iv_lt (x : B16) : 0 ≤ iv x ∧ iv x < 65536 := by
  have := x.isLt
  unfold iv
  omega
theorem iv_xor (x y : B16) : bits .xor .u16 (iv x) (iv y) = iv (x ^^^ y) := by
  have h1 := iv_lt x
  have h2 := iv_lt y
  rw [u16_xor _ _ h1.1 h1.2 h2.1 h2.2]
  simp [iv, BitVec.toNat_xor]
theorem iv_up (c : Int) (hc : 0 ≤ c ∧ c < 256) : iv (up c) = c * 256 := by
  have := up_toNat c hc
  unfold iv
  omega
theorem gs_iv (y : B16) : bits .xor .u16 (IntKind.u16.wrap (iv y * 2)) (iv y / 32768 * 4129) = iv (gs y) := by
  unfold gs
  rw [← iv_xor]
  have h1 : IntKind.u16.wrap (iv y * 2) = iv (y <<< 1) := by
    rw [IntKind.wrap_u16]
    simp only [iv, BitVec.toNat_shiftLeft, Nat.shiftLeft_eq]
    omega
  have h2 : iv y / 32768 * 4129 = iv (if y.msb then 0x1021#16 else 0#16) := by
    rw [BitVec.msb_eq_decide]
    have hy := y.isLt
    by_cases h : 2 ^ (16 - 1) ≤ y.toNat
    · simp only [h, decide_true, if_true, iv]
      show (y.toNat : Int) / 32768 * 4129 = 4129
      omega
    · simp only [h, decide_false, Bool.false_eq_true, if_false, iv]
      show (y.toNat : Int) / 32768 * 4129 = 0
      omega
  rw [h1, h2]
end Go.Proofs.YtkihoonjekccgaaDoor.K
