/- The walk of CrcSame. -/
import Derived.Test.YtkihoonjekccgaaDoorCl
namespace Go.Proofs.YtkihoonjekccgaaDoor.K
open Go.RowKit
set_option linter.unusedVariables false
set_option linter.unusedSimpArgs false
attribute [local go_sem] min2_min min_two
theorem be_two (n : Int) (h0 : 0 ≤ n) (h1 : n < 65536) : be n 2 = [n / 256, n % 256] := by
  have : be n 2 = [n / 256 ^ 1 % 256, n / 256 ^ 0 % 256] := rfl
  rw [this]
  congr 1
  · omega
  · congr 1; omega
/-- What is sealed sums to 0. -/
theorem cf_sealed (l : List Int) : crc (l ++ be (crcN l) 2) = 0#16 := by
  have hb := crcN_bound l
  rw [be_two _ hb.1 hb.2]
  unfold crc
  rw [cf_app]
  show sb (sb (cf 0xFFFF#16 l) (crcN l / 256)) (crcN l % 256) = 0#16
  rw [two_zero _ _ _ (by omega) (by omega)]
  show crcN l = _
  omega
theorem crcN_sealed (l : List Int) : crcN (l ++ be (crcN l) 2) = 0 := by
  unfold crcN
  rw [show crc (l ++ be ((crc l).toNat : Int) 2) = 0#16 from cf_sealed l]
  rfl
end Go.Proofs.YtkihoonjekccgaaDoor.K
