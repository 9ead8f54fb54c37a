/- The sum: a byte by bits, a byte by the table. -/
import Derived.Test.YtimlkmblfjoigaaDoorCm
import Derived.Test.YtimlkmblfjoigaaDoorWj
import Derived.Laws.BitsAllLaws
namespace Go.Proofs.YtimlkmblfjoigaaDoor.K
open Go.RowKit
set_option linter.unusedVariables false
set_option linter.unusedSimpArgs false
/-- A sum, as a number. -/
abbrev iv (x : B16) : Int := (x.toNat : Int)
theorem iv_lt (x : B16) : 0 ≤ iv x ∧ iv x < 65536 := by
  have := x.isLt
  unfold iv
  omega
theorem iv_xor (x y : B16) : bits .xor .u16 (iv x) (iv y) = iv (x ^^^ y) := by
  have h1 := iv_lt x
  have h2 := iv_lt y
  rw [u16_xor _ _ h1.1 h1.2 h2.1 h2.2]
  simp [iv, BitVec.toNat_xor]
theorem iv_up (c : Int) (hc : 0 ≤ c ∧ c < 256) : iv (up c) = c * 256 := by
  have := up_toNat c hc
  unfold iv
  omega
theorem gs_iv (y : B16) : bits .xor .u16 (IntKind.u16.wrap (iv y * 2)) (iv y / 32768 * 4129) = iv (gs y) := by
  unfold gs
  rw [← iv_xor]
  have h1 : IntKind.u16.wrap (iv y * 2) = iv (y <<< 1) := by
    rw [IntKind.wrap_u16]
    simp only [iv, BitVec.toNat_shiftLeft, Nat.shiftLeft_eq]
    omega
  have h2 : iv y / 32768 * 4129 = iv (if y.msb then 0x1021#16 else 0#16) := by
    rw [BitVec.msb_eq_decide]
    have hy := y.isLt
    by_cases h : 2 ^ (16 - 1) ≤ y.toNat
    · simp only [h, decide_true, if_true, iv]
      show (y.toNat : Int) / 32768 * 4129 = 4129
      omega
    · simp only [h, decide_false, Bool.false_eq_true, if_false, iv]
      show (y.toNat : Int) / 32768 * 4129 = 0
      omega
  rw [h1, h2]
set_option maxHeartbeats 4000000 in
set_option maxRecDepth 10000 in
theorem bitsC (x : B16) (c : Int) (hc : 0 ≤ c ∧ c < 256) (w : World) :
    Calls Tryd.prog 20 #[.int .u16 (iv x), .int .u8 c] w fun e w' => e = .returned (.int .u16 (iv (sb x c))) ∧ w' = w := by
  have hx := iv_lt x
  have HU := Lib.hid (iv_up c hc)
  obtain ⟨c0, c1⟩ := hc
  obtain ⟨x0, x1⟩ := hx
  go_enter Tryd.func20, Tryd.ntmps20
  go_wp2
  go_loop [0, 11] (fun r i => ∃ k : Nat, k ≤ 8 ∧ i = .int .i64 k ∧ r = .int .u16 (iv (gn k (x ^^^ up c)))) (fun _ i => 8 - (intOf i).toNat)
  case atStart => exact ⟨0, by omega, rfl, by simp only [gn]; rw [← iv_xor, HU.out]⟩
  case round =>
    obtain ⟨k, hk, rfl, rfl⟩ := hrel
    have hb := iv_lt (gn k (x ^^^ up c))
    have hg : iv (gn (k + 1) (x ^^^ up c)) = bits .xor .u16 (IntKind.u16.wrap (iv (gn k (x ^^^ up c)) * 2)) (iv (gn k (x ^^^ up c)) / 32768 * 4129) := by rw [gs_iv, gn_succ]
    have h8 : k = 8 → iv (gn k (x ^^^ up c)) = iv (sb x c) := by rintro rfl; rfl
    have HG := Lib.hid hg
    have H8 := Lib.hid h8
    clear hg h8
    generalize iv (gn k (x ^^^ up c)) = n at *
    obtain ⟨y0, y1⟩ := hb
    by_cases hlt : k < 8
    · clear c0 c1 x0 x1
      go_wp2
      go_round
      case rel => exact ⟨k + 1, by omega, by go_num, by rw [HG.out]⟩
      case measure => simp [intOf]; omega
    · obtain rfl : k = 8 := by omega
      rw [H8.out rfl]
      go_wp2
      go_ret
      exact ⟨rfl, rfl⟩
end Go.Proofs.YtimlkmblfjoigaaDoor.K
