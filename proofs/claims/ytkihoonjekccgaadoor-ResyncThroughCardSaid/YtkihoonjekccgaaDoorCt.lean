/- The sum by the table. -/
import Derived.Test.YtkihoonjekccgaaDoorCb
namespace Go.Proofs.YtkihoonjekccgaaDoor.K
open Go.RowKit
set_option linter.unusedVariables false
set_option linter.unusedSimpArgs false
/-- The table stands in its place. -/
def Turns (w : World) : Prop := ∀ i : Nat, i < 16 → w.cell? ⟨0, i, none⟩ = some (.int .u16 ((i : Int) * 4129))
theorem Turns.drew {w : World} (h : Turns w) : Turns w.drew := h
theorem Turns.drewN {w : World} (h : Turns w) (n : Nat) : Turns (w.drewN n) := h
theorem Turns.lt {w : World} (h : Turns w) : 0 < w.heap.size := by
  have := h 0 (by omega)
  unfold World.cell? at this
  cases hx : w.heap[0]? with
  | none => simp [hx] at this
  | some o => exact (Array.getElem?_eq_some_iff.1 hx).1
theorem Turns.fr {S : Nat → Prop} {w w' : World} (h : Turns w) (k : Fr S w w') (hn : ¬ S 0) : Turns w' := fun i hi => by
  have := h i hi
  unfold World.cell? at this ⊢
  rw [k.block _ h.lt hn]
  exact this
theorem Turns.fr0 {w w' : World} (h : Turns w) (k : Fr0 w w') : Turns w' := h.fr k (fun e => e)
theorem Turns.below {B : Nat} {w w' : World} (h : Turns w) (k : Below B w w') (hB : 0 < B) : Turns w' := fun i hi => (k.cell hB).trans (h i hi)
theorem xor_add (a b k : Nat) (h : b < 2 ^ k) : (a * 2 ^ k) ^^^ b = a * 2 ^ k + b := by
  have h1 : a * 2 ^ k = a <<< k := by rw [Nat.shiftLeft_eq]
  have hor : a <<< k + b = a <<< k ||| b := Nat.shiftLeft_add_eq_or_of_lt h _
  rw [h1, hor]
  apply Nat.eq_of_testBit_eq
  intro i
  rw [Nat.testBit_xor, Nat.testBit_or, Nat.testBit_shiftLeft]
  by_cases h8 : k ≤ i
  · have : b.testBit i = false := Nat.testBit_lt_two_pow (Nat.lt_of_lt_of_le h (Nat.pow_le_pow_right (by omega) h8))
    rw [this]; simp
  · simp [h8]
theorem xor_mul (a b k : Nat) : (a * 2 ^ k) ^^^ (b * 2 ^ k) = (a ^^^ b) * 2 ^ k := by
  apply Nat.eq_of_testBit_eq
  intro i
  rw [Nat.testBit_xor, Nat.testBit_mul_two_pow, Nat.testBit_mul_two_pow, Nat.testBit_mul_two_pow, Nat.testBit_xor]
  by_cases h8 : k ≤ i <;> simp [h8]
theorem xor_lt16 (a b : Nat) (ha : a < 16) (hb : b < 16) : a ^^^ b < 16 := Nat.xor_lt_two_pow (n := 4) ha hb
/-- Four bits of a number go by, h of a byte beside them. -/
def half (x : B16) (h : Nat) : B16 := gn 4 (x ^^^ BitVec.ofNat 16 (h * 4096))
theorem turn_iv : ∀ t : Fin 16, iv (gn 4 (BitVec.ofNat 16 (t.val * 4096))) = (t.val : Int) * 4129 := by decide
theorem half_iv (x : B16) (h : Nat) (hh : h < 16) : bits .xor .u16 (IntKind.u16.wrap (iv x * 16)) (((x.toNat / 4096 ^^^ h : Nat) : Int) * 4129) = iv (half x h) := by
  have hx := x.isLt
  have ht : x.toNat / 4096 ^^^ h < 16 := xor_lt16 _ _ (by omega) hh
  have e1 : x ^^^ BitVec.ofNat 16 (h * 4096) = BitVec.ofNat 16 ((x.toNat / 4096 ^^^ h) * 4096) ^^^ BitVec.ofNat 16 (x.toNat % 4096) := by
    apply BitVec.eq_of_toNat_eq
    rw [BitVec.toNat_xor, BitVec.toNat_xor]
    simp only [BitVec.toNat_ofNat]
    rw [Nat.mod_eq_of_lt (by omega : h * 4096 < 2 ^ 16), Nat.mod_eq_of_lt (by omega : (x.toNat / 4096 ^^^ h) * 4096 < 2 ^ 16), Nat.mod_eq_of_lt (by omega : x.toNat % 4096 < 2 ^ 16)]
    have e2 : x.toNat = (x.toNat / 4096 * 2 ^ 12) ^^^ (x.toNat % 4096) := by rw [xor_add _ _ 12 (by omega)]; omega
    have e3 := xor_mul (x.toNat / 4096) h 12
    conv => lhs; rw [e2]
    rw [show (4096 : Nat) = 2 ^ 12 by rfl] at *
    rw [← e3, Nat.xor_assoc, Nat.xor_comm (x.toNat % 2 ^ 12), ← Nat.xor_assoc]
  have e4 : (gn 4 (BitVec.ofNat 16 (x.toNat % 4096))) = BitVec.ofNat 16 (x.toNat % 4096 * 16) := by
    apply BitVec.eq_of_toNat_eq
    have h1 : (BitVec.ofNat 16 (x.toNat % 4096)).toNat = x.toNat % 4096 := by rw [BitVec.toNat_ofNat]; omega
    rw [gn_low 4 _ (by rw [h1]; omega), h1, BitVec.toNat_ofNat]
    omega
  have e5 : IntKind.u16.wrap (iv x * 16) = iv (BitVec.ofNat 16 (x.toNat % 4096 * 16)) := by
    rw [IntKind.wrap_u16]
    simp only [iv, BitVec.toNat_ofNat]
    omega
  unfold half
  rw [e1, gn_xor, e4, e5, ← turn_iv ⟨_, ht⟩, iv_xor, BitVec.xor_comm]
theorem half_half (x : B16) (c : Int) (hc : 0 ≤ c ∧ c < 256) : half (half x (c.toNat / 16)) (c.toNat % 16) = sb x c := by
  have hup : up c = BitVec.ofNat 16 (c.toNat / 16 * 4096) ^^^ BitVec.ofNat 16 (c.toNat % 16 * 256) := by
    apply BitVec.eq_of_toNat_eq
    rw [up_toNat c hc, BitVec.toNat_xor, BitVec.toNat_ofNat, BitVec.toNat_ofNat, Nat.mod_eq_of_lt (by omega : c.toNat / 16 * 4096 < 2 ^ 16), Nat.mod_eq_of_lt (by omega : c.toNat % 16 * 256 < 2 ^ 16), show (4096 : Nat) = 2 ^ 12 by rfl, xor_add _ _ 12 (by omega)]
    omega
  have hlow : gn 4 (BitVec.ofNat 16 (c.toNat % 16 * 256)) = BitVec.ofNat 16 (c.toNat % 16 * 4096) := by
    apply BitVec.eq_of_toNat_eq
    have h1 : (BitVec.ofNat 16 (c.toNat % 16 * 256)).toNat = c.toNat % 16 * 256 := by rw [BitVec.toNat_ofNat]; omega
    rw [gn_low 4 _ (by rw [h1]; omega), h1, BitVec.toNat_ofNat]
    omega
  unfold half sb
  rw [show (8 : Nat) = 4 + 4 by rfl, gn_add, hup, ← BitVec.xor_assoc, gn_xor 4 _ (BitVec.ofNat 16 (c.toNat % 16 * 256)), hlow]
/-- What is there when k halves have gone by. -/
def hk (x : B16) (c : Int) : Nat → B16
  | 0 => x
  | 1 => half x (c.toNat / 16)
  | _ => sb x c
set_option maxHeartbeats 4000000 in
set_option maxRecDepth 10000 in
theorem tableC (x : B16) (c : Int) (hc : 0 ≤ c ∧ c < 256) {w : World} (hT : Turns w) :
    Calls Tryd.prog 54 #[.int .u16 (iv x), .int .u8 c] w fun e w' => e = .returned (.int .u16 (iv (sb x c))) ∧ w' = w := by
  have HX := Lib.hid (iv_lt x)
  have HC := Lib.hid hc
  obtain ⟨c0, c1⟩ := hc
  have i0 : ∀ (a b : Value) W, (Instr.index 121 (.agg #[a, b]) (.int .i64 0)).run Tryd.prog W = .ok a W := fun a b W => by kernel_rfl
  have i1 : ∀ (a b : Value) W, (Instr.index 121 (.agg #[a, b]) (.int .i64 1)).run Tryd.prog W = .ok b W := fun a b W => by kernel_rfl
  go_enter Tryd.func54, Tryd.ntmps54
  go_wp2
  go_loop [0, 12] (fun r i => ∃ k : Nat, k ≤ 2 ∧ i = .int .i64 k ∧ r = .int .u16 (iv (hk x c k))) (fun _ i => 2 - (intOf i).toNat)
  case atStart => exact ⟨0, by omega, rfl, rfl⟩
  case round =>
    obtain ⟨k, hk2, rfl, rfl⟩ := hrel
    by_cases hlt : k < 2
    · have step : ∃ (h T : Nat), h < 16 ∧ T < 16 ∧ (k = 0 ∧ (h : Int) = c / 16 ∨ k = 1 ∧ (h : Int) = c % 16) ∧ bits .xor .u8 (iv (hk x c k) / 4096) (h : Int) = (T : Int) ∧ bits .xor .u16 (IntKind.u16.wrap (iv (hk x c k) * 16)) ((T : Int) * 4129) = iv (hk x c (k + 1)) := by
        have hy := iv_lt (hk x c k)
        have key : ∀ h : Nat, h < 16 → bits .xor .u8 (iv (hk x c k) / 4096) (h : Int) = (((hk x c k).toNat / 4096 ^^^ h : Nat) : Int) := by
          intro h hh
          rw [u8_xor _ _ (by omega) (by omega) (by omega) (by omega)]
          have : (iv (hk x c k) / 4096).toNat = (hk x c k).toNat / 4096 := by unfold iv; omega
          rw [this]; rfl
        have hlt16 : ∀ h : Nat, h < 16 → (hk x c k).toNat / 4096 ^^^ h < 16 := fun h hh => xor_lt16 _ _ (by have := (hk x c k).isLt; omega) hh
        have hk01 : k = 0 ∨ k = 1 := by omega
        rcases hk01 with rfl | rfl
        · exact ⟨c.toNat / 16, _, by omega, hlt16 _ (by omega), .inl ⟨rfl, by omega⟩, key _ (by omega), by rw [half_iv _ _ (by omega)]; rfl⟩
        · exact ⟨c.toNat % 16, _, by omega, hlt16 _ (by omega), .inr ⟨rfl, by omega⟩, key _ (by omega), by rw [half_iv _ _ (by omega)]; show iv (half (half x (c.toNat / 16)) (c.toNat % 16)) = _; rw [half_half x c HC.out]; rfl⟩
      obtain ⟨h, T, hh, hT16, hcase, hx8, hx16⟩ := step
      have hcell := hT T hT16
      have hb := iv_lt (hk x c k)
      have HX16 := Lib.hid hx16
      clear hx16
      generalize iv (hk x c k) = n at *
      obtain ⟨n0, n1⟩ := hb
      rcases hcase with ⟨rfl, hc1⟩ | ⟨rfl, hc1⟩
      · rw [hc1] at hx8
        clear hc1
        rw [show ((0 : Nat) : Int) = 0 from rfl]
        go_wp2
        go_round
        case rel => exact ⟨1, by omega, rfl, by rw [HX16.out]⟩
        case measure => simp [intOf]
      · rw [hc1] at hx8
        clear hc1
        rw [show ((1 : Nat) : Int) = 1 from rfl]
        go_wp2
        go_round
        case rel => exact ⟨2, by omega, rfl, by rw [HX16.out]⟩
        case measure => simp [intOf]
    · obtain rfl : k = 2 := by omega
      go_wp2
      go_ret
      exact ⟨rfl, rfl⟩
end Go.Proofs.YtkihoonjekccgaaDoor.K
