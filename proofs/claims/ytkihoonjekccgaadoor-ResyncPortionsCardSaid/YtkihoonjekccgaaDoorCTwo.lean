/- The walk of CrcTwo. -/
import Derived.Test.YtkihoonjekccgaaDoorCw
namespace Go.Proofs.YtkihoonjekccgaaDoor.K
open Go.RowKit
set_option linter.unusedVariables false
set_option linter.unusedSimpArgs false
attribute [local go_sem] min2_min min_two
attribute [local go_sem ↓] Go.wp_at_zero Go.wp_at_succ
/-- Bit k of bytes is turned. -/
def turn (m : List Int) (k : Nat) : List Int := m.set (k / 8) (bits .xor .u8 (m.getD (k / 8) 0) ((128 : Int) / 2 ^ (k % 8)))
theorem turn_len (m : List Int) (k : Nat) : (turn m k).length = m.length := by unfold turn; rw [List.length_set]
theorem half_bit (r : Nat) (hr : r < 8) : 0 ≤ (128 : Int) / 2 ^ r ∧ (128 : Int) / 2 ^ r < 256 := by
  have : r = 0 ∨ r = 1 ∨ r = 2 ∨ r = 3 ∨ r = 4 ∨ r = 5 ∨ r = 6 ∨ r = 7 := by omega
  rcases this with h | h | h | h | h | h | h | h <;> subst h <;> decide
theorem turn_byte {m : List Int} {k : Nat} (h : InB m) (hk : k / 8 < m.length) : 0 ≤ bits .xor .u8 (m.getD (k / 8) 0) ((128 : Int) / 2 ^ (k % 8)) ∧ bits .xor .u8 (m.getD (k / 8) 0) ((128 : Int) / 2 ^ (k % 8)) < 256 := by
  rw [List.getD_eq_getElem?_getD, List.getElem?_eq_getElem hk]
  exact xor_inB _ _ (h _ (List.getElem_mem hk)) (half_bit _ (Nat.mod_lt _ (by omega)))
theorem turn_inB {m : List Int} {k : Nat} (h : InB m) (hk : k / 8 < m.length) : InB (turn m k) := inB_set h (turn_byte h hk)
theorem turn_crc {m : List Int} {k : Nat} (h : InB m) (hk : k < 8 * m.length) : crc (turn m k) = crc m ^^^ eb (8 * m.length - k) := by
  have hq : k / 8 < m.length := by omega
  unfold turn
  rw [List.getD_eq_getElem?_getD, List.getElem?_eq_getElem hq]
  have := crc_bit (q := k / 8) (r := k % 8) hq (Nat.mod_lt _ (by omega)) h
  rw [show 8 * (k / 8) + k % 8 = k by omega] at this
  exact this
/-- The byte that is turned, as it is read. -/
theorem Made.turn {B c k : Nat} {A : Option Addr} {l : List Int} {w : World} (h : Made B A c l w) (hk : k / 8 < l.length) :
    ∃ g, A = some ⟨g, 0, none⟩ ∧ B ≤ g ∧ g < w.heap.size ∧ w.cell? ⟨g, k / 8, none⟩ = some (.int .u8 (l.getD (k / 8) 0)) ∧ w.frozen? ⟨g, k / 8, none⟩ = false ∧
      Made B (some ⟨g, 0, none⟩) c (turn l k) (w.setCell ⟨g, k / 8, none⟩ (.int .u8 (bits .xor .u8 (l.getD (k / 8) 0) ((128 : Int) / 2 ^ (k % 8))))) := by
  obtain ⟨g, h1, h2, h3, h4, h5, h6⟩ := h.put hk
  refine ⟨g, h1, h2, h3, ?_, h5, h6 _⟩
  rw [h4, List.getD_eq_getElem?_getD, List.getElem?_eq_getElem hk]; rfl
end Go.Proofs.YtkihoonjekccgaaDoor.K
