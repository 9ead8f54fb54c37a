/- Numbers and their bytes: plain laws. -/
import Derived.Test.YtdhfinpmcikimaaDoorSh1
namespace Go.Proofs.YtdhfinpmcikimaaDoor.K
open Go.RowKit
set_option linter.unusedVariables false
set_option linter.unusedSimpArgs false
theorem pow_pos8 (k : Nat) : (0 : Int) < 256 ^ k := Int.pow_pos (by decide)
theorem num_append (a b : List Int) : num (a ++ b) = num a * 256 ^ b.length + num b := by
  have key : ∀ (n : Nat) (b : List Int), b.length = n → num (a ++ b) = num a * 256 ^ b.length + num b := by
    intro n
    induction n with
    | zero => intro b hb; obtain rfl := List.eq_nil_of_length_eq_zero hb; simp [num]
    | succ n ih =>
      intro b hb
      have hne : b ≠ [] := by rintro rfl; simp at hb
      have e := List.dropLast_concat_getLast hne
      generalize b.dropLast = m at *
      generalize b.getLast hne = c at *
      subst e
      rw [List.length_append, List.length_singleton] at hb
      rw [← List.append_assoc, num_snoc, num_snoc, ih m (by omega), List.length_append, List.length_singleton, Int.pow_succ, Int.add_mul, Int.mul_assoc, Int.add_assoc]
  exact key _ b rfl
theorem num_one (x : Int) : num [x] = x := by simp [num]
theorem num_cons' (x : Int) (t : List Int) : num (x :: t) = x * 256 ^ t.length + num t := by
  have := num_append [x] t
  rwa [num_one] at this
theorem be_add (x m : Int) (k : Nat) : ∀ j, j ≤ k → be (x * 256 ^ k + m) j = be m j := by
  intro j
  induction j with
  | zero => intro _; rfl
  | succ j ih =>
    intro hj
    simp only [be]
    rw [ih (by omega)]
    have e : (256 : Int) ^ k = 256 ^ (k - j - 1) * 256 * 256 ^ j := by
      rw [show k = (k - j - 1) + 1 + j by omega, Int.pow_add, Int.pow_succ]
      simp
    have e2 : (x * 256 ^ k + m) / 256 ^ j = m / 256 ^ j + x * 256 ^ (k - j - 1) * 256 := by
      rw [e, Int.add_comm, ← Int.mul_assoc, ← Int.mul_assoc, Int.add_mul_ediv_right _ _ (Int.ne_of_gt (pow_pos8 j))]
    rw [e2]
    congr 1
    omega
theorem be_num (l : List Int) (h : InB l) : be (num l) l.length = l := by
  induction l with
  | nil => rfl
  | cons x t ih =>
    have ht : InB t := fun y hy => h y (by simp [hy])
    have hx := h x (by simp)
    have hb := num_bound t ht
    rw [num_cons', List.length_cons]
    simp only [be]
    rw [be_add x (num t) t.length t.length (Nat.le_refl _), ih ht]
    congr 1
    rw [Int.add_comm, Int.add_mul_ediv_right _ _ (Int.ne_of_gt (pow_pos8 _)), Int.ediv_eq_zero_of_lt hb.1 hb.2]
    omega
theorem num_be (n : Int) (k : Nat) : num (be n k) = n % 256 ^ k := by
  induction k with
  | zero => simp [be, num]
  | succ k ih =>
    simp only [be]
    rw [num_cons', be_length, ih, Int.pow_succ, Int.mul_comm (256 ^ k) 256]
    have hp := pow_pos8 k
    generalize (256 : Int) ^ k = q at *
    have h1 := Int.emod_add_mul_ediv n q
    have h2 := Int.emod_add_mul_ediv (n / q) 256
    have h3 : n % (256 * q) = n % q + q * (n / q % 256) := by
      have e : n = (n % q + q * (n / q % 256)) + (256 * q) * (n / q / 256) := by
        have : q * (n / q) = q * (n / q % 256) + 256 * q * (n / q / 256) := by
          conv => lhs; rw [← h2]
          rw [Int.mul_add, ← Int.mul_assoc, Int.mul_comm q 256]
        omega
      have hr0 : 0 ≤ n % q := Int.emod_nonneg _ (by omega)
      have hr1 : n % q < q := Int.emod_lt_of_pos _ hp
      have hs0 : 0 ≤ n / q % 256 := Int.emod_nonneg _ (by decide)
      have hs1 : n / q % 256 ≤ 255 := by have := Int.emod_lt_of_pos (n / q) (show (0 : Int) < 256 by decide); omega
      have ha : 0 ≤ q * (n / q % 256) := Int.mul_nonneg (by omega) hs0
      have hb : q * (n / q % 256) ≤ q * 255 := Int.mul_le_mul_of_nonneg_left hs1 (by omega)
      conv => lhs; rw [e]
      rw [Int.add_mul_emod_self_left]
      exact Int.emod_eq_of_lt (by omega) (by omega)
    rw [h3, Int.mul_comm q]
    omega
theorem be_inB (n : Int) (k : Nat) : InB (be n k) := by
  induction k with
  | zero => intro x hx; simp [be] at hx
  | succ k ih =>
    intro x hx
    simp only [be, List.mem_cons] at hx
    rcases hx with rfl | hx
    · exact ⟨Int.emod_nonneg _ (by decide), Int.emod_lt_of_pos _ (by decide)⟩
    · exact ih x hx
theorem take_add {α : Type} (l : List α) (a b : Nat) : l.take (a + b) = l.take a ++ (l.drop a).take b := by rw [List.take_add]
end Go.Proofs.YtdhfinpmcikimaaDoor.K
