/- Plain laws about sums: what is turned is told. -/
import Derived.Test.YtkihoonjekccgaaDoorCv
namespace Go.Proofs.YtkihoonjekccgaaDoor.K
open Go.RowKit
set_option linter.unusedVariables false
set_option linter.unusedSimpArgs false
theorem cf_xor (l : List Int) : ∀ s e : B16, cf (s ^^^ e) l = cf s l ^^^ gn (8 * l.length) e := by
  induction l with
  | nil => intro s e; simp [cf, gn]
  | cons c l ih =>
    intro s e
    show cf (sb (s ^^^ e) c) l = cf (sb s c) l ^^^ gn (8 * (l.length + 1)) e
    have h1 : sb (s ^^^ e) c = sb s c ^^^ gn 8 e := by
      unfold sb
      rw [← gn_xor]
      congr 1
      rw [BitVec.xor_assoc, BitVec.xor_comm e, ← BitVec.xor_assoc]
    rw [h1, ih, show 8 * (l.length + 1) = 8 + 8 * l.length by omega, gn_add]
theorem up_xor (a b : Int) (ha : 0 ≤ a ∧ a < 256) (hb : 0 ≤ b ∧ b < 256) : up (bits .xor .u8 a b) = up a ^^^ up b := by
  rw [u8_xor a b ha.1 ha.2 hb.1 hb.2]
  have hlt : a.toNat ^^^ b.toNat < 256 := Nat.xor_lt_two_pow (n := 8) (by omega) (by omega)
  apply BitVec.eq_of_toNat_eq
  rw [BitVec.toNat_xor, up_toNat a ha, up_toNat b hb, up_toNat _ (by omega)]
  exact (xor_mul a.toNat b.toNat 8).symm
theorem cf_set (l : List Int) (s : B16) (i : Nat) (by_ : Int) (hi : i < l.length) (hb : InB l) (h2 : 0 ≤ by_ ∧ by_ < 256) :
    cf s (l.set i (bits .xor .u8 l[i] by_)) = cf s l ^^^ gn (8 * (l.length - i)) (up by_) := by
  have hx := hb (l[i]) (List.getElem_mem hi)
  have e1 : l = l.take i ++ l[i] :: l.drop (i + 1) := by rw [← List.drop_eq_getElem_cons hi, List.take_append_drop]
  have e2 : l.set i (bits .xor .u8 l[i] by_) = l.take i ++ bits .xor .u8 l[i] by_ :: l.drop (i + 1) := by rw [List.set_eq_take_append_cons_drop, if_pos hi]
  have hd : (l.drop (i + 1)).length = l.length - i - 1 := by rw [List.length_drop]; omega
  rw [e2, cf_app]
  conv => rhs; lhs; rw [e1, cf_app]
  generalize cf s (l.take i) = t
  show cf (sb t (bits .xor .u8 l[i] by_)) _ = cf (sb t l[i]) _ ^^^ _
  have h1 : sb t (bits .xor .u8 l[i] by_) = sb t l[i] ^^^ gn 8 (up by_) := by
    unfold sb
    rw [← gn_xor, up_xor _ _ hx h2, BitVec.xor_assoc]
  rw [h1, cf_xor, ← gn_add, hd]
  congr 2
  omega
theorem up_zero {c : Int} (hc : 0 ≤ c ∧ c < 256) : up c = 0#16 ↔ c = 0 := by
  constructor
  · intro h
    have := congrArg BitVec.toNat h
    rw [up_toNat c hc] at this
    simp at this
    omega
  · rintro rfl; rfl
/-- Valid is what sums to 0. -/
theorem valid_iff {l : List Int} (hb : InB l) (h2 : 2 ≤ l.length) : valid l = decide (crc l = 0#16) := by
  obtain ⟨p, a, b, rfl⟩ : ∃ p a b, l = p ++ [a, b] := by
    refine ⟨l.take (l.length - 2), l[l.length - 2]'(by omega), l[l.length - 1]'(by omega), ?_⟩
    have h1 : l.drop (l.length - 2) = [l[l.length - 2]'(by omega), l[l.length - 1]'(by omega)] := by
      rw [List.drop_eq_getElem_cons (by omega), List.drop_eq_getElem_cons (by omega)]
      simp only [show l.length - 2 + 1 = l.length - 1 by omega, show l.length - 1 + 1 = l.length by omega, List.drop_length]
    rw [← h1, List.take_append_drop]
  have ha := hb a (by simp)
  have hb' := hb b (by simp)
  unfold valid
  have hl : (p ++ [a, b]).length - 2 = p.length := by simp
  rw [hl, List.drop_left, List.take_left]
  have hn : num [a, b] = a * 256 + b := by simp [num]
  have e : crc (p ++ [a, b]) = sb (sb (crc p) a) b := by unfold crc; rw [cf_app]; rfl
  rw [hn, e]
  have := two_zero (crc p) a b ha hb'
  rw [Bool.eq_iff_iff]
  simp only [decide_eq_true_eq]
  rw [this]
  unfold crcN
  constructor
  · intro h; omega
  · intro h; exact ⟨h2, by omega⟩
theorem inB_set {l : List Int} {i : Nat} {x : Int} (h : InB l) (hx : 0 ≤ x ∧ x < 256) : InB (l.set i x) := fun y hy => by
  rcases List.mem_or_eq_of_mem_set hy with h1 | rfl
  · exact h y h1
  · exact hx
theorem xor_inB (a b : Int) (ha : 0 ≤ a ∧ a < 256) (hb : 0 ≤ b ∧ b < 256) : 0 ≤ bits .xor .u8 a b ∧ bits .xor .u8 a b < 256 := by
  rw [u8_xor a b ha.1 ha.2 hb.1 hb.2]
  have hlt : a.toNat ^^^ b.toNat < 256 := Nat.xor_lt_two_pow (n := 8) (by omega) (by omega)
  omega
theorem crc_set {l : List Int} {i : Nat} {x : Int} (hi : i < l.length) (hb : InB l) (h2 : 0 ≤ x ∧ x < 256) : crc (l.set i (bits .xor .u8 l[i] x)) = crc l ^^^ gn (8 * (l.length - i)) (up x) := cf_set l _ i x hi hb h2
/-- One bit, m places ahead of the end. -/
def eb (m : Nat) : B16 := gn m 0x8000#16
theorem up_bit (r : Nat) (hr : r < 8) : gn r (up ((128 : Int) / 2 ^ r)) = 0x8000#16 := by
  have : r = 0 ∨ r = 1 ∨ r = 2 ∨ r = 3 ∨ r = 4 ∨ r = 5 ∨ r = 6 ∨ r = 7 := by omega
  rcases this with h | h | h | h | h | h | h | h <;> subst h <;> decide
/-- Bit k of n bytes is turned. -/
theorem crc_bit {l : List Int} {q r : Nat} (hq : q < l.length) (hr : r < 8) (hb : InB l) : crc (l.set q (bits .xor .u8 l[q] ((128 : Int) / 2 ^ r))) = crc l ^^^ eb (8 * l.length - (8 * q + r)) := by
  have hx : 0 ≤ (128 : Int) / 2 ^ r ∧ (128 : Int) / 2 ^ r < 256 := by
    have : r = 0 ∨ r = 1 ∨ r = 2 ∨ r = 3 ∨ r = 4 ∨ r = 5 ∨ r = 6 ∨ r = 7 := by omega
    rcases this with h | h | h | h | h | h | h | h <;> subst h <;> decide
  rw [crc_set hq hb hx]
  congr 1
  unfold eb
  rw [← up_bit r hr, ← gn_add]
  congr 1
  omega
theorem eb_ne (m : Nat) : eb m ≠ 0#16 := fun h => by
  have := gn_inj0 m _ h
  exact absurd this (by decide)
/-- No two of so many places look alike. -/
def apart : Nat → B16 → Bool
  | 0, _ => true
  | k + 1, x => (gs x != 0x8000#16) && apart k (gs x)
theorem apart_ne : ∀ (k : Nat) (x : B16), apart k x = true → ∀ d, 1 ≤ d → d ≤ k → gn d x ≠ 0x8000#16 := by
  intro k
  induction k with
  | zero => intro x _ d h1 h2; omega
  | succ k ih =>
    intro x h d h1 h2
    simp only [apart, Bool.and_eq_true, bne_iff_ne, ne_eq] at h
    obtain ⟨d', rfl⟩ : ∃ d', d = d' + 1 := ⟨d - 1, by omega⟩
    show gn d' (gs x) ≠ _
    cases d' with
    | zero => exact h.1
    | succ d' => exact ih (gs x) h.2 (d' + 1) (by omega) (by omega)
theorem apart_all : apart 1700 0x8000#16 = true := by kernel_rfl
theorem eb_inj {a b : Nat} (ha : a < 1700) (hb : b < 1700) : eb a ^^^ eb b = 0#16 ↔ a = b := by
  rw [xor_eq0]
  constructor
  · intro h
    unfold eb at h
    rcases Nat.lt_trichotomy a b with hlt | rfl | hlt
    · exfalso
      rw [show b = (b - a) + a by omega, gn_add] at h
      exact apart_ne _ _ apart_all (b - a) (by omega) (by omega) (gn_inj a h).symm
    · rfl
    · exfalso
      rw [show a = (a - b) + b by omega, gn_add] at h
      exact apart_ne _ _ apart_all (a - b) (by omega) (by omega) (gn_inj b h)
  · rintro rfl; rfl
end Go.Proofs.YtkihoonjekccgaaDoor.K
