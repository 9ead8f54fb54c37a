/- The document's long division, over bits: plain laws. -/
import Derived.Test.YtimlkmblfjoigaaDoorCm
import Derived.Test.YtimlkmblfjoigaaDoorNu
namespace Go.Proofs.YtimlkmblfjoigaaDoor.K
set_option linter.unusedVariables false
set_option linter.unusedSimpArgs false
/-- The bits of a byte, the highest first. -/
def byteBits (c : Int) : List Bool := [c / 128 % 2 == 1, c / 64 % 2 == 1, c / 32 % 2 == 1, c / 16 % 2 == 1, c / 8 % 2 == 1, c / 4 % 2 == 1, c / 2 % 2 == 1, c / 1 % 2 == 1]
def textBits (l : List Int) : List Bool := l.flatMap byteBits
theorem textBits_len (l : List Int) : (textBits l).length = 8 * l.length := by
  induction l with
  | nil => rfl
  | cons c l ih =>
    show (byteBits c ++ textBits l).length = _
    rw [List.length_append, ih]; simp [byteBits]; omega
theorem textBits_snoc (l : List Int) (c : Int) : textBits (l ++ [c]) = textBits l ++ byteBits c := by simp [textBits]
/-- A bit goes by, b of the text beside it. -/
def fd1 (r : B16) (b : Bool) : B16 := gs (r ^^^ (if b then 0x8000#16 else 0#16))
def fd (r : B16) (bs : List Bool) : B16 := bs.foldl fd1 r
theorem fd_xor (bs : List Bool) : ∀ r e : B16, fd (r ^^^ e) bs = fd r bs ^^^ gn bs.length e := by
  induction bs with
  | nil => intro r e; rfl
  | cons b bs ih =>
    intro r e
    show fd (fd1 (r ^^^ e) b) bs = fd (fd1 r b) bs ^^^ gn (bs.length + 1) e
    have : fd1 (r ^^^ e) b = fd1 r b ^^^ gs e := by
      unfold fd1
      rw [← gs_xor]
      congr 1
      rw [BitVec.xor_assoc, BitVec.xor_comm e, ← BitVec.xor_assoc]
    rw [this, ih]
    rfl
theorem fd_byte0 : ∀ c : Fin 256, fd 0#16 (byteBits (c.val : Int)) = gn 8 (up (c.val : Int)) := of_decide_eq_true (by kernel_rfl)
theorem fd_byte (r : B16) (c : Int) (hc : 0 ≤ c ∧ c < 256) : fd r (byteBits c) = sb r c := by
  have h := fd_byte0 ⟨c.toNat, by omega⟩
  have hcc : ((c.toNat : Nat) : Int) = c := by omega
  simp only [hcc] at h
  have h2 := fd_xor (byteBits c) 0#16 r
  rw [BitVec.zero_xor] at h2
  rw [h2, h]
  unfold sb
  rw [gn_xor, BitVec.xor_comm]
  rfl
theorem fd_app (r : B16) (a b : List Bool) : fd r (a ++ b) = fd (fd r a) b := by simp [fd]
theorem fd_text (l : List Int) : ∀ r : B16, InB l → fd r (textBits l) = cf r l := by
  induction l with
  | nil => intro r _; rfl
  | cons c l ih =>
    intro r h
    show fd r (byteBits c ++ textBits l) = cf (sb r c) l
    rw [fd_app, fd_byte r c (h c (by simp)), ih _ (fun x hx => h x (by simp [hx]))]
/-- What is divided: the bits of a text, with sixteen behind. -/
def dv0 (m : List Bool) (j : Nat) : Bool := if j < 16 then !m.getD j false else m.getD j false
/-- The bits behind k steps. -/
def dv (m : List Bool) (k j : Nat) : Bool :=
  if j < k then false else if j < k + 16 then (fd 0xFFFF#16 (m.take k)).getMsbD (j - k) ^^ m.getD j false else m.getD j false
theorem ffff_msb (t : Nat) (h : t < 16) : (0xFFFF#16 : B16).getMsbD t = true := by
  have : t = 0 ∨ t = 1 ∨ t = 2 ∨ t = 3 ∨ t = 4 ∨ t = 5 ∨ t = 6 ∨ t = 7 ∨ t = 8 ∨ t = 9 ∨ t = 10 ∨ t = 11 ∨ t = 12 ∨ t = 13 ∨ t = 14 ∨ t = 15 := by omega
  rcases this with h | h | h | h | h | h | h | h | h | h | h | h | h | h | h | h <;> subst h <;> decide
theorem dv_start (m : List Bool) (j : Nat) : dv m 0 j = dv0 m j := by
  unfold dv dv0
  rw [if_neg (by omega)]
  by_cases h : j < 16
  · rw [if_pos (by omega), if_pos h]
    have e : (fd 0xFFFF#16 (m.take 0)) = 0xFFFF#16 := rfl
    rw [e, ffff_msb _ (by omega)]; simp
  · rw [if_neg (by omega), if_neg h]
theorem fd_take (m : List Bool) (k : Nat) (h : k < m.length) : fd 0xFFFF#16 (m.take (k + 1)) = fd1 (fd 0xFFFF#16 (m.take k)) (m.getD k false) := by
  rw [List.take_succ_eq_append_getElem h, fd_app, List.getD_eq_getElem?_getD, List.getElem?_eq_getElem h]; rfl
theorem poly_msb (t : Nat) (h : t < 16) : (0x1021#16 : B16).getMsbD t = (t == 3 || t == 10 || t == 15) := by
  have : t = 0 ∨ t = 1 ∨ t = 2 ∨ t = 3 ∨ t = 4 ∨ t = 5 ∨ t = 6 ∨ t = 7 ∨ t = 8 ∨ t = 9 ∨ t = 10 ∨ t = 11 ∨ t = 12 ∨ t = 13 ∨ t = 14 ∨ t = 15 := by omega
  rcases this with h | h | h | h | h | h | h | h | h | h | h | h | h | h | h | h <;> subst h <;> decide
theorem top_msb (t : Nat) (h : t < 16) : (0x8000#16 : B16).getMsbD t = (t == 0) := by
  have : t = 0 ∨ t = 1 ∨ t = 2 ∨ t = 3 ∨ t = 4 ∨ t = 5 ∨ t = 6 ∨ t = 7 ∨ t = 8 ∨ t = 9 ∨ t = 10 ∨ t = 11 ∨ t = 12 ∨ t = 13 ∨ t = 14 ∨ t = 15 := by omega
  rcases this with h | h | h | h | h | h | h | h | h | h | h | h | h | h | h | h <;> subst h <;> decide
theorem fd1_msb (r : B16) (b : Bool) (t : Nat) (h : t < 16) : (fd1 r b).getMsbD t = ((r.getMsbD (t + 1)) ^^ ((r.getMsbD 0 ^^ b) && (t == 3 || t == 10 || t == 15))) := by
  unfold fd1 gs
  have h1 : ∀ t, t < 16 → (r ^^^ (if b then 0x8000#16 else 0#16)).getMsbD t = (r.getMsbD t ^^ (b && t == 0)) := fun t ht => by
    rw [BitVec.getMsbD_xor]
    cases b
    · simp
    · simp only [if_true, Bool.true_and]; rw [top_msb t ht]
  have h2 : (r ^^^ (if b then 0x8000#16 else 0#16)).msb = (r.getMsbD 0 ^^ b) := by
    rw [BitVec.msb, h1 0 (by omega)]; simp
  have h3 : ((r ^^^ (if b then 0x8000#16 else 0#16)) <<< 1).getMsbD t = r.getMsbD (t + 1) := by
    rw [BitVec.getMsbD_shiftLeft]
    by_cases h15 : t = 15
    · subst h15
      rw [BitVec.getMsbD_of_ge _ _ (by omega), BitVec.getMsbD_of_ge _ _ (by omega)]
    · rw [h1 (t + 1) (by omega)]; simp
  rw [BitVec.getMsbD_xor, h3, h2]
  cases hx : (r.getMsbD 0 ^^ b)
  · simp
  · simp only [if_true, Bool.true_and]; rw [poly_msb t h]
/-- One step of the division, at each place. -/
theorem dv_step (m : List Bool) (k j : Nat) (hk : k < m.length) : dv m (k + 1) j = if dv m k k then (if j = k then false else if j = k + 4 ∨ j = k + 11 ∨ j = k + 16 then !dv m k j else dv m k j) else dv m k j := by
  have hkk : dv m k k = ((fd 0xFFFF#16 (m.take k)).getMsbD 0 ^^ m.getD k false) := by
    unfold dv
    rw [if_neg (by omega), if_pos (by omega), Nat.sub_self]
  rw [hkk]
  have hm := fun t ht => fd1_msb (fd 0xFFFF#16 (m.take k)) (m.getD k false) t ht
  unfold dv
  rw [fd_take m k hk]
  generalize fd 0xFFFF#16 (m.take k) = r at *
  by_cases h0 : j < k
  · have a1 : j < k + 1 := by omega
    have a2 : ¬ j = k := by omega
    have a3 : ¬ (j = k + 4 ∨ j = k + 11 ∨ j = k + 16) := by omega
    simp only [h0, a1, a2, a3, if_true, if_false, ite_self]
  · by_cases h1 : j = k
    · subst h1
      have a1 : j < j + 1 := by omega
      have a2 : ¬ j < j := by omega
      have a3 : j < j + 16 := by omega
      simp only [a1, a2, a3, if_true, if_false, Nat.sub_self]
      generalize (r.getMsbD 0 ^^ m.getD j false) = q
      cases q <;> rfl
    · have a1 : ¬ j < k + 1 := by omega
      simp only [a1, h0, h1, if_false]
      clear a1
      obtain ⟨t, rfl⟩ : ∃ t, j = k + 1 + t := ⟨j - (k + 1), by omega⟩
      by_cases h2 : t < 15
      · have a1 : k + 1 + t < k + 1 + 16 := by omega
        have a2 : k + 1 + t < k + 16 := by omega
        simp only [a1, a2, if_true, show k + 1 + t - (k + 1) = t by omega, show k + 1 + t - k = t + 1 by omega, hm t (by omega)]
        have h3 : (t == 15) = false := by simp; omega
        rw [h3]
        generalize m.getD (k + 1 + t) false = x
        generalize r.getMsbD (t + 1) = y
        generalize (r.getMsbD 0 ^^ m.getD k false) = q
        by_cases h4 : t = 3
        · subst h4
          have a3 : k + 1 + 3 = k + 4 ∨ k + 1 + 3 = k + 11 ∨ k + 1 + 3 = k + 16 := by omega
          simp only [a3, if_true]
          cases q <;> cases x <;> cases y <;> rfl
        · by_cases h5 : t = 10
          · subst h5
            have a3 : k + 1 + 10 = k + 4 ∨ k + 1 + 10 = k + 11 ∨ k + 1 + 10 = k + 16 := by omega
            rw [if_pos a3]
            cases q <;> cases x <;> cases y <;> rfl
          · have a3 : ¬ (k + 1 + t = k + 4 ∨ k + 1 + t = k + 11 ∨ k + 1 + t = k + 16) := by omega
            simp only [a3, if_false]
            have e4 : (t == 3) = false := by simp [h4]
            have e5 : (t == 10) = false := by simp [h5]
            rw [e4, e5]
            cases q <;> cases x <;> cases y <;> rfl
      · by_cases h3 : t = 15
        · subst h3
          have a1 : k + 1 + 15 < k + 1 + 16 := by omega
          have a2 : ¬ k + 1 + 15 < k + 16 := by omega
          have a3 : k + 1 + 15 = k + 4 ∨ k + 1 + 15 = k + 11 ∨ k + 1 + 15 = k + 16 := by omega
          rw [if_pos a3]
          simp only [a1, a2, if_true, if_false, show k + 1 + 15 - (k + 1) = 15 by omega, hm 15 (by omega)]
          rw [BitVec.getMsbD_of_ge r 16 (by omega)]
          generalize m.getD (k + 1 + 15) false = x
          generalize (r.getMsbD 0 ^^ m.getD k false) = q
          cases q <;> cases x <;> rfl
        · have a1 : ¬ k + 1 + t < k + 1 + 16 := by omega
          have a2 : ¬ k + 1 + t < k + 16 := by omega
          have a3 : ¬ (k + 1 + t = k + 4 ∨ k + 1 + t = k + 11 ∨ k + 1 + t = k + 16) := by omega
          simp only [a1, a2, a3, if_false]
          generalize m.getD (k + 1 + t) false = x
          cases (r.getMsbD 0 ^^ m.getD k false) <;> rfl
/-- The last sixteen. -/
theorem dv_end (m : List Bool) (t : Nat) (ht : t < 16) : dv m m.length (m.length + t) = (fd 0xFFFF#16 m).getMsbD t := by
  unfold dv
  rw [if_neg (by omega), if_pos (by omega), List.take_length, show m.length + t - m.length = t by omega, List.getD_eq_getElem?_getD, List.getElem?_eq_none (by omega)]
  simp
theorem dv_text (l : List Int) (hi : InB l) (t : Nat) (ht : t < 16) : dv (textBits l) (8 * l.length) (8 * l.length + t) = (crc l).getMsbD t := by
  have := dv_end (textBits l) t ht
  rw [textBits_len, fd_text l _ hi] at this
  exact this
/-- A number by its bits, the highest first. -/
theorem msb_step (x : B16) (k : Nat) (hk : k < 16) : x.toNat / 2 ^ (16 - (k + 1)) = 2 * (x.toNat / 2 ^ (16 - k)) + (if x.getMsbD k then 1 else 0) := by
  have h1 : x.getMsbD k = decide (x.toNat / 2 ^ (15 - k) % 2 = 1) := by
    rw [BitVec.getMsbD, BitVec.getLsbD, Nat.testBit_eq_decide_div_mod_eq]
    simp [hk]
  have h2 : x.toNat / 2 ^ (16 - k) = x.toNat / 2 ^ (15 - k) / 2 := by
    rw [Nat.div_div_eq_div_mul, ← Nat.pow_succ]
    congr 2
    omega
  rw [h1, h2, show 16 - (k + 1) = 15 - k by omega]
  generalize x.toNat / 2 ^ (15 - k) = q
  by_cases h : q % 2 = 1
  · simp [h]; omega
  · simp [h]; omega
end Go.Proofs.YtimlkmblfjoigaaDoor.K
