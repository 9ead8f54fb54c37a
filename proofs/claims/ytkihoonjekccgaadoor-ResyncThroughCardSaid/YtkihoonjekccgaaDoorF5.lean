/- Frames: plain laws. -/
import Derived.Test.YtkihoonjekccgaaDoorF3
import Derived.Test.YtkihoonjekccgaaDoorCw
namespace Go.Proofs.YtkihoonjekccgaaDoor.K
open Go.RowKit
set_option linter.unusedVariables false
set_option linter.unusedSimpArgs false
theorem xor94 : bits .xor .u8 94 32 = 126 := by decide
theorem xor93 : bits .xor .u8 93 32 = 125 := by decide
theorem unst_stf (l r acc : List Int) : unst false (stf l ++ r) acc = unst false r (acc ++ l) := by
  induction l generalizing acc with
  | nil => simp [stf]
  | cons x l ih =>
    have e : stf (x :: l) ++ r = stf1 x ++ (stf l ++ r) := by simp [stf]
    rw [e]
    by_cases h1 : x = 126
    · subst h1
      show unst false (125 :: 94 :: (stf l ++ r)) acc = _
      simp only [unst, xor94]
      simp [ih]
    · by_cases h2 : x = 125
      · subst h2
        show unst false (125 :: 93 :: (stf l ++ r)) acc = _
        simp only [unst, xor93]
        simp [ih]
      · have e1 : stf1 x = [x] := by simp [stf1, h1, h2]
        rw [e1]
        simp only [List.cons_append, List.nil_append, unst, h1, h2, if_false]
        rw [ih]; simp
theorem unst_back (l : List Int) : unst false (stf l) [] = (l, 0) := by
  have := unst_stf l [] []
  simpa [unst] using this
/-- A beginning of what is stuffed. -/
theorem unst_cut (l acc : List Int) (p : Nat) (hp : p ≤ (stf l).length) :
    (0 < p ∧ (stf l).getD (p - 1) 0 = 125 ∧ unst false ((stf l).take p) acc = ([], 2)) ∨
    ((p = 0 ∨ (stf l).getD (p - 1) 0 ≠ 125) ∧ ∃ m, m ≤ l.length ∧ unst false ((stf l).take p) acc = (acc ++ l.take m, 0)) := by
  induction l generalizing acc p with
  | nil =>
    have : p = 0 := by simpa [stf] using hp
    subst this
    right; exact ⟨.inl rfl, 0, by simp, by simp [stf, unst]⟩
  | cons x l ih =>
    have e : stf (x :: l) = stf1 x ++ stf l := by simp [stf]
    rw [e] at hp ⊢
    rw [List.length_append] at hp
    match p with
    | 0 => right; exact ⟨.inl rfl, 0, by simp, by simp [unst]⟩
    | 1 =>
      by_cases h1 : x = 126
      · subst h1
        left; exact ⟨by omega, rfl, rfl⟩
      · by_cases h2 : x = 125
        · subst h2
          left; exact ⟨by omega, rfl, rfl⟩
        · right
          have e1 : stf1 x = [x] := by simp [stf1, h1, h2]
          rw [e1]
          exact ⟨.inr (by simpa using h2), 1, by simp, by simp [unst, h1, h2]⟩
    | q + 2 =>
      have key : ∃ acc', ∀ r, unst false (stf1 x ++ r) acc = unst false r (acc ++ [x]) := ⟨acc, fun r => by
        have := unst_stf [x] r acc
        simpa [stf] using this⟩
      obtain ⟨_, key⟩ := key
      have hl : (stf1 x).length = 1 ∨ (stf1 x).length = 2 := by unfold stf1; split <;> (try split) <;> simp
      obtain ⟨j, hj⟩ : ∃ j, q + 2 = (stf1 x).length + j := ⟨q + 2 - (stf1 x).length, by omega⟩
      rw [hj, List.take_length_add_append, key]
      rcases ih (acc ++ [x]) j (by omega) with ⟨h0, h1, h2⟩ | ⟨h1, m, hm, h2⟩
      · left
        refine ⟨by omega, ?_, h2⟩
        rw [List.getD_eq_getElem?_getD, List.getElem?_append_right (by omega), show (stf1 x).length + j - 1 - (stf1 x).length = j - 1 by omega, ← List.getD_eq_getElem?_getD]
        exact h1
      · right
        refine ⟨.inr ?_, m + 1, by simp; omega, by rw [h2]; simp⟩
        rcases h1 with rfl | h1
        · rw [Nat.add_zero, List.getD_eq_getElem?_getD, List.getElem?_append_left (by omega)]
          have h22 : (stf1 x).length = 2 := by omega
          unfold stf1 at h22 ⊢
          split
          · simp
          · split
            · simp
            · rename_i ha hb; simp [ha, hb] at h22
        · by_cases hj0 : j = 0
          · subst hj0
            rw [Nat.add_zero, List.getD_eq_getElem?_getD, List.getElem?_append_left (by omega)]
            have h22 : (stf1 x).length = 2 := by omega
            unfold stf1 at h22 ⊢
            split
            · simp
            · split
              · simp
              · rename_i ha hb; simp [ha, hb] at h22
          · rw [List.getD_eq_getElem?_getD, List.getElem?_append_right (by omega), show (stf1 x).length + j - 1 - (stf1 x).length = j - 1 by omega, ← List.getD_eq_getElem?_getD]
            exact h1
theorem unst_flag (l : List Int) : unst false (stf l ++ [126]) [] = ([], 3) := by rw [unst_stf]; rfl
/-- What is encoded is decoded. -/
theorem fields_hd {f : Fp} (hf : f.ok) (hr : rightF f = true) : fieldsF (hdF f) = f := by
  have h := right_of hr
  have h4 := hf.q
  have h5 := hf.x
  obtain ⟨addr, kind, ses, seq, ack, B⟩ := f
  simp only at h h4 h5
  show (⟨addr, kind, ses, (seq + 2 * ack) % 2, (seq + 2 * ack) / 2, B⟩ : Fp) = _
  rw [show (seq + 2 * ack) % 2 = seq by omega, show (seq + 2 * ack) / 2 = ack by omega]
theorem inner_valid {f : Fp} (hf : f.ok) (hr : rightF f = true) : valid (innerL f) = true := by
  rw [valid_iff (innerL_inB hf hr) (by rw [innerL_len]; omega)]
  exact decide_eq_true (cf_sealed (hdF f))
theorem inner_take (f : Fp) : (innerL f).take ((innerL f).length - 2) = hdF f := by
  rw [innerL_len, show f.B.length + 7 - 2 = (hdF f).length by rw [hdF_len]; omega]
  unfold innerL
  rw [List.take_left]
theorem dec_enc {f : Fp} (hf : f.ok) (hr : rightF f = true) : decL (stf (innerL f)) = (f, 0) := by
  unfold decL
  rw [unst_back]
  simp only [ne_eq, not_true_eq_false, if_false, inner_valid hf hr, inner_take]
  rw [if_neg (by rw [innerL_len]; omega), if_neg (by simp)]
  unfold formF
  rw [fields_hd hf hr, hr]
  simp [hdF]
theorem dec_flag (l : List Int) : decL (stf l ++ [126]) = (fr0, 3) := by
  unfold decL
  rw [unst_flag]
  simp
theorem dec_cut (l : List Int) (p : Nat) (hp : p ≤ (stf l).length) (h6 : p ≤ 6) : decL ((stf l).take p) = (fr0, 2) := by
  unfold decL
  rcases unst_cut l [] p hp with ⟨_, _, h⟩ | ⟨_, m, hm, h⟩
  · rw [h]; simp
  · have hle := unst_le _ _ _ _ _ h
    rw [h]
    simp only [List.length_nil, Nat.zero_add, List.length_take] at hle
    simp only [ne_eq, not_true_eq_false, if_false]
    rw [if_pos (by rw [List.nil_append, List.length_take] at *; omega)]
/-- What is stuffed, of whatever inner bytes. -/
theorem dec_stf (m : List Int) : decL (stf m) = if m.length < 7 then (fr0, 2) else if valid m = false then (fr0, 4) else formF (m.take (m.length - 2)) := by
  unfold decL
  rw [unst_back]
  simp
theorem encL_in (f : Fp) : ((encL f).take ((encL f).length - 1)).drop 1 = stf (innerL f) := by
  rw [encL_len]
  unfold encL
  simp
theorem encL_tail (f : Fp) : (encL f).drop 1 = stf (innerL f) ++ [126] := rfl
theorem encL_ge (f : Fp) : 9 ≤ (encL f).length := by
  have := (stf_len (innerL f)).1
  have := innerL_len f
  rw [encL_len]; omega
theorem encL_le {f : Fp} (hr : rightF f = true) : (encL f).length ≤ 64 := by
  have h := (right_of hr).2.2.2.2.2.2
  have := (stf_len (innerL f)).2
  have := innerL_len f
  rw [encL_len]; omega
theorem encL_inB {f : Fp} (hf : f.ok) (hr : rightF f = true) : InB (encL f) := fun x hx => by
  rcases List.mem_append.1 hx with hx | hx
  · rw [List.mem_singleton] at hx; omega
  · rcases List.mem_append.1 hx with hx | hx
    · exact stf_inB (innerL_inB hf hr) x hx
    · rw [List.mem_singleton] at hx; omega
end Go.Proofs.YtkihoonjekccgaaDoor.K
