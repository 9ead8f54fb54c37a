/- What the document's Stuff and Unstuff (lamplightref03) come to. -/
import Derived.Test.YtgaeifdnbajopaaParts
import Derived.Test.YtgaeifdnbajopaaPx2
namespace Go.Proofs.Ytgaeifdnbajopaa.K
open Go.RowKit Go.Proofs.YtgaeifdnbajopaaW.PrintWords Go.Proofs.YtgaeifdnbajopaaW.PrintLast Go.Proofs.YtgaeifdnbajopaaW.PrintMore
set_option linter.unusedVariables false
set_option linter.unusedSimpArgs false
def InB (l : List Int) : Prop := ∀ x ∈ l, (0 : Int) ≤ x ∧ x < 256
theorem InB.at_ {l : List Int} (h : InB l) {k : Nat} (hk : k < l.length) : 0 ≤ l.getD k 0 ∧ l.getD k 0 < 256 := by
  have : l.getD k 0 ∈ l := by rw [List.getD_eq_getElem?_getD, List.getElem?_eq_getElem hk]; exact List.getElem_mem hk
  exact h _ this
theorem bt_str {l : List Int} (h : InB l) {k : Nat} (hk : k < l.length) : bt (strOfNums l) (k : Int) = l.getD k 0 := by
  have hs := strOfNums_size l
  have h2 := h.at_ hk
  have hg : (l.getD k 0) = l[k] := by rw [List.getD_eq_getElem?_getD, List.getElem?_eq_getElem hk]; rfl
  unfold bt
  rw [Int.toNat_natCast, dif_pos (by omega)]
  have : (strOfNums l)[k]'(by omega) = UInt8.ofNat (l[k]).toNat := by
    show (strOfNums l).data[k]'_ = _
    simp [strOfNums]
  rw [this, hg]
  rw [hg] at h2
  rw [UInt8.toNat_ofNat']
  omega
theorem wrap_succ {k : Nat} (hk : k < 1000000000000) : wrap64 ((k : Int) + 1) = ((k + 1 : Nat) : Int) := by
  unfold wrap64; omega
theorem wrap_succ2 {i : Nat} (hk : i + 1 < 1000000000000) : wrap64 (((i + 1 : Nat) : Int) + 1) = ((i + 2 : Nat) : Int) := by
  obtain ⟨k, hk2⟩ : ∃ k, k = i + 1 := ⟨_, rfl⟩
  have e : i + 2 = k + 1 := by omega
  rw [e, ← hk2]
  exact wrap_succ (by omega)
theorem str_one {l : List Int} {k : Nat} (hk : k < l.length) : (strOfNums l).extract k (k + 1) = strOfNums [l.getD k 0] := by
  have hg : (l.getD k 0) = l[k] := by rw [List.getD_eq_getElem?_getD, List.getElem?_eq_getElem hk]; rfl
  rw [hg]
  apply ByteArray.ext
  apply Array.ext'
  simp [strOfNums]
  rw [List.drop_eq_getElem_cons (by simpa using hk)]
  simp
theorem rstuff_l0 (l : List Int) (hl : InB l) (hn : l.length ≤ 3000) : ∀ (r fuel i : Nat) (acc : List Int), i + r = l.length → r < fuel → acc.length ≤ 2 * i →
    Px.lamplightref03_Stuff.l0 fuel (strOfNums l) (strOfNums acc) (i : Int) = some (strOfNums (acc ++ stf (l.drop i))) := by
  intro r
  have hsz := strOfNums_size l
  induction r with
  | zero =>
    intro fuel i acc hi hf ha
    obtain ⟨f', rfl⟩ : ∃ f', fuel = f' + 1 := ⟨fuel - 1, by omega⟩
    unfold Px.lamplightref03_Stuff.l0
    rw [if_neg (by omega), List.drop_of_length_le (by omega)]
    simp [stf]
  | succ r ih =>
    intro fuel i acc hi hf ha
    obtain ⟨f', rfl⟩ : ∃ f', fuel = f' + 1 := ⟨fuel - 1, by omega⟩
    have hlt : i < l.length := by omega
    have hd0 : l.drop i = l.getD i 0 :: l.drop (i + 1) := by rw [List.drop_eq_getElem_cons hlt, List.getD_eq_getElem?_getD, List.getElem?_eq_getElem hlt]; rfl
    have hd1 : stf (l.getD i 0 :: l.drop (i + 1)) = stf1 (l.getD i 0) ++ stf (l.drop (i + 1)) := by simp [stf]
    have hd : stf (l.drop i) = stf1 (l.getD i 0) ++ stf (l.drop (i + 1)) := by rw [← hd1, ← hd0]
    have hz1 : (strOfNums [l.getD i 0]).size = 1 := strOfNums_size _
    clear hd0 hd1
    have hb := bt_str hl hlt
    have hw := wrap_succ (k := i) (by omega)
    have hs1 : (strOfNums acc).size = acc.length := strOfNums_size acc
    unfold Px.lamplightref03_Stuff.l0
    rw [if_pos (by omega), if_pos (by omega), hb, hw, hd]
    by_cases h1 : l.getD i 0 = 126
    · rw [if_pos h1, if_pos (by omega)]
      have e : (⟨#[125, 94]⟩ : ByteArray) = strOfNums [125, 94] := rfl
      rw [e, str_append, ih f' (i + 1) (acc ++ [125, 94]) (by omega) (by omega) (by simp; omega), h1]
      simp [stf1]
    · rw [if_neg h1]
      by_cases h2 : l.getD i 0 = 125
      · rw [if_pos h2, if_pos (by omega)]
        have e : (⟨#[125, 93]⟩ : ByteArray) = strOfNums [125, 93] := rfl
        rw [e, str_append, ih f' (i + 1) (acc ++ [125, 93]) (by omega) (by omega) (by simp; omega), h2]
        simp [stf1]
      · rw [if_neg h2, if_pos (by omega), if_pos (by omega), Int.toNat_natCast, Int.toNat_natCast, str_one hlt]
        rw [if_pos (by omega), str_append, ih f' (i + 1) (acc ++ [l.getD i 0]) (by omega) (by omega) (by simp; omega)]
        have : stf1 (l.getD i 0) = [l.getD i 0] := by simp only [stf1, h1, h2, if_false]
        rw [this, List.append_assoc]
/-- One step of the document's Unstuff. -/
theorem run_step (s out : ByteArray) (f i : Nat) (c : Int) (hi : (i : Int) < (s.size : Int)) (hc : bt s (i : Int) = c) (hw : wrap64 ((i : Int) + 1) = ((i + 1 : Nat) : Int)) (y : ByteArray) (hy : s.extract i (i + 1) = y) (hz : out.size + y.size ≤ 9223372036854775807) (h1 : ¬ c = 126) (h2 : ¬ c = 125) :
    Px.lamplightref03_Unstuff.l0 (f + 1) s out (i : Int) = Px.lamplightref03_Unstuff.l0 f s (out ++ y) ((i + 1 : Nat) : Int) := by
  subst hc hy
  conv => lhs; unfold Px.lamplightref03_Unstuff.l0
  rw [if_pos hi, if_pos (Int.natCast_nonneg i), if_neg h1, if_neg h2, hw, if_pos (by omega), if_pos (by omega), Int.toNat_natCast, Int.toNat_natCast, if_pos hz]
theorem run_126 (s out : ByteArray) (f i : Nat) (hi : (i : Int) < (s.size : Int)) (hc : bt s (i : Int) = 126) :
    Px.lamplightref03_Unstuff.l0 (f + 1) s out (i : Int) = some (strOfNums [], 3) := by
  unfold Px.lamplightref03_Unstuff.l0
  rw [if_pos hi, if_pos (Int.natCast_nonneg i), if_pos hc]; rfl
theorem run_short (s out : ByteArray) (f i : Nat) (hi : (i : Int) < (s.size : Int)) (hc : bt s (i : Int) = 125) (hw : wrap64 ((i : Int) + 1) = ((i + 1 : Nat) : Int)) (he : i + 1 = s.size) :
    Px.lamplightref03_Unstuff.l0 (f + 1) s out (i : Int) = some (strOfNums [], 2) := by
  have h9 : ¬ bt s (i : Int) = 126 := by rw [hc]; decide
  unfold Px.lamplightref03_Unstuff.l0
  rw [if_pos hi, if_pos (Int.natCast_nonneg i), if_neg h9, if_pos hc, hw, if_pos (by omega)]; rfl
theorem run_form (s out : ByteArray) (f i : Nat) (d : Int) (hi : (i : Int) < (s.size : Int)) (hc : bt s (i : Int) = 125) (hw : wrap64 ((i : Int) + 1) = ((i + 1 : Nat) : Int)) (he : i + 1 < s.size)
    (hd : bt s ((i + 1 : Nat) : Int) = d) (h3 : ¬ d = 94) (h4 : ¬ d = 93) :
    Px.lamplightref03_Unstuff.l0 (f + 1) s out (i : Int) = some (strOfNums [], 3) := by
  have h9 : ¬ bt s (i : Int) = 126 := by rw [hc]; decide
  subst hd
  unfold Px.lamplightref03_Unstuff.l0
  rw [if_pos hi, if_pos (Int.natCast_nonneg i), if_neg h9, if_pos hc, hw, if_neg (by omega), if_pos (by omega), if_pos (by omega), if_neg h3, if_neg h4]; rfl
theorem run_94 (s out : ByteArray) (f i : Nat) (hi : (i : Int) < (s.size : Int)) (hc : bt s (i : Int) = 125) (hw : wrap64 ((i : Int) + 1) = ((i + 1 : Nat) : Int)) (hw2 : wrap64 (((i + 1 : Nat) : Int) + 1) = ((i + 2 : Nat) : Int)) (he : i + 1 < s.size)
    (hd : bt s ((i + 1 : Nat) : Int) = 94) (hz : out.size + 1 ≤ 9223372036854775807) :
    Px.lamplightref03_Unstuff.l0 (f + 1) s out (i : Int) = Px.lamplightref03_Unstuff.l0 f s (out ++ strOfNums [126]) ((i + 2 : Nat) : Int) := by
  have h9 : ¬ bt s (i : Int) = 126 := by rw [hc]; decide
  have hk : (94 + 32 : Int) % 256 = 126 := by decide
  have hz2 : (strOfNums [126]).size = 1 := rfl
  conv => lhs; unfold Px.lamplightref03_Unstuff.l0
  rw [if_pos hi, if_pos (Int.natCast_nonneg i), if_neg h9, if_pos hc, hw, if_neg (by omega), if_pos (by omega), if_pos (by omega), hd, if_pos rfl, hk, Option.bind_some, hz2, if_pos hz, hw2]
theorem run_93 (s out : ByteArray) (f i : Nat) (hi : (i : Int) < (s.size : Int)) (hc : bt s (i : Int) = 125) (hw : wrap64 ((i : Int) + 1) = ((i + 1 : Nat) : Int)) (hw2 : wrap64 (((i + 1 : Nat) : Int) + 1) = ((i + 2 : Nat) : Int)) (he : i + 1 < s.size)
    (hd : bt s ((i + 1 : Nat) : Int) = 93) (hz : out.size + 1 ≤ 9223372036854775807) :
    Px.lamplightref03_Unstuff.l0 (f + 1) s out (i : Int) = Px.lamplightref03_Unstuff.l0 f s (out ++ strOfNums [125]) ((i + 2 : Nat) : Int) := by
  have h9 : ¬ bt s (i : Int) = 126 := by rw [hc]; decide
  have hk : (93 + 32 : Int) % 256 = 125 := by decide
  have hn : ¬ (93 : Int) = 94 := by decide
  have hz2 : (strOfNums [125]).size = 1 := rfl
  conv => lhs; unfold Px.lamplightref03_Unstuff.l0
  rw [if_pos hi, if_pos (Int.natCast_nonneg i), if_neg h9, if_pos hc, hw, if_neg (by omega), if_pos (by omega), if_pos (by omega), hd, if_neg hn, if_pos rfl, hk, Option.bind_some, hz2, if_pos hz, hw2]
theorem run_end (s out : ByteArray) (f i : Nat) (hi : ¬ (i : Int) < (s.size : Int)) : Px.lamplightref03_Unstuff.l0 (f + 1) s out (i : Int) = some (out, 0) := by
  unfold Px.lamplightref03_Unstuff.l0
  rw [if_neg hi]
theorem runstuff_l0 (l : List Int) (hl : InB l) (hn : l.length ≤ 3000) : ∀ (r fuel i : Nat) (acc : List Int), i + r = l.length → r < fuel → acc.length ≤ 2 * i →
    Px.lamplightref03_Unstuff.l0 fuel (strOfNums l) (strOfNums acc) (i : Int) = some (strOfNums (unst false (l.drop i) acc).1, (unst false (l.drop i) acc).2) := by
  intro r
  have hsz := strOfNums_size l
  induction r using Nat.strongRecOn with
  | _ r ih =>
    intro fuel i acc hi hf ha
    obtain ⟨f', rfl⟩ : ∃ f', fuel = f' + 1 := ⟨fuel - 1, by omega⟩
    have hal : acc.length ≤ 6000 := by omega
    have hs1 : (strOfNums acc).size + 1 ≤ 9223372036854775807 := by rw [strOfNums_size acc]; omega
    have ho1 : i < l.length → (i : Int) < ((strOfNums l).size : Int) := by intro h; rw [hsz]; omega
    have ho0 : ¬ i < l.length → ¬ (i : Int) < ((strOfNums l).size : Int) := by intro h; rw [hsz]; omega
    have ho3 : i + 1 < l.length → i + 1 < (strOfNums l).size := by intro h; rw [hsz]; exact h
    have ho5 : i + 1 = l.length → i + 1 = (strOfNums l).size := by intro h; rw [hsz]; exact h
    have hr2 : i + 1 < l.length → r - 2 < r ∧ i + 2 + (r - 2) = l.length ∧ r - 2 < f' := by omega
    have hr1 : i < l.length → r - 1 < r ∧ i + 1 + (r - 1) = l.length ∧ r - 1 < f' := by omega
    have hne : i < l.length → ¬ i + 1 = l.length → i + 1 < l.length := by omega
    have hac : ∀ y : Int, (acc ++ [y]).length ≤ 2 * (i + 1) ∧ (acc ++ [y]).length ≤ 2 * (i + 2) := by intro y; simp; omega
    have hdr : ¬ i < l.length → l.length ≤ i := by omega
    have hdr1 : i + 1 = l.length → l.length ≤ i + 1 := by omega
    clear hi hf ha hal hsz
    by_cases hlt : i < l.length
    · have hb := bt_str hl hlt
      have hw := wrap_succ (k := i) (Nat.lt_trans (Nat.lt_of_lt_of_le hlt hn) (by decide))
      have hd : l.drop i = l.getD i 0 :: l.drop (i + 1) := by rw [List.drop_eq_getElem_cons hlt, List.getD_eq_getElem?_getD, List.getElem?_eq_getElem hlt]; rfl
      by_cases h1 : l.getD i 0 = 126
      · rw [run_126 _ _ _ _ (ho1 hlt) (hb.trans h1), hd, h1]
        simp only [unst, if_true]
      · by_cases h2 : l.getD i 0 = 125
        · have h9 : ¬ (125 : Int) = 126 := by decide
          have hu : unst false (l.drop i) acc = unst true (l.drop (i + 1)) acc := by rw [hd, h2]; simp only [unst, h9, if_true, if_false]
          have ho2 : bt (strOfNums l) (i : Int) = 125 := hb.trans h2
          by_cases hend : i + 1 = l.length
          · rw [run_short _ _ _ _ (ho1 hlt) ho2 hw (ho5 hend), hu, List.drop_of_length_le (hdr1 hend)]
            simp only [unst]
          · have hlt2 : i + 1 < l.length := hne hlt hend
            have hb2 := bt_str hl hlt2
            have hd2 : l.drop (i + 1) = l.getD (i + 1) 0 :: l.drop (i + 2) := by rw [List.drop_eq_getElem_cons hlt2, List.getD_eq_getElem?_getD, List.getElem?_eq_getElem hlt2]; rfl
            have hr := hl.at_ hlt2
            have hw2 : wrap64 (((i + 1 : Nat) : Int) + 1) = ((i + 2 : Nat) : Int) := wrap_succ2 (Nat.lt_of_le_of_lt (Nat.le_of_lt hlt2) (Nat.lt_of_le_of_lt hn (by decide)))
            obtain ⟨q1, q2, q3⟩ := hr2 hlt2
            by_cases h3 : l.getD (i + 1) 0 = 94
            · have hu2 : unst true (l.drop (i + 1)) acc = unst false (l.drop (i + 2)) (acc ++ [126]) := by rw [hd2, h3]; simp only [unst, xor94, if_true]
              rw [run_94 (strOfNums l) (strOfNums acc) f' i (ho1 hlt) ho2 hw hw2 (ho3 hlt2) (hb2.trans h3) hs1, str_append, ih (r - 2) q1 f' (i + 2) (acc ++ [126]) q2 q3 (hac 126).2, hu, hu2]
            · by_cases h4 : l.getD (i + 1) 0 = 93
              · have hu2 : unst true (l.drop (i + 1)) acc = unst false (l.drop (i + 2)) (acc ++ [125]) := by rw [hd2, h4]; simp only [unst, xor93, h9, if_true, if_false]
                rw [run_93 (strOfNums l) (strOfNums acc) f' i (ho1 hlt) ho2 hw hw2 (ho3 hlt2) (hb2.trans h4) hs1, str_append, ih (r - 2) q1 f' (i + 2) (acc ++ [125]) q2 q3 (hac 125).2, hu, hu2]
              · have h5 : ¬ bits .xor .u8 (l.getD (i + 1) 0) 32 = 126 := fun h => h3 (xor_126 hr h)
                have h6 : ¬ bits .xor .u8 (l.getD (i + 1) 0) 32 = 125 := fun h => h4 (xor_125 hr h)
                have hu2 : unst true (l.drop (i + 1)) acc = ([], 3) := by rw [hd2]; simp only [unst, h5, h6, if_false]
                rw [run_form (strOfNums l) (strOfNums acc) f' i _ (ho1 hlt) ho2 hw (ho3 hlt2) hb2 h3 h4, hu, hu2]
        · have hu : unst false (l.drop i) acc = unst false (l.drop (i + 1)) (acc ++ [l.getD i 0]) := by rw [hd]; simp only [unst, h1, h2, if_false]
          obtain ⟨q1, q2, q3⟩ := hr1 hlt
          rw [run_step (strOfNums l) (strOfNums acc) f' i _ (ho1 hlt) hb hw _ (str_one hlt) hs1 h1 h2, str_append, ih (r - 1) q1 f' (i + 1) (acc ++ [l.getD i 0]) q2 q3 (hac _).1, hu]
    · rw [run_end _ _ _ _ (ho0 hlt), List.drop_of_length_le (hdr hlt)]
      simp only [unst]
theorem RStuffC (l : List Int) (hl : InB l) (hn : l.length ≤ 3000) (w : World) : Calls Try.prog 14 #[.string (strOfNums l)] w fun e w' => e = .returned (.string (strOfNums (stf l))) ∧ Drawn0 w w' :=
  Px.lamplightref03_Stuff.calls (l.length + 1) (strOfNums l) _ w (by
    have := rstuff_l0 l hl hn l.length (l.length + 1) 0 [] (by omega) (by omega) (by simp)
    rw [List.drop_zero, List.nil_append] at this
    exact this)
theorem RUnstuffC (l z : List Int) (f : Int) (hl : InB l) (hn : l.length ≤ 3000) (hu : unst false l [] = (z, f)) (w : World) : Calls Try.prog 13 #[.string (strOfNums l)] w fun e w' => e = .returned (.tuple #[.string (strOfNums z), .int .i64 f]) ∧ Below w.heap.size w w' :=
  Px.lamplightref03_Unstuff.calls (l.length + 1) (strOfNums l) _ _ w (by
    have := runstuff_l0 l hl hn l.length (l.length + 1) 0 [] (by omega) (by omega) (by simp)
    rw [List.drop_zero, hu] at this
    exact this)
end Go.Proofs.Ytgaeifdnbajopaa.K
