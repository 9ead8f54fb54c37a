/- What the laws about stuffing share: contracts of Stuff, Unstuff and shown in one form, rows of bytes and strings. -/
import Derived.Test.YtgaeifdnbajopaaPx1
namespace Go.Proofs.Ytgaeifdnbajopaa.K
open Go.RowKit Go.Proofs.YtgaeifdnbajopaaW.PrintWords
set_option linter.unusedVariables false
set_option linter.unusedSimpArgs false
/-- string(b), of a row, as the walk meets it. -/
abbrev StrAt (A : Option Addr) (c : Nat) (l : List Int) (W : World) : Prop := (convert 22 9 (.slice A l.length c)).run Try.prog W = .ok (.string (strOfNums l)) W
abbrev c8 : Int → List Value := fun x => [.int .u8 x]
theorem nums_flat (l : List Int) : nums .u8 l = l.flatMap c8 := by
  induction l with
  | nil => rfl
  | cons x l ih => simp [nums] at *; exact ih
theorem own_bytes {base : Nat} {e : TypeId} {w : World} {A : Option Addr} {cap : Nat} {l : List Int} (h : w.ownsRow base e 1 (.slice A l.length cap) l.length (nums .u8 l)) : RowOf c8 1 w w.heap.size A l := by
  intro i x hx
  have hi : i < l.length := (List.getElem?_eq_some_iff.1 hx).1
  obtain ⟨g, cap', hv, _, hlt⟩ := h.form (by omega)
  have hA : A = some ⟨g, 0, none⟩ := by injection hv
  subst hA
  refine ⟨_, rfl, hlt, fun j u hu => ?_⟩
  match j, hu with
  | 0, hu =>
    simp at hu; subst hu
    rw [Nat.mul_one, Nat.add_zero]
    exact h.cells (g := g) rfl i _ (by simp [nums, hx])
theorem RowOf.more_ {α : Type} {c : α → List Value} {size : Nat} {w : World} {B B' : Nat} {A : Option Addr} {l : List α} (h : RowOf c size w B A l) (hb : B ≤ B') : RowOf c size w B' A l := by
  intro i x hx
  obtain ⟨ad, rfl, hb', hc⟩ := h i x hx
  exact ⟨ad, rfl, by omega, hc⟩
theorem RowOf.now {α : Type} {c : α → List Value} {size : Nat} {w w' : World} {A : Option Addr} {l : List α} (h : RowOf c size w w.heap.size A l) (hb : Below w.heap.size w w') : RowOf c size w' w'.heap.size A l := (h.below hb).more_ hb.size
theorem RowOf.drew {α : Type} {c : α → List Value} {size : Nat} {w : World} {A : Option Addr} {l : List α} (h : RowOf c size w w.heap.size A l) : RowOf c size w.drew w.drew.heap.size A l := h
theorem RowOf.drewN {α : Type} {c : α → List Value} {size : Nat} {w : World} {A : Option Addr} {l : List α} (h : RowOf c size w w.heap.size A l) (n : Nat) : RowOf c size (w.drewN n) (w.drewN n).heap.size A l := h
theorem RowOf.take_ {α : Type} {c : α → List Value} {size : Nat} {w : World} {B : Nat} {A : Option Addr} {l : List α} (h : RowOf c size w B A l) (n : Nat) : RowOf c size w B A (l.take n) := by
  intro i x hx
  refine h i x ?_
  rw [List.getElem?_take] at hx
  split at hx
  · exact hx
  · cases hx
theorem reads_row {w : World} {B : Nat} {A : Option Addr} {l : List Int} (hl : l.length ≤ 9223372036854775807) (h : RowOf c8 1 w B A l) : ReadsInt w .u8 A l.length l := by
  refine ⟨rfl, hl, fun h0 => ?_⟩
  obtain ⟨ad, rfl, _, _⟩ := h.num h0
  refine ⟨ad, rfl, fun j hj => ?_⟩
  obtain ⟨ad', e, _, hc⟩ := h.num hj
  injection e with e
  subst e
  exact hc
/-- string(b). -/
theorem str_row {w : World} {B : Nat} {A : Option Addr} {l : List Int} {c : Nat} (hl : l.length ≤ 9223372036854775807) (h : RowOf c8 1 w B A l) :
    (convert 22 9 (.slice A l.length c)).run Try.prog w = .ok (.string (strOfNums l)) w :=
  string_of_reads Try.underlying22 Try.underlying5 Try.underlying9 (reads_row hl h)
theorem cut8 (A : Option Addr) (n c k : Nat) (hm : k ≤ n) (hc : n ≤ c) (W : World) : (Instr.slice 22 (.slice A n c) none (some (.int .i64 k)) none).run Try.prog W = .ok (.slice A k c) W := by
  obtain ⟨i0, hi, _, _, _⟩ := info_parts info_u8
  have := cut_to (P := Try.prog) 22 5 .i64 Try.underlying22 hi A n c k (by omega) (by omega) hc W
  rwa [Int.toNat_natCast] at this
theorem below_dr {B : Nat} {w W : World} (h : Below B w W) : Below B w W.drew := ⟨h.os, h.tape, h.output, h.size, h.block⟩
theorem shown3 (w : World) : Calls Try.prog 10 #[] w fun e w' => e = .returned (.bool true) ∧ Hid (Below w.heap.size w w') :=
  (Px.lamplightlaw03_shown.calls 4 true w (by decide +kernel)).mono fun e w' h => ⟨h.1, Lib.hid h.2⟩
theorem StuffC {A : Option Addr} {c : Nat} {l : List Int} (hl : l.length ≤ 70000000000000) (w : World) (h : RowOf c8 1 w w.heap.size A l) :
    Calls Try.prog 11 #[.slice A l.length c] w fun e w' => ∃ A' c', e = .returned (.slice A' (stf l).length c') ∧ (stf l).length ≤ c' ∧ Hid (w'.ownsRow w.heap.size 5 1 (.slice A' (stf l).length c') (stf l).length (nums .u8 (stf l))) ∧ Hid (RowOf c8 1 w' w'.heap.size A' (stf l)) ∧ Hid (Below w.heap.size w w') := by
  refine (Stuff_any A c l hl w h).mono ?_
  rintro e w' ⟨v, rfl, ho, hb⟩
  obtain ⟨A', c', rfl, hc⟩ := own_form ho
  exact ⟨A', c', rfl, hc, Lib.hid ho, Lib.hid (own_bytes ho), Lib.hid hb⟩
theorem StuffE {A : Option Addr} {c : Nat} {l m : List Int} (hm : stf l = m) (hl : l.length ≤ 70000000000000) (w : World) (h : RowOf c8 1 w w.heap.size A l) :
    Calls Try.prog 11 #[.slice A l.length c] w fun e w' => ∃ A' c', e = .returned (.slice A' m.length c') ∧ m.length ≤ c' ∧ Hid (w'.ownsRow w.heap.size 5 1 (.slice A' m.length c') m.length (nums .u8 m)) ∧ Hid (RowOf c8 1 w' w'.heap.size A' m) ∧ Hid (Below w.heap.size w w') := by
  subst hm; exact StuffC hl w h
theorem UnstuffC {A : Option Addr} {c : Nat} {l z : List Int} {f : Int} (hl : l.length ≤ 70000000000000) (hu : unst false l [] = (z, f)) (w : World) (h : RowOf c8 1 w w.heap.size A l) :
    Calls Try.prog 12 #[.slice A l.length c] w fun e w' => ∃ A' c', e = .returned (.tuple #[.slice A' z.length c', .int .i64 f]) ∧ z.length ≤ c' ∧ Hid (w'.ownsRow w.heap.size 5 1 (.slice A' z.length c') z.length (nums .u8 z)) ∧ Hid (RowOf c8 1 w' w'.heap.size A' z) ∧ Hid (Below w.heap.size w w') := by
  refine (Unstuff_any A c l hl w h).mono ?_
  rintro e w' ⟨v, rfl, ho, hb⟩
  rw [hu] at ho ⊢
  obtain ⟨A', c', rfl, hc⟩ := own_form ho
  exact ⟨A', c', rfl, hc, Lib.hid ho, Lib.hid (own_bytes ho), Lib.hid hb⟩

/-! The plain laws of stf and unst. -/
theorem stf_append (a b : List Int) : stf (a ++ b) = stf a ++ stf b := by simp [stf]
theorem xor94 : bits .xor .u8 94 32 = 126 := by decide
theorem xor93 : bits .xor .u8 93 32 = 125 := by decide
theorem unst_stf (l r acc : List Int) : unst false (stf l ++ r) acc = unst false r (acc ++ l) := by
  induction l generalizing acc with
  | nil => simp [stf]
  | cons x l ih =>
    have e : stf (x :: l) ++ r = stf1 x ++ (stf l ++ r) := by simp [stf]
    rw [e]
    by_cases h1 : x = 126
    · subst h1
      show unst false (125 :: 94 :: (stf l ++ r)) acc = _
      simp only [unst, xor94]
      simp [ih]
    · by_cases h2 : x = 125
      · subst h2
        show unst false (125 :: 93 :: (stf l ++ r)) acc = _
        simp only [unst, xor93]
        simp [ih]
      · have e1 : stf1 x = [x] := by simp [stf1, h1, h2]
        rw [e1]
        simp only [List.cons_append, List.nil_append, unst, h1, h2, if_false]
        rw [ih]; simp
theorem unst_back (l : List Int) : unst false (stf l) [] = (l, 0) := by
  have := unst_stf l [] []
  simpa [unst] using this
theorem xor_inv : ∀ c : Fin 256, (bits .xor .u8 (c.val : Int) 32 = 126 → c.val = 94) ∧ (bits .xor .u8 (c.val : Int) 32 = 125 → c.val = 93) := by decide +kernel
theorem xor_126 {c : Int} (h0 : 0 ≤ c ∧ c < 256) (h : bits .xor .u8 c 32 = 126) : c = 94 := by
  have := (xor_inv ⟨c.toNat, by omega⟩).1
  simp only [Int.toNat_of_nonneg h0.1] at this
  have := this h; omega
theorem xor_125 {c : Int} (h0 : 0 ≤ c ∧ c < 256) (h : bits .xor .u8 c 32 = 125) : c = 93 := by
  have := (xor_inv ⟨c.toNat, by omega⟩).2
  simp only [Int.toNat_of_nonneg h0.1] at this
  have := this h; omega
/-- What is unstuffed, being right, is stuffed as it was; else there is nothing. -/
theorem unst_spec (l acc : List Int) (b : Bool) (hr : ∀ x ∈ l, (0 : Int) ≤ x ∧ x < 256) :
    ((unst b l acc).2 = 0 ∧ ∃ z, (unst b l acc).1 = acc ++ z ∧ stf z = (if b then 125 :: l else l) ∧ z.length ≤ l.length) ∨ (((unst b l acc).2 = 2 ∨ (unst b l acc).2 = 3) ∧ (unst b l acc).1 = []) := by
  induction l generalizing acc b with
  | nil =>
    cases b
    · left; exact ⟨rfl, [], by simp [unst], rfl, by simp⟩
    · right; exact ⟨.inl rfl, rfl⟩
  | cons c r ih =>
    have hc := hr c (by simp)
    have hr' : ∀ x ∈ r, (0 : Int) ≤ x ∧ x < 256 := fun x hx => hr x (by simp [hx])
    cases b with
    | false =>
      by_cases h1 : c = 126
      · right; simp [unst, h1]
      · by_cases h2 : c = 125
        · subst h2
          simp only [unst, h1, if_false, if_true]
          rcases ih acc true hr' with ⟨h, z, e1, e2, e3⟩ | h
          · left; exact ⟨h, z, e1, by simpa using e2, by simp; omega⟩
          · right; exact h
        · simp only [unst, h1, h2, if_false]
          rcases ih (acc ++ [c]) false hr' with ⟨h, z, e1, e2, e3⟩ | h
          · left
            refine ⟨h, c :: z, by rw [e1]; simp, ?_, by simp; omega⟩
            have : stf (c :: z) = stf1 c ++ stf z := by simp [stf]
            rw [this, e2]; simp [stf1, h1, h2]
          · right; exact h
    | true =>
      by_cases h1 : bits .xor .u8 c 32 = 126
      · obtain rfl := xor_126 hc h1
        simp only [unst, h1, if_true]
        rcases ih (acc ++ [126]) false hr' with ⟨h, z, e1, e2, e3⟩ | h
        · left
          refine ⟨h, 126 :: z, by rw [e1]; simp, ?_, by simp; omega⟩
          have : stf (126 :: z) = stf1 126 ++ stf z := by simp [stf]
          rw [this, e2]; simp [stf1]
        · right; exact h
      · by_cases h2 : bits .xor .u8 c 32 = 125
        · obtain rfl := xor_125 hc h2
          have h9 : ¬ (125 : Int) = 126 := by decide
          simp only [unst, h1, h2, h9, if_true, if_false]
          rcases ih (acc ++ [125]) false hr' with ⟨h, z, e1, e2, e3⟩ | h
          · left
            refine ⟨h, 125 :: z, by rw [e1]; simp, ?_, by simp; omega⟩
            have : stf (125 :: z) = stf1 125 ++ stf z := by simp [stf]
            rw [this, e2]; simp [stf1]
          · right; exact h
        · right; simp [unst, h1, h2]
end Go.Proofs.Ytgaeifdnbajopaa.K
