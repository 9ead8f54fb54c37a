/- Contracts for OctetsReads: whatever is asked. -/
import Derived.Test.YtfpjooekpjhbpaaDoorOWrites
namespace Go.Proofs.YtfpjooekpjhbpaaDoor.K
open Go.RowKit
set_option linter.unusedVariables false
set_option linter.unusedSimpArgs false
namespace Rd1
/-- What is taken: the bytes, the error, what is left. -/
def bof (n : Nat) (l : List Int) : List Int × Int × List Int := if n ≤ l.length then (l.take n, 0, l.drop n) else ([], 2, l)
def bofI (n : Int) (l : List Int) : List Int × Int × List Int := if n < 0 then ([], 1, l) else bof n.toNat l
theorem bof_pos {n : Nat} {l t m : List Int} {f : Int} (hu : bof n l = (t, f, m)) : (n ≤ l.length ∧ l.take n = t ∧ f = 0 ∧ l.drop n = m) ∨ (l.length < n ∧ t = [] ∧ f = 2 ∧ m = l) := by
  unfold bof at hu
  split at hu <;> simp only [Prod.mk.injEq] at hu <;> obtain ⟨h1, h2, h3⟩ := hu
  · exact .inl ⟨by assumption, h1, h2.symm, h3⟩
  · exact .inr ⟨by omega, h1.symm, h2.symm, h3.symm⟩
theorem bof_bound {n : Nat} {l t m : List Int} {f : Int} (hu : bof n l = (t, f, m)) (hb : InB l) : InB t ∧ InB m ∧ t.length ≤ n ∧ t.length ≤ l.length ∧ m.length ≤ l.length := by
  rcases bof_pos hu with ⟨h1, rfl, _, rfl⟩ | ⟨h1, rfl, _, rfl⟩
  · exact ⟨hb.take_ _, hb.drop_ _, by rw [List.length_take]; omega, by rw [List.length_take]; omega, by rw [List.length_drop]; omega⟩
  · exact ⟨fun x h => by simp at h, hb, by simp, by simp, by omega⟩
theorem bofI_bound {n : Int} {l t m : List Int} {f : Int} (hu : bofI n l = (t, f, m)) (hb : InB l) : InB t ∧ InB m ∧ t.length ≤ l.length ∧ m.length ≤ l.length := by
  unfold bofI at hu
  split at hu
  · simp only [Prod.mk.injEq] at hu
    obtain ⟨rfl, _, rfl⟩ := hu
    exact ⟨fun x h => by simp at h, hb, by simp, by omega⟩
  · have := bof_bound hu hb
    exact ⟨this.1, this.2.1, this.2.2.2⟩
theorem num_nil : num [] = 0 := rfl
section
variable {r d : Nat} {G : Option Nat} {l t m : List Int} {f : Int} {w : World}
theorem RU8A (h : Rd r G l w) (hb : InB l) (hu : bof 1 l = (t, f, m)) :
    Calls Tryd.prog 27 #[.pointer (some ⟨r, 0, none⟩)] w fun e w' => e = .returned (.tuple #[.int .u8 (num t), .int .i64 f]) ∧ Hid (Rd r G m w') ∧ Hid (Fr1 r w w') := by
  rcases bof_pos hu with ⟨h1, rfl, rfl, rfl⟩ | ⟨h1, rfl, rfl, rfl⟩
  · exact RU8_ok h h1 hb
  · exact (RU8_short h h1).mono fun e w' ⟨h1, h2⟩ => ⟨h1, Lib.hid (h2 ▸ h), Lib.hid (h2 ▸ Fr.refl _ _)⟩
theorem RU16A (h : Rd r G l w) (hb : InB l) (hu : bof 2 l = (t, f, m)) :
    Calls Tryd.prog 25 #[.pointer (some ⟨r, 0, none⟩)] w fun e w' => e = .returned (.tuple #[.int .u16 (num t), .int .i64 f]) ∧ Hid (Rd r G m w') ∧ Hid (Fr1 r w w') := by
  rcases bof_pos hu with ⟨h1, rfl, rfl, rfl⟩ | ⟨h1, rfl, rfl, rfl⟩
  · exact RU16_ok h h1 hb
  · exact (RU16_short h h1).mono fun e w' ⟨h1, h2⟩ => ⟨h1, Lib.hid (h2 ▸ h), Lib.hid (h2 ▸ Fr.refl _ _)⟩
theorem RU32A (h : Rd r G l w) (hb : InB l) (hu : bof 4 l = (t, f, m)) :
    Calls Tryd.prog 23 #[.pointer (some ⟨r, 0, none⟩)] w fun e w' => e = .returned (.tuple #[.int .u32 (num t), .int .i64 f]) ∧ Hid (Rd r G m w') ∧ Hid (Fr1 r w w') := by
  rcases bof_pos hu with ⟨h1, rfl, rfl, rfl⟩ | ⟨h1, rfl, rfl, rfl⟩
  · exact RU32_ok h h1 hb
  · exact (RU32_short h h1).mono fun e w' ⟨h1, h2⟩ => ⟨h1, Lib.hid (h2 ▸ h), Lib.hid (h2 ▸ Fr.refl _ _)⟩
theorem own_of_blk {B g : Nat} (h : Blk w g 5 (nums .u8 l).toArray) (hB : B ≤ g) (hl : l.length ≤ 9223372036854775807) : Rw B (some ⟨g, 0, none⟩) l.length l.length w :=
  ⟨nums .u8 l, by simp [nums], .inr ⟨g, l.length, (nums .u8 l).toArray, rfl, hB, h, Nat.le_refl _, by unfold maxLen; omega, by simp [nums], by simp only [Nat.mul_one]; exact List.take_of_length_le (by simp [nums])⟩⟩
theorem Rw.nil {B : Nat} : Rw B none 0 0 w := ⟨[], own_nil _ _ _ _⟩
theorem RBytesI {n : Int} (h : Rd r G l w) (hl : l.length ≤ 200) (hu : bofI n l = (t, f, m)) :
    Calls Tryd.prog 21 #[.pointer (some ⟨r, 0, none⟩), .int .i64 n] w fun e w' => ∃ A c, e = .returned (.tuple #[.slice A t.length c, .int .i64 f]) ∧ Hid (Rw w.heap.size A t.length c w') ∧ Hid (RowOf c8 1 w' w'.heap.size A t) ∧ Hid (Rd r G m w') ∧ Hid (Fr1 r w w') := by
  unfold bofI at hu
  split at hu
  · rename_i hn
    simp only [Prod.mk.injEq] at hu
    obtain ⟨rfl, rfl, rfl⟩ := hu
    refine (RBytesNeg hn).mono ?_
    rintro e w' ⟨rfl, rfl⟩
    exact ⟨none, 0, rfl, Lib.hid Rw.nil, Lib.hid row_none, Lib.hid h, Lib.hid (Fr.refl _ _)⟩
  · rename_i hn
    obtain ⟨k, rfl⟩ : ∃ k : Nat, n = k := ⟨n.toNat, by omega⟩
    rw [Int.toNat_natCast] at hu
    rcases bof_pos hu with ⟨h1, rfl, rfl, rfl⟩ | ⟨h1, rfl, rfl, rfl⟩
    · refine (RBytesOk h h1 (by omega)).mono ?_
      rintro e w' ⟨rfl, H1, H2, H3⟩
      have hl : (l.take k).length = k := by rw [List.length_take]; omega
      refine ⟨_, k, by rw [hl], Lib.hid ?_, Lib.hid (row_blk H1.out H1.out.lt), H2, H3⟩
      have := own_of_blk H1.out (Nat.le_refl _) (by omega)
      rw [hl] at this ⊢
      exact this
    · refine (RBytesShort h (by omega)).mono ?_
      rintro e w' ⟨rfl, rfl⟩
      exact ⟨none, 0, rfl, Lib.hid Rw.nil, Lib.hid row_none, Lib.hid h, Lib.hid (Fr.refl _ _)⟩
theorem TakeI {n : Int} (h : RefRd d l w) (hu : bofI n l = (t, f, m)) :
    Calls Tryd.prog 28 #[.pointer (some ⟨d, 0, none⟩), .int .i64 n] w fun e w' => e = .returned (.tuple #[.string (strOfNums t), .int .i64 f]) ∧ Hid (RefRd d m w') ∧ Hid (Fr1 d w w') := by
  unfold bofI at hu
  split at hu
  · rename_i hn
    simp only [Prod.mk.injEq] at hu
    obtain ⟨rfl, rfl, rfl⟩ := hu
    refine (TakeNeg hn).mono ?_
    rintro e w' ⟨rfl, rfl⟩
    exact ⟨rfl, Lib.hid h, Lib.hid (Fr.refl _ _)⟩
  · rename_i hn
    obtain ⟨k, rfl⟩ : ∃ k : Nat, n = k := ⟨n.toNat, by omega⟩
    rw [Int.toNat_natCast] at hu
    rcases bof_pos hu with ⟨h1, rfl, rfl, rfl⟩ | ⟨h1, rfl, rfl, rfl⟩
    · exact TakeOk h h1
    · refine (TakeShort h (by omega)).mono ?_
      rintro e w' ⟨rfl, rfl⟩
      exact ⟨rfl, Lib.hid h, Lib.hid (Fr.refl _ _)⟩
theorem RDoneI {v : Int} (h : Rd r G l w) (hv : (if l.length = 0 then (0 : Int) else 3) = v) :
    Calls Tryd.prog 26 #[.pointer (some ⟨r, 0, none⟩)] w fun e w' => e = .returned (.int .i64 v) ∧ w' = w := by subst hv; exact RDoneC h
theorem RefRd.fr {S : Nat → Prop} {w' : World} (h : RefRd d l w) (k : Fr S w w') (hd : ¬ S d) : RefRd d l w' := Blk.fr h k hd
theorem rd_ne (h : Rd r G l w) (h' : RefRd d m w) : d ≠ r ∧ ∀ g, G = some g → g ≠ d := by
  obtain ⟨o, c, cells, hb, _, _, hG, _⟩ := h
  exact ⟨Blk.ne_ (show Blk w d _ _ from h') hb (by decide), fun g e => Blk.ne_ (hG g e).1 (show Blk w d _ _ from h') (by decide)⟩
end
/-- A step of a reader. -/
structure Rst where
  kind : Int
  n : Int
abbrev Rst.c : Rst → List Value := fun s => [.int .i64 s.kind, .int .i64 s.n]
end Rd1
end Go.Proofs.YtfpjooekpjhbpaaDoor.K
