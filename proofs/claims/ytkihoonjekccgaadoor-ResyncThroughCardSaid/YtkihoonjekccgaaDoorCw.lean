/- Sealed bytes of the call's own, turned in place. -/
import Derived.Test.YtkihoonjekccgaaDoorCSame
import Derived.Test.YtkihoonjekccgaaDoorCp
namespace Go.Proofs.YtkihoonjekccgaaDoor.K
open Go.RowKit
set_option linter.unusedVariables false
set_option linter.unusedSimpArgs false
theorem Made.put {B c i : Nat} {A : Option Addr} {l : List Int} {w : World} (h : Made B A c l w) (hi : i < l.length) :
    ∃ g, A = some ⟨g, 0, none⟩ ∧ B ≤ g ∧ g < w.heap.size ∧ w.cell? ⟨g, i, none⟩ = some (.int .u8 l[i]) ∧ w.frozen? ⟨g, i, none⟩ = false ∧ ∀ x, Made B (some ⟨g, 0, none⟩) c (l.set i x) (w.setCell ⟨g, i, none⟩ (.int .u8 x)) := by
  obtain ⟨h1, h2, h3⟩ := h
  obtain ⟨g, cap, hv, hb, hlt⟩ := h1.form (by omega)
  have hA : A = some ⟨g, 0, none⟩ := by injection hv
  subst hA
  have hxl : i < (nums .u8 l).length := by rw [nums_length]; exact hi
  have hx : (nums .u8 l)[i]? = some (.int .u8 l[i]) := by simp [nums, hi]
  refine ⟨g, rfl, hb, hlt, (h1.cellAt i (by omega)).trans hx, h1.frozenAt i, fun x => ?_⟩
  have h4 := (h1.stored i (.int .u8 x)).1
  have e : (nums .u8 l).set i (.int .u8 x) = nums .u8 (l.set i x) := by simp [nums, List.map_set]
  rw [e] at h4
  refine ⟨by rw [List.length_set]; exact h4, ?_, by rw [List.length_set]; exact h3⟩
  exact row_own (c := c8) (fun _ => rfl) (by rw [← nums_flat]; rw [List.length_set]; exact h4)
theorem set_below {B g i : Nat} {v : Value} {w0 w : World} (h : Below B w0 w) (hg : B ≤ g) : Below B w0 (w.setCell ⟨g, i, none⟩ v) :=
  ⟨h.os, h.tape, h.output, by simpa [World.setCell] using h.size, fun k hk => (Below.heap_setCell w _ v k (by rintro rfl; exact absurd hk (by simp; omega))).trans (h.block k hk)⟩
theorem Made.below {B B' c : Nat} {A : Option Addr} {l : List Int} {w w' : World} (h : Made B A c l w) (k : Below B' w w') (hB : w.heap.size ≤ B') : Made B A c l w' :=
  h.fr (Fr.of_below (k.mono hB)) (fun _ _ e => e)
theorem xor_back (a b : Int) (ha : 0 ≤ a ∧ a < 256) (hb : 0 ≤ b ∧ b < 256) : bits .xor .u8 (bits .xor .u8 a b) b = a := by
  have h1 := xor_inB a b ha hb
  rw [u8_xor _ _ h1.1 h1.2 hb.1 hb.2, u8_xor a b ha.1 ha.2 hb.1 hb.2]
  simp only [Int.toNat_natCast]
  rw [Nat.xor_assoc, Nat.xor_self, Nat.xor_zero]
  omega
theorem set_size (w : World) (a : Addr) (v : Value) : (w.setCell a v).heap.size = w.heap.size := by simp [World.setCell]
/-- Valid, of a row of the call's own. -/
theorem CValidM {B M c : Nat} {A : Option Addr} {l : List Int} {b : Bool} {w : World} (hn : l.length = M) (hv : valid l = b) (hT : Turns w) (h : Made B A c l w) (hi : InB l) (hl : M ≤ 140737488355328) :
    Calls Tryd.prog 27 #[.slice A M c] w fun e w' => e = .returned (.bool b) ∧ Hid (Below w.heap.size w w') :=
  CValidE hn hv (Same.refl w) hT h.2.1 hi hl (hn ▸ h.2.2) (made_cap h)
theorem CValidS {B M c : Nat} {A : Option Addr} {l : List Int} {b : Bool} {w w1 : World} (hn : l.length = M) (hv : valid l = b) (hs : Same w w1) (hT : Turns w) (h : Made B A c l w) (hi : InB l) (hl : M ≤ 140737488355328) :
    Calls Tryd.prog 27 #[.slice A M c] w1 fun e w' => e = .returned (.bool b) ∧ Hid (Below w.heap.size w w') :=
  CValidE hn hv hs hT h.2.1 hi hl (hn ▸ h.2.2) (made_cap h)
/-- What Append made of bytes. -/
structure Sealed (l m : List Int) (M : Nat) : Prop where
  made : l ++ be (crcN l) 2 = m
  len : m.length = M
  zero : crc m = 0#16
  inB : InB m
theorem sealed_of {l : List Int} (hi : InB l) : ∃ m, Sealed l m (l.length + 2) :=
  ⟨_, rfl, by rw [List.length_append, be_length], cf_sealed l, fun x hx => (List.mem_append.1 hx).elim (hi x) (be_inB _ _ x)⟩
end Go.Proofs.YtkihoonjekccgaaDoor.K
