/- Bits, Table of a row of parts that was just laid; what begins each law. -/
import Derived.Test.YtkihoonjekccgaaDoorCv
import Derived.Deep.RegionHeld
import Derived.Deep.DrawnRows
namespace Go.Proofs.YtkihoonjekccgaaDoor.K
open Go.RowKit
attribute [local go_sem ↓] Go.wp_at_zero Go.wp_at_succ
set_option linter.unusedVariables false
set_option linter.unusedSimpArgs false
abbrev pv : Part → Value := fun p => .slice p.1 p.2.2.length p.2.1
/-- The same memory, but for draws. -/
structure Same (w w1 : World) : Prop where
  heap : w1.heap = w.heap
  os : w1.os = w.os
  tape : w1.tape = w.tape
  output : w1.output = w.output
section
variable {w w1 w2 : World} {B : Nat}
theorem Same.refl (w : World) : Same w w := ⟨rfl, rfl, rfl, rfl⟩
theorem Same.cell (h : Same w w1) (p : Addr) : w1.cell? p = w.cell? p := by unfold World.cell?; rw [h.heap]
theorem Same.turns (h : Same w w1) (k : Turns w) : Turns w1 := fun i hi => (h.cell _).trans (k i hi)
theorem Same.row {α : Type} {c : α → List Value} {size : Nat} {A : Option Addr} {l : List α} (h : Same w w1) (k : RowOf c size w B A l) : RowOf c size w1 B A l := fun i x hx => by
  obtain ⟨ad, rfl, hb, hc⟩ := k i x hx
  exact ⟨ad, rfl, hb, fun j u hu => (h.cell _).trans (hc j u hu)⟩
theorem Same.size (h : Same w w1) : w1.heap.size = w.heap.size := by rw [h.heap]
theorem Same.below (h : Same w w1) (k : Below B w1 w2) : Below B w w2 := ⟨k.os.trans h.os, k.tape.trans h.tape, k.output.trans h.output, by rw [← h.size]; exact k.size, fun j hj => (k.block j hj).trans (by rw [h.heap])⟩
theorem Same.fr {S : Nat → Prop} (h : Same w w1) (k : Fr S w1 w2) : Fr S w w2 := ⟨k.os.trans h.os, k.tape.trans h.tape, k.output.trans h.output, by rw [← h.size]; exact k.size, fun j hj hn => (k.block j (by rw [h.size]; exact hj) hn).trans (by rw [h.heap])⟩
theorem Same.row0 {α : Type} {c : α → List Value} {size : Nat} {A : Option Addr} {l : List α} (h : Same w w1) (k : RowOf c size w w.heap.size A l) : RowOf c size w1 w1.heap.size A l := (h.row k).more_ (by rw [h.size]; exact Nat.le_refl _)
end
/-- Parts that may be summed in a world. -/
def Parts (w : World) (ps : List Part) : Prop := ∀ p ∈ ps, RowOf c8 1 w w.heap.size p.1 p.2.2 ∧ InB p.2.2 ∧ p.2.2.length ≤ 140737488355328
theorem Parts.nil (w : World) : Parts w [] := fun p hp => by cases hp
theorem Parts.cons {w : World} {A : Option Addr} {c : Nat} {l : List Int} {ps : List Part} (h : RowOf c8 1 w w.heap.size A l) (hi : InB l) (hl : l.length ≤ 140737488355328) (k : Parts w ps) : Parts w ((A, c, l) :: ps) := fun p hp => by
  rcases List.mem_cons.1 hp with rfl | hp
  · exact ⟨h, hi, hl⟩
  · exact k p hp
theorem Parts.below {w w1 : World} {ps : List Part} (h : Parts w ps) (k : Below w.heap.size w w1) : Parts w1 ps := fun p hp => ⟨(h p hp).1.now k, (h p hp).2⟩
theorem CTableL {g pc n : Nat} {ps : List Part} {x : Int} {w w1 : World} (hn : ps.length = n) (hg : g = w.heap.size) (hs : Same (w.alloc (.cells (ps.map pv).toArray 32)) w1) (hT : Turns w) (h : Parts w ps) (hl : ps.length ≤ 140737488355328) (hx : crcN (flat ps) = x) :
    Calls Tryd.prog 43 #[.slice (some ⟨g, 0, none⟩) n pc] w1 fun e w' => e = .returned (.int .u16 x) ∧ Hid (Below w.heap.size w w') := by
  subst hx hn
  refine (CTableC (pc := pc) (B := w.heap.size + 1) (ps := ps) (hs.turns (hT.fr0 ((Fr.refl (fun _ => False) w).alloc _))) hl (hs.row (row_vals (t := 32) (f := pv) (fun _ => rfl) (Blk.new_at hg) (by omega)))
    (fun p hp => ⟨(hs.row ((h p hp).1.below ((Below.refl w.heap.size w).alloc (Nat.le_refl _) _))).more_ (by omega), (h p hp).2⟩)).mono ?_
  rintro e w2 ⟨rfl, rfl⟩
  exact ⟨rfl, Lib.hid (((Below.refl w.heap.size w).alloc (Nat.le_refl _) _).trans (hs.below (Below.refl _ _)))⟩
theorem CTableM {g pc n : Nat} {ps : List Part} {cs : Array Value} {x : Int} {w w1 : World} (hn : ps.length = n) (hg : g = w.heap.size) (hs : Same (w.alloc (.cells cs 32)) w1) (hcs : (ps.map pv).toArray = cs) (hT : Turns w) (h : Parts w ps) (hl : n ≤ 140737488355328) (hx : crcN (flat ps) = x) :
    Calls Tryd.prog 43 #[.slice (some ⟨g, 0, none⟩) n pc] w1 fun e w' => e = .returned (.int .u16 x) ∧ Hid (Below w.heap.size w w') := by
  subst hcs; exact CTableL hn hg hs hT h (hn ▸ hl) hx
theorem CTableN {w w1 : World} (hs : Same w w1) (hT : Turns w) : Calls Tryd.prog 43 #[.slice none 0 0] w1 fun e w' => e = .returned (.int .u16 65535) ∧ Hid (Below w.heap.size w w') := by
  refine (CTableC (pc := 0) (B := w.heap.size) (P := none) (ps := []) (hs.turns hT) (by simp) row_none (fun p hp => by cases hp)).mono ?_
  rintro e w2 ⟨rfl, rfl⟩
  exact ⟨rfl, Lib.hid (hs.below (Below.refl _ _))⟩
theorem CAppendE {A : Option Addr} {c n n2 : Nat} {l m : List Int} {w w1 : World} (hn : l.length = n) (hn2 : n + 2 = n2) (hm : l ++ be (crcN l) 2 = m) (hs : Same w w1) (hT : Turns w) (h : RowOf c8 1 w w.heap.size A l) (ha : ∀ ad, A = some ad → ad.block < w.heap.size) (hi : InB l) (hl : n + 4 ≤ 140737488355328) :
    Calls Tryd.prog 40 #[.slice A n c] w1 fun e w' => ∃ A' c', e = .returned (.slice A' n2 c') ∧ Hid (Made w.heap.size A' c' m w') ∧ Hid (Below w.heap.size w w') := by
  subst hn hn2 hm
  refine (CAppendC (c := c) (hs.turns hT) (hs.row0 h) (by rw [hs.size]; exact ha) hi hl).mono ?_
  rintro e w2 ⟨A', c', rfl, H, F⟩
  exact ⟨A', c', rfl, hs.size ▸ H, Lib.hid (hs.fr F.out).below0⟩
theorem CValidE {A : Option Addr} {c n : Nat} {b : Bool} {l : List Int} {w w1 : World} (hn : l.length = n) (hv : valid l = b) (hs : Same w w1) (hT : Turns w) (h : RowOf c8 1 w w.heap.size A l) (hi : InB l) (hl : n ≤ 140737488355328) (hc : n ≤ c) (hcm : c ≤ 9223372036854775807) :
    Calls Tryd.prog 27 #[.slice A n c] w1 fun e w' => e = .returned (.bool b) ∧ Hid (Below w.heap.size w w') := by
  subst hn hv
  refine (CValidC (hs.turns hT) (hs.row0 h) hi hl hc hcm).mono ?_
  rintro e w2 ⟨rfl, H⟩
  exact ⟨rfl, Lib.hid (hs.below (hs.size ▸ H.out))⟩
theorem made_cap {B : Nat} {A : Option Addr} {c : Nat} {l : List Int} {w : World} (h : Made B A c l w) : c ≤ 9223372036854775807 := by
  rcases h.1.2 with ⟨hv, h0⟩ | ⟨g, cap, cur, hv, _, _, _, hm, _⟩
  · injection hv with _ _ h; omega
  · injection hv with _ _ h; unfold maxLen at hm; omega
end Go.Proofs.YtkihoonjekccgaaDoor.K
