/- A world that is the same but for draws. -/
import Derived.Test.YtdhfinpmcikimaaDoorWd
namespace Go.Proofs.YtdhfinpmcikimaaDoor.K
open Go.RowKit
set_option linter.unusedVariables false
/-- The same memory, but for draws. -/
structure Same (w w1 : World) : Prop where
  heap : w1.heap = w.heap
  os : w1.os = w.os
  tape : w1.tape = w.tape
  output : w1.output = w.output
section
variable {w w1 w2 : World} {B : Nat}
theorem Same.refl (w : World) : Same w w := ⟨rfl, rfl, rfl, rfl⟩
theorem Same.cell (h : Same w w1) (p : Addr) : w1.cell? p = w.cell? p := by unfold World.cell?; rw [h.heap]
theorem Same.row {α : Type} {c : α → List Value} {size : Nat} {A : Option Addr} {l : List α} (h : Same w w1) (k : RowOf c size w B A l) : RowOf c size w1 B A l := fun i x hx => by
  obtain ⟨ad, rfl, hb, hc⟩ := k i x hx
  exact ⟨ad, rfl, hb, fun j u hu => (h.cell _).trans (hc j u hu)⟩
theorem Same.size (h : Same w w1) : w1.heap.size = w.heap.size := by rw [h.heap]
theorem Same.below (h : Same w w1) (k : Below B w1 w2) : Below B w w2 := ⟨k.os.trans h.os, k.tape.trans h.tape, k.output.trans h.output, by rw [← h.size]; exact k.size, fun j hj => (k.block j hj).trans (by rw [h.heap])⟩
theorem Same.fr {S : Nat → Prop} (h : Same w w1) (k : Fr S w1 w2) : Fr S w w2 := ⟨k.os.trans h.os, k.tape.trans h.tape, k.output.trans h.output, by rw [← h.size]; exact k.size, fun j hj hn => (k.block j (by rw [h.size]; exact hj) hn).trans (by rw [h.heap])⟩
theorem Same.row0 {α : Type} {c : α → List Value} {size : Nat} {A : Option Addr} {l : List α} (h : Same w w1) (k : RowOf c size w w.heap.size A l) : RowOf c size w1 w1.heap.size A l := (h.row k).more_ (by rw [h.size]; exact Nat.le_refl _)
end
theorem Same.fr0 {w w1 : World} (h : Same w w1) : Fr0 w w1 := ⟨h.os, h.tape, h.output, by rw [h.heap]; exact Nat.le_refl _, fun k _ _ => by rw [h.heap]⟩
end Go.Proofs.YtdhfinpmcikimaaDoor.K
