/- Between the print's words and this session's: a row of bytes. -/
import Derived.Test.YtgaeifdnbajopaaKit
import Derived.Test.YtgaeifdnbajopaaWWords
namespace Go.Proofs.Ytgaeifdnbajopaa.K
open Go.RowKit Go.Proofs.YtgaeifdnbajopaaW.PrintWords
set_option linter.unusedVariables false

theorem rowOf_C {k : IntKind} {w : World} {A : Option Addr} {n : Nat} {l : List Int} (h : Kd.C (Kd.int k) w A n l) (hn : l.length = n) : RowOf (fun x : Int => [.int k x]) 1 w w.heap.size A l := by
  intro i x hx
  obtain ⟨hi, hx'⟩ := List.getElem?_eq_some_iff.1 hx
  obtain ⟨ad, rfl, hc⟩ := Kd.at_int h (i : Int) (by omega) (by omega)
  have hr : rd l (i : Int) = x := by unfold rd; rw [Int.toNat_natCast, List.getD_eq_getElem?_getD, hx]; rfl
  rw [hr, Int.toNat_natCast] at hc
  refine ⟨ad, rfl, ?_, fun j u hu => ?_⟩
  · have := World.block_lt_of_cell? w _ hc
    rwa [block_of_add] at this
  · match j, hu with
    | 0, hu => simp at hu; subst hu; rw [Nat.mul_one, Nat.add_zero]; exact hc
theorem R_nums {k : IntKind} {e base : Nat} {w : World} {v : Value} {xs : List Int} (h : w.ownsRow base e 1 v xs.length (nums k xs)) : Kd.R (Kd.int k) e w base (fun _ => True) v xs := Kd.R_of_own h (fun _ _ => trivial)
end Go.Proofs.Ytgaeifdnbajopaa.K
