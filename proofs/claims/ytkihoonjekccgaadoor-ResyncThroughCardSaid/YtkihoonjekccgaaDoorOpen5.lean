/- What the row's condition gives out of the table. -/
import Derived.Test.YtkihoonjekccgaaDoorRows
import Derived.Test.YtkihoonjekccgaaDoorOpen
import Derived.Test.YtkihoonjekccgaaDoorCt
import Derived.OpenShut
import Derived.LaidMore
import Derived.FnData
namespace Go.Proofs.YtkihoonjekccgaaDoor.K
open Go.ChangeShapes Go.WideShapes Go.ChangeAt Go.RowKit
set_option linter.unusedVariables false
set_option linter.unusedSimpArgs false
theorem arg_lt {P : Program} {w : World} {r : Reach} {base : Nat} {t e : TypeId} (ht : P.underlying t = some (.slice e)) {A : Option Addr} {len cap : Nat} (h : Value.okWide P w r base t (.slice A len cap)) : ∀ ad, A = some ad → ad.block < w.heap.size := by
  rintro ad rfl
  simp only [Value.okWide, ht, Cell.okWide, Cell.ok, World.has] at h
  obtain ⟨_, _, _, _, row, cells, hs, _⟩ := h
  unfold World.shape? at hs
  rcases Nat.lt_or_ge ad.block w.heap.size with h | h
  · exact h
  · rw [Array.getElem?_eq_none h] at hs
    simp at hs
theorem turns_of {W : World} (h : laidMetH Tryd.prog [("bytes.ErrTooLarge", Rows.laid_bytes_ErrTooLarge), ("lamplight/crc.turns", Rows.laid_lamplight_crc_turns)] W) : Turns W := by
  rw [MakeChecks.laidMetH_plain _ _ _ (by kernel_rfl)] at h
  obtain ⟨ps, ⟨g0, t0, cs0, f0, p0, q0, hg0, ht0, hv0, hd0, ⟨g1, t1, cs1, f1, p1, q1, hg1, ht1, hv1, hd1, _, _⟩, _⟩, _, _⟩ := h
  obtain rfl := Option.some.inj ((show Tryd.prog.globalNamed "lamplight/crc.turns" = some 0 by kernel_rfl).symm.trans hg1)
  obtain rfl := Option.some.inj ((show (Tryd.prog.globals[0]?).map (·.type) = some 122 by kernel_rfl).symm.trans ht1)
  have c1 : Tryd.prog.cellsOf 97 = 1 := by kernel_rfl
  obtain ⟨xs, m, _, ex, hlen, hl, hel⟩ := DataW.trod_array Tryd.underlying122 hd1
  have e3 : [Lit.int .u16 0, .int .u16 4129, .int .u16 8258, .int .u16 12387, .int .u16 16516, .int .u16 20645, .int .u16 24774, .int .u16 28903, .int .u16 33032, .int .u16 37161, .int .u16 41290, .int .u16 45419, .int .u16 49548, .int .u16 53677, .int .u16 57806, .int .u16 61935].map DataW.lit = xs.map (·.1) := by
    have := (Prod.mk.inj ex).1
    exact DataW.agg.inj this
  intro i hi
  have k := hel i hi
  rw [c1, Nat.mul_one] at k
  have hc := World.var?_cell hg1 hv1 i
  have hxl : i < xs.length := by rw [hl]; exact hi
  rw [List.getElem?_eq_getElem hxl] at k
  obtain ⟨z, h1, h2, _⟩ := DataW.trod_int Tryd.underlying97 k
  have h4 : (xs.map (·.1))[i]? = some (DataW.lit (.int .u16 z)) := by
    rw [List.getElem?_map, List.getElem?_eq_getElem hxl, h2]; rfl
  rw [← e3, List.getElem?_map] at h4
  have h5 : cs1.toList[i]? = some (.int .u16 z) := by
    have := congrArg (fun l => l[0]?) h1
    simpa [List.getElem?_take, List.getElem?_drop] using this
  rw [hc, ← Array.getElem?_toList, h5]
  have hz : z = (i : Int) * 4129 := by
    have hi' : i = 0 ∨ i = 1 ∨ i = 2 ∨ i = 3 ∨ i = 4 ∨ i = 5 ∨ i = 6 ∨ i = 7 ∨ i = 8 ∨ i = 9 ∨ i = 10 ∨ i = 11 ∨ i = 12 ∨ i = 13 ∨ i = 14 ∨ i = 15 := by omega
    rcases hi' with h | h | h | h | h | h | h | h | h | h | h | h | h | h | h | h <;> subst h <;> simp at h4 <;> omega
  rw [hz]
end Go.Proofs.YtkihoonjekccgaaDoor.K
