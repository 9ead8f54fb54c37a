/- What the row's condition gives out of the map. -/
import Derived.Test.YtdhfinpmcikimaaDoorRows
import Derived.Test.YtdhfinpmcikimaaDoorOpen
import Derived.Test.YtdhfinpmcikimaaDoorMc
import Derived.OpenShut
import Derived.LaidMore
import Derived.FnData
import Derived.Maps.OwnSet
import Derived.Maps.Views
import Derived.Maps.Own
namespace Go.Proofs.YtdhfinpmcikimaaDoor.K
open Go.ChangeShapes Go.WideShapes Go.ChangeAt Go.RowKit
set_option linter.unusedVariables false
set_option linter.unusedSimpArgs false
theorem look_of {H : Type} {enc : TypeId × Value → H} {W0 W : World} {base : Nat} {sp : Nat → Bool} {held : Bool} {n b : Nat} {es : Array MapEntry} {clk : Nat} {k v : Int} {D : DataW H} (hb : W.heap[b]? = some (.map es clk)) (F : Go.WideElems.Fit Tryd.prog 3 (Go.WideElems.elemAt enc Tryd.prog W0 base sp held n 5) es clk)
    (hD : D = .map ((es.toList.map (Go.WideElems.rg Tryd.prog 3 (Go.WideElems.elemAt enc Tryd.prog W0 base sp held n 5))).foldr DataW.insert [])) (hk : (Lit.int .i64 k).wf = true) (hat : ∀ zd, D.atKey (.int .i64 k) zd = .lit (.int .u8 v)) :
    (Instr.lookup 129 (.map (some b)) (.int .i64 k) false).run Tryd.prog W = .ok (.int .u8 v) W := by
  have hz : (zeroValue 5).run Tryd.prog W = .ok (.int .u8 0) W := by kernel_rfl
  rcases Go.Maps.fit_look false (Go.Maps.int_keyed Tryd.underlying3) Tryd.underlying129 hz hb F (Go.Maps.keyOf_int_mk Tryd.underlying3 (a := k) hk) with ⟨hrun, _, ha⟩ | ⟨e0, y, _, _, hrun, hR, ha, _⟩
  · have h1 := ha .nil
    rw [← hD, hat] at h1
    cases h1
  · have h1 := ha .nil
    rw [← hD, hat] at h1
    obtain ⟨a, hv, hy, _⟩ := plainElem_int_inv Tryd.underlying5 (elemAt_plainElem_int Tryd.underlying5 hR)
    rw [hy] at h1
    simp only [DataW.lit.injEq, Lit.int.injEq, true_and] at h1
    rw [hrun, hv, h1]
    rfl
theorem kn_of {W : World} (h : laidMetH Tryd.prog [("bytes.ErrTooLarge", Rows.laid_bytes_ErrTooLarge), ("lamplight/module.tells", Rows.laid_lamplight_module_tells)] W) : ∃ hm, Kn hm W := by
  rw [MakeChecks.laidMetH_plain _ _ _ (by kernel_rfl)] at h
  obtain ⟨ps, ⟨g0, t0, cs0, f0, p0, q0, hg0, ht0, hv0, hd0, ⟨g1, t1, cs1, f1, p1, q1, hg1, ht1, hv1, hd1, _, _⟩, _⟩, _, _⟩ := h
  obtain rfl := Option.some.inj ((show Tryd.prog.globalNamed "lamplight/module.tells" = some 0 by kernel_rfl).symm.trans hg1)
  obtain rfl := Option.some.inj ((show (Tryd.prog.globals[0]?).map (·.type) = some 129 by kernel_rfl).symm.trans ht1)
  rcases Go.WideElems.open_map Tryd.underlying129 hd1 with ⟨_, e⟩ | ⟨b, es, clk, n, _, hcs, hb, _, F, e⟩
  · have := (Prod.mk.inj e).1
    cases this
  · have hD := (Prod.mk.inj e).1
    have hc := World.var?_cell hg1 hv1 0
    refine ⟨b, ?_, es, clk, hb, fun W' hW' => ⟨look_of hW' F hD (by decide) (fun zd => rfl), look_of hW' F hD (by decide) (fun zd => rfl)⟩⟩
    rw [hc, ← Array.getElem?_toList, hcs]
    rfl
end Go.Proofs.YtdhfinpmcikimaaDoor.K
