/- ModuleBytes: for every input the call returns true, and its arguments read as before. No condition. -/
import Derived.Test.YtdhfinpmcikimaaDoorCards
import Derived.Test.YtdhfinpmcikimaaDoorTie
import Derived.Test.YtdhfinpmcikimaaDoorRows
import Derived.Test.YtdhfinpmcikimaaDoorOpen13
import Derived.Test.YtdhfinpmcikimaaDoorMBytes11
import Derived.WalkKit
import Derived.ProofKit
import Derived.OpenShut
import Derived.ShutString
import Derived.ChangeOld
import Derived.Below
import Derived.SizedLaws
import Derived.LaidMore
import Derived.Stop.Joined
import Derived.SevenTiedAt
namespace Go.Proofs.YtdhfinpmcikimaaDoor.moduleBytes
open Go.ChangeShapes Go.WideShapes Go.ChangeAt Go.RowKit Go.Proofs.YtdhfinpmcikimaaDoor.K
open Go.ChangeMaps (open_string shut_string)
set_option linter.unusedVariables false
set_option linter.unusedSimpArgs false
theorem own : ownKnob Tryd.prog.godebug = none := by kernel_rfl
theorem laidOut : laidOutB Tryd.prog = true := by kernel_rfl
theorem door_met (os : Os) (args : Array Value) : laidMetH Tryd.prog [("bytes.ErrTooLarge", Rows.laid_bytes_ErrTooLarge), ("lamplight/module.tells", Rows.laid_lamplight_module_tells)] ((World.doorLaid Tryd.prog 400 os).forCall (fun _ _ => 0) ⟨#[], args, []⟩).memory :=
  laidMetH_of_parts3 (fuel := 8) (laidMet_of_run' 8 (by kernel_rfl) (by kernel_rfl)) (by kernel_rfl) (by kernel_rfl)
set_option maxRecDepth 100000 in
theorem lifted (os : Os) (started : os.Started) (H : Type) (enc : TypeId × Value → H) :
    ReturnsInHanded {} Tryd.checked os 3 .any (fun w args => (Rows.moduleBytesSpec.pre enc Tryd.prog Tryd.f3 [] false w args ∧ laidMetH Tryd.prog [("bytes.ErrTooLarge", Rows.laid_bytes_ErrTooLarge), ("lamplight/module.tells", Rows.laid_lamplight_module_tells)] w) ∧ sizedMet enc Tryd.prog Tryd.f3 (OpenSpec.ofChange Rows.moduleBytesSpec) false w args) (Rows.moduleBytesSpec.post enc Tryd.prog Tryd.f3 false true false false) := by
  refine returnsInHanded_of_change_and (C := Tryd.checked) (X := fun w _ => laidMetH Tryd.prog [("bytes.ErrTooLarge", Rows.laid_bytes_ErrTooLarge), ("lamplight/module.tells", Rows.laid_lamplight_module_tells)] w) (fun _ _ _ hh h => h.of_heap hh) own started (by kernel_rfl) Tryd.func3
    (ChangeSpec.witness_shaped (enc := enc) (C := Tryd.checked) (os := os) (X := fun w _ => laidMetH Tryd.prog [("bytes.ErrTooLarge", Rows.laid_bytes_ErrTooLarge), ("lamplight/module.tells", Rows.laid_lamplight_module_tells)] w) false (World.doorLaid Tryd.prog 400 os) #[.agg #[.int .u8 0, .int .u16 0, .int .u16 0], .agg #[.int .u8 0, .int .u16 0, .int .u16 0], .slice none 0 0] 8 rfl (World.shaped_of_RefB (by kernel_rfl) (by kernel_rfl)) (by kernel_rfl) (by kernel_rfl) (by kernel_rfl) (door_met os _)) ?_
  intro W base args ds gs before hval0 hW hcnd hsz0 hL _
  have hsz : (DataW.weightsEach Tryd.prog (Tryd.f3.params.toList ++ Rows.moduleBytesSpec.plain.varTypes Tryd.prog) (ds ++ gs)).all (· ≤ reachBytes) = true := hsz0
  have hval : ∀ (j : Nat) t v, Tryd.f3.params[j]? = some t → args[j]? = some v → Value.okWide Tryd.prog W .any base t v := hval0
  have hW' := hW
  obtain ⟨p, q, hA0, hV, rfl, hfz, hnd⟩ := hW
  have hA : DataW.TrodAll enc Tryd.prog W 0 (fun _ => true) true Tryd.f3.params.toList args.toList ds p := hA0
  rw [Tryd.params3] at hA hval hsz
  obtain ⟨v0, vs0, d0, ds0, p0, q0, hargs, rfl, rfl, h0, r0⟩ := trodAll_cons hA
  obtain ⟨v1, vs1, d1, ds1, p1, q1, rfl, rfl, rfl, h1, r1⟩ := trodAll_cons r0
  obtain ⟨v2, vs2, d2, ds2, p2, q2, rfl, rfl, rfl, h2, r2⟩ := trodAll_cons r1
  obtain ⟨rfl, rfl, rfl⟩ := trodAll_nil r2
  obtain rfl : args = #[v0, v1, v2] := by cases args; simp_all
  obtain ⟨rfl, rfl⟩ := trodVars_none hV
  have k0 := h0
  have lt0 : ∀ x ∈ p0, x.block < W.heap.size := by obtain ⟨m, hm⟩ := k0; exact DataW.trod_lt m _ _ _ hm
  obtain ⟨ka0, kt0, kq0, rfl, ba0, bt0, bq0⟩ := open_cmd (hval 0 24 v0 rfl rfl) h0
  have k1 := h1
  have lt1 : ∀ x ∈ p1, x.block < W.heap.size := by obtain ⟨m, hm⟩ := k1; exact DataW.trod_lt m _ _ _ hm
  obtain ⟨ka1, kt1, kq1, rfl, ba1, bt1, bq1⟩ := open_ev (hval 1 25 v1 rfl rfl) h1
  obtain ⟨A2, len2, cap2, rfl⟩ := okWide_slice Tryd.underlying26 (hval 2 26 v2 rfl rfl)
  have k2 := h2
  have lt2 : ∀ x ∈ p2, x.block < W.heap.size := by obtain ⟨m, hm⟩ := k2; exact DataW.trod_lt m _ _ _ hm
  obtain ⟨l2, m2, rr2, q2', z2, x2⟩ := open_rowOf (c := fun x : Int => [.int .u8 x]) (Q := fun x => (Lit.int .u8 x).wf = true) (size := 1) (fun _ => rfl) (by omega) (by kernel_rfl) (dec_int Tryd.underlying5) Tryd.underlying26 h2
  have y2 : len2 * 1 ≤ 140737488351232 := open_sized hsz (j := 2) (t := 26) rfl rfl Tryd.underlying26 (by kernel_rfl) h2
  clear hA0 hval0 hsz0 hsz
  subst m2
  refine (mbytes_row (kn_of hL) A2 cap2 l2 ka0 kt0 kq0 ka1 kt1 kq1 rr2 (by omega) (fun x hx => wf_u8 (q2' x hx)) ba0 bt0 bq0 ba1 bt1 bq1).mono fun e W' ⟨he, bel⟩ => ?_
  subst he
  exact ⟨_, rfl, _, _, _, [], _, [], hW', trodAll_mk1 (shut_bool Tryd.underlying4 _), (trodAll_cons_mk (Below.trod laidOut (by kernel_rfl) (of_decide_eq_true (by kernel_rfl)) k0 bel lt0) (trodAll_cons_mk (Below.trod laidOut (by kernel_rfl) (of_decide_eq_true (by kernel_rfl)) k1 bel lt1) (trodAll_cons_mk (Below.trod laidOut (by kernel_rfl) (of_decide_eq_true (by kernel_rfl)) k2 bel lt2) trodAll_mk0))), rfl, bel.frame _, fun h => by cases h⟩
theorem over : Rows.moduleBytesRow.holds Tryd.pinned (OpenSpec.ofChange Rows.moduleBytesSpec) :=
  OpenClaim.holds_of_wide 3 Tryd.f3 rfl rfl rfl rfl rfl rfl rfl ⟨rfl, rfl, rfl, rfl, rfl⟩ rfl rfl rfl rfl rfl (by kernel_rfl) Tryd.func3 (by kernel_rfl)
    (of_decide_eq_true (by kernel_rfl)) (by unfold Func.isWrapper; rw [if_neg (of_decide_eq_false (by kernel_rfl))]; exact ⟨rfl, rfl⟩)
    (fun os started H enc _ => lifted os started H enc)
theorem proved : Rows.ModuleBytesSaid := over
theorem card : Rows.ModuleBytesCardSaid :=
  Claim7.holds_tied_plain_at .later [] [.sentinel, .mapped] true (true, "62d46cf228e96da6dca260a927adc7b5869793804f344667e719990d7b52bad6") false
    over (fun _ h => by cases h) (by kernel_rfl) (fun _ h => by cases h) moduleBytes_row_tie rfl ⟨rfl, rfl⟩ (by kernel_rfl) rfl
    (fun f fn hf hfn => by
      obtain rfl : f = 3 := Option.some.inj ((show Tryd.prog.funcNamed "lamplight/lamplightlaw11.ModuleBytes" = some 3 by kernel_rfl).symm.trans hf) |>.symm
      obtain rfl : fn = Tryd.f3 := (Option.some.inj (Tryd.func3.symm.trans hfn)).symm
      exact ⟨by kernel_rfl, fun j t ht => by
        rw [Tryd.params3] at ht
        have hm : t ∈ [24, 25, 26] := by have := Array.mem_of_getElem? ht; simp at this; first | (simp [this]; done) | (rcases this with h | h <;> simp [h]; done) | (rcases this with h | h | h <;> simp [h]; done) | (rcases this with h | h | h | h <;> simp [h]; done) | (rcases this with h | h | h | h | h <;> simp [h]; done)
        have hall : ([24, 25, 26].all fun u => !Tryd.prog.wantsStandIn u) = true := by kernel_rfl
        exact (show Tryd.prog.wantsStandIn t = false by simpa using List.all_eq_true.1 hall t hm)⟩)
    (by kernel_rfl)
#print axioms card
end Go.Proofs.YtdhfinpmcikimaaDoor.moduleBytes
namespace Go.Proofs.YtdhfinpmcikimaaDoor
/-- The card, under a short name, for the claim. -/
theorem moduleBytes_holds : Rows.ModuleBytesCardSaid := moduleBytes.card
end Go.Proofs.YtdhfinpmcikimaaDoor
