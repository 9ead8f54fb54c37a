/- ResyncThrough: for every input the call returns true, and its arguments read as before. No condition. -/
import Derived.Test.YtkihoonjekccgaaDoorCards
import Derived.Test.YtkihoonjekccgaaDoorTie
import Derived.Test.YtkihoonjekccgaaDoorRows
import Derived.Test.YtkihoonjekccgaaDoorOpen8
import Derived.Test.YtkihoonjekccgaaDoorRThrough
import Derived.WalkKit
import Derived.ProofKit
import Derived.OpenShut
import Derived.ShutString
import Derived.ChangeOld
import Derived.Below
import Derived.SizedLaws
import Derived.LaidMore
import Derived.Stop.Joined
import Derived.SevenTiedAt
namespace Go.Proofs.YtkihoonjekccgaaDoor.resyncThrough
open Go.ChangeShapes Go.WideShapes Go.ChangeAt Go.RowKit Go.Proofs.YtkihoonjekccgaaDoor.K
open Go.ChangeMaps (open_string shut_string)
set_option linter.unusedVariables false
set_option linter.unusedSimpArgs false
theorem own : ownKnob Tryd.prog.godebug = none := by kernel_rfl
theorem laidOut : laidOutB Tryd.prog = true := by kernel_rfl
theorem door_met (os : Os) (args : Array Value) : laidMetH Tryd.prog [("bytes.ErrTooLarge", Rows.laid_bytes_ErrTooLarge), ("lamplight/crc.turns", Rows.laid_lamplight_crc_turns)] ((World.doorLaid Tryd.prog 400 os).forCall (fun _ _ => 0) ⟨#[], args, []⟩).memory :=
  laidMetH_of_parts3 (fuel := 8) (laidMet_of_run' 8 (by kernel_rfl) (by kernel_rfl)) (by kernel_rfl) (by kernel_rfl)
set_option maxRecDepth 100000 in
theorem lifted (os : Os) (started : os.Started) (H : Type) (enc : TypeId × Value → H) :
    ReturnsInHanded {} Tryd.checked os 5 .any (fun w args => (Rows.resyncThroughSpec.pre enc Tryd.prog Tryd.f5 [] false w args ∧ laidMetH Tryd.prog [("bytes.ErrTooLarge", Rows.laid_bytes_ErrTooLarge), ("lamplight/crc.turns", Rows.laid_lamplight_crc_turns)] w) ∧ sizedMet enc Tryd.prog Tryd.f5 (OpenSpec.ofChange Rows.resyncThroughSpec) false w args) (Rows.resyncThroughSpec.post enc Tryd.prog Tryd.f5 false true false false) := by
  refine returnsInHanded_of_change_and (C := Tryd.checked) (X := fun w _ => laidMetH Tryd.prog [("bytes.ErrTooLarge", Rows.laid_bytes_ErrTooLarge), ("lamplight/crc.turns", Rows.laid_lamplight_crc_turns)] w) (fun _ _ _ hh h => h.of_heap hh) own started (by kernel_rfl) Tryd.func5
    (ChangeSpec.witness_shaped (enc := enc) (C := Tryd.checked) (os := os) (X := fun w _ => laidMetH Tryd.prog [("bytes.ErrTooLarge", Rows.laid_bytes_ErrTooLarge), ("lamplight/crc.turns", Rows.laid_lamplight_crc_turns)] w) false (World.doorLaid Tryd.prog 400 os) #[.slice none 0 0, .slice none 0 0, .slice none 0 0] 8 rfl (World.shaped_of_RefB (by kernel_rfl) (by kernel_rfl)) (by kernel_rfl) (by kernel_rfl) (by kernel_rfl) (door_met os _)) ?_
  intro W base args ds gs before hval0 hW hcnd hsz0 hL _
  have hsz : (DataW.weightsEach Tryd.prog (Tryd.f5.params.toList ++ Rows.resyncThroughSpec.plain.varTypes Tryd.prog) (ds ++ gs)).all (· ≤ reachBytes) = true := hsz0
  have hval : ∀ (j : Nat) t v, Tryd.f5.params[j]? = some t → args[j]? = some v → Value.okWide Tryd.prog W .any base t v := hval0
  have hW' := hW
  obtain ⟨p, q, hA0, hV, rfl, hfz, hnd⟩ := hW
  have hA : DataW.TrodAll enc Tryd.prog W 0 (fun _ => true) true Tryd.f5.params.toList args.toList ds p := hA0
  rw [Tryd.params5] at hA hval hsz
  obtain ⟨v0, vs0, d0, ds0, p0, q0, hargs, rfl, rfl, h0, r0⟩ := trodAll_cons hA
  obtain ⟨v1, vs1, d1, ds1, p1, q1, rfl, rfl, rfl, h1, r1⟩ := trodAll_cons r0
  obtain ⟨v2, vs2, d2, ds2, p2, q2, rfl, rfl, rfl, h2, r2⟩ := trodAll_cons r1
  obtain ⟨rfl, rfl, rfl⟩ := trodAll_nil r2
  obtain rfl : args = #[v0, v1, v2] := by cases args; simp_all
  obtain ⟨rfl, rfl⟩ := trodVars_none hV
  obtain ⟨A0, len0, cap0, rfl⟩ := okWide_slice Tryd.underlying32 (hval 0 32 v0 rfl rfl)
  have k0 := h0
  have lt0 : ∀ x ∈ p0, x.block < W.heap.size := by obtain ⟨m, hm⟩ := k0; exact DataW.trod_lt m _ _ _ hm
  obtain ⟨l0, m0, rr0, q0', z0, x0⟩ := open_rowOf (c := fun x : Int => [.int .u8 x]) (Q := fun x => (Lit.int .u8 x).wf = true) (size := 1) (fun _ => rfl) (by omega) (by kernel_rfl) (dec_int Tryd.underlying5) Tryd.underlying32 h0
  have y0 : len0 * 1 ≤ 140737488351232 := open_sized hsz (j := 0) (t := 32) rfl rfl Tryd.underlying32 (by kernel_rfl) h0
  obtain ⟨A1, len1, cap1, rfl⟩ := okWide_slice Tryd.underlying31 (hval 1 31 v1 rfl rfl)
  have k1 := h1
  have lt1 : ∀ x ∈ p1, x.block < W.heap.size := by obtain ⟨m, hm⟩ := k1; exact DataW.trod_lt m _ _ _ hm
  obtain ⟨l1, m1, rr1, q1', z1, x1⟩ := open_rowOf (c := cF) (Q := FxOk W) (size := 6) (fun _ => rfl) (by omega) (by kernel_rfl) (dec_frame) Tryd.underlying31 h1
  have y1 : len1 * 32 ≤ 140737488351232 := open_sized hsz (j := 1) (t := 31) rfl rfl Tryd.underlying31 (by kernel_rfl) h1
  obtain ⟨A2, len2, cap2, rfl⟩ := okWide_slice Tryd.underlying32 (hval 2 32 v2 rfl rfl)
  have k2 := h2
  have lt2 : ∀ x ∈ p2, x.block < W.heap.size := by obtain ⟨m, hm⟩ := k2; exact DataW.trod_lt m _ _ _ hm
  obtain ⟨l2, m2, rr2, q2', z2, x2⟩ := open_rowOf (c := fun x : Int => [.int .u8 x]) (Q := fun x => (Lit.int .u8 x).wf = true) (size := 1) (fun _ => rfl) (by omega) (by kernel_rfl) (dec_int Tryd.underlying5) Tryd.underlying32 h2
  have y2 : len2 * 1 ≤ 140737488351232 := open_sized hsz (j := 2) (t := 32) rfl rfl Tryd.underlying32 (by kernel_rfl) h2
  clear hA0 hval0 hsz0 hsz
  subst m0
  subst m1
  subst m2
  refine (rthrough_walk A0 cap0 l0 (by omega) A1 cap1 l1 A2 cap2 l2 W (turns_of hL) rr0 (fun x hx => wf_u8 (q0' x hx)) rr1 (fun x hx => q1' x hx) (by omega) rr2 (fun x hx => wf_u8 (q2' x hx)) (by omega)).mono fun e W' ⟨he, bel⟩ => ?_
  subst he
  exact ⟨_, rfl, _, _, _, [], _, [], hW', trodAll_mk1 (shut_bool Tryd.underlying4 _), (trodAll_cons_mk (Below.trod laidOut (by kernel_rfl) (of_decide_eq_true (by kernel_rfl)) k0 bel lt0) (trodAll_cons_mk (Below.trod laidOut (by kernel_rfl) (of_decide_eq_true (by kernel_rfl)) k1 bel lt1) (trodAll_cons_mk (Below.trod laidOut (by kernel_rfl) (of_decide_eq_true (by kernel_rfl)) k2 bel lt2) trodAll_mk0))), rfl, bel.frame _, fun h => by cases h⟩
theorem over : Rows.resyncThroughRow.holds Tryd.pinned (OpenSpec.ofChange Rows.resyncThroughSpec) :=
  OpenClaim.holds_of_wide 5 Tryd.f5 rfl rfl rfl rfl rfl rfl rfl ⟨rfl, rfl, rfl, rfl, rfl⟩ rfl rfl rfl rfl rfl (by kernel_rfl) Tryd.func5 (by kernel_rfl)
    (of_decide_eq_true (by kernel_rfl)) (by unfold Func.isWrapper; rw [if_neg (of_decide_eq_false (by kernel_rfl))]; exact ⟨rfl, rfl⟩)
    (fun os started H enc _ => lifted os started H enc)
theorem proved : Rows.ResyncThroughSaid := over
theorem card : Rows.ResyncThroughCardSaid :=
  Claim7.holds_tied_plain_at .later [] [.sentinel, .data] true (true, "e8dc8bcb96fb3d763b2440644c8ab593a16da6f00d5612ac33379d13ecea4f0f") false
    over (fun _ h => by cases h) (by kernel_rfl) (fun _ h => by cases h) resyncThrough_row_tie rfl ⟨rfl, rfl⟩ (by kernel_rfl) rfl
    (fun f fn hf hfn => by
      obtain rfl : f = 5 := Option.some.inj ((show Tryd.prog.funcNamed "lamplight/lamplightlaw05.ResyncThrough" = some 5 by kernel_rfl).symm.trans hf) |>.symm
      obtain rfl : fn = Tryd.f5 := (Option.some.inj (Tryd.func5.symm.trans hfn)).symm
      exact ⟨by kernel_rfl, fun j t ht => by
        rw [Tryd.params5] at ht
        have hm : t ∈ [32, 31] := by have := Array.mem_of_getElem? ht; simp at this; first | (simp [this]; done) | (rcases this with h | h <;> simp [h]; done) | (rcases this with h | h | h <;> simp [h]; done) | (rcases this with h | h | h | h <;> simp [h]; done) | (rcases this with h | h | h | h | h <;> simp [h]; done)
        have hall : ([32, 31].all fun u => !Tryd.prog.wantsStandIn u) = true := by kernel_rfl
        exact (show Tryd.prog.wantsStandIn t = false by simpa using List.all_eq_true.1 hall t hm)⟩)
    (by kernel_rfl)
#print axioms card
end Go.Proofs.YtkihoonjekccgaaDoor.resyncThrough
namespace Go.Proofs.YtkihoonjekccgaaDoor
/-- The card, under a short name, for the claim. -/
theorem resyncThrough_holds : Rows.ResyncThroughCardSaid := resyncThrough.card
end Go.Proofs.YtkihoonjekccgaaDoor
