/- ResyncApart: for every input the call returns true, and its arguments read as before. No condition. -/
import Derived.Test.YtkihoonjekccgaaDoorCards
import Derived.Test.YtkihoonjekccgaaDoorTie
import Derived.Test.YtkihoonjekccgaaDoorRows
import Derived.Test.YtkihoonjekccgaaDoorOpen8
import Derived.Test.YtkihoonjekccgaaDoorRApart
import Derived.WalkKit
import Derived.ProofKit
import Derived.OpenShut
import Derived.ShutString
import Derived.ChangeOld
import Derived.Below
import Derived.SizedLaws
import Derived.LaidMore
import Derived.Stop.Joined
import Derived.SevenTiedAt
namespace Go.Proofs.YtkihoonjekccgaaDoor.resyncApart
open Go.ChangeShapes Go.WideShapes Go.ChangeAt Go.RowKit Go.Proofs.YtkihoonjekccgaaDoor.K
open Go.ChangeMaps (open_string shut_string)
set_option linter.unusedVariables false
set_option linter.unusedSimpArgs false
theorem own : ownKnob Tryd.prog.godebug = none := by kernel_rfl
theorem laidOut : laidOutB Tryd.prog = true := by kernel_rfl
theorem door_met (os : Os) (args : Array Value) : laidMetH Tryd.prog [("bytes.ErrTooLarge", Rows.laid_bytes_ErrTooLarge), ("lamplight/crc.turns", Rows.laid_lamplight_crc_turns)] ((World.doorLaid Tryd.prog 400 os).forCall (fun _ _ => 0) ⟨#[], args, []⟩).memory :=
  laidMetH_of_parts3 (fuel := 8) (laidMet_of_run' 8 (by kernel_rfl) (by kernel_rfl)) (by kernel_rfl) (by kernel_rfl)
set_option maxRecDepth 100000 in
theorem lifted (os : Os) (started : os.Started) (H : Type) (enc : TypeId × Value → H) :
    ReturnsInHanded {} Tryd.checked os 8 .any (fun w args => (Rows.resyncApartSpec.pre enc Tryd.prog Tryd.f8 [] false w args ∧ laidMetH Tryd.prog [("bytes.ErrTooLarge", Rows.laid_bytes_ErrTooLarge), ("lamplight/crc.turns", Rows.laid_lamplight_crc_turns)] w) ∧ sizedMet enc Tryd.prog Tryd.f8 (OpenSpec.ofChange Rows.resyncApartSpec) false w args) (Rows.resyncApartSpec.post enc Tryd.prog Tryd.f8 false true false false) := by
  refine returnsInHanded_of_change_and (C := Tryd.checked) (X := fun w _ => laidMetH Tryd.prog [("bytes.ErrTooLarge", Rows.laid_bytes_ErrTooLarge), ("lamplight/crc.turns", Rows.laid_lamplight_crc_turns)] w) (fun _ _ _ hh h => h.of_heap hh) own started (by kernel_rfl) Tryd.func8
    (ChangeSpec.witness_shaped (enc := enc) (C := Tryd.checked) (os := os) (X := fun w _ => laidMetH Tryd.prog [("bytes.ErrTooLarge", Rows.laid_bytes_ErrTooLarge), ("lamplight/crc.turns", Rows.laid_lamplight_crc_turns)] w) false (World.doorLaid Tryd.prog 400 os) #[.slice none 0 0, .slice none 0 0] 8 rfl (World.shaped_of_RefB (by kernel_rfl) (by kernel_rfl)) (by kernel_rfl) (by kernel_rfl) (by kernel_rfl) (door_met os _)) ?_
  intro W base args ds gs before hval0 hW hcnd hsz0 hL _
  have hsz : (DataW.weightsEach Tryd.prog (Tryd.f8.params.toList ++ Rows.resyncApartSpec.plain.varTypes Tryd.prog) (ds ++ gs)).all (· ≤ reachBytes) = true := hsz0
  have hval : ∀ (j : Nat) t v, Tryd.f8.params[j]? = some t → args[j]? = some v → Value.okWide Tryd.prog W .any base t v := hval0
  have hW' := hW
  obtain ⟨p, q, hA0, hV, rfl, hfz, hnd⟩ := hW
  have hA : DataW.TrodAll enc Tryd.prog W 0 (fun _ => true) true Tryd.f8.params.toList args.toList ds p := hA0
  rw [Tryd.params8] at hA hval hsz
  obtain ⟨v0, vs0, d0, ds0, p0, q0, hargs, rfl, rfl, h0, r0⟩ := trodAll_cons hA
  obtain ⟨v1, vs1, d1, ds1, p1, q1, rfl, rfl, rfl, h1, r1⟩ := trodAll_cons r0
  obtain ⟨rfl, rfl, rfl⟩ := trodAll_nil r1
  obtain rfl : args = #[v0, v1] := by cases args; simp_all
  obtain ⟨rfl, rfl⟩ := trodVars_none hV
  obtain ⟨A0, len0, cap0, rfl⟩ := okWide_slice Tryd.underlying22 (hval 0 22 v0 rfl rfl)
  have k0 := h0
  have lt0 : ∀ x ∈ p0, x.block < W.heap.size := by obtain ⟨m, hm⟩ := k0; exact DataW.trod_lt m _ _ _ hm
  obtain ⟨l0, m0, rr0, q0', z0, x0⟩ := open_rowOf (c := cP) (Q := PartOk W) (size := 1) (fun _ => rfl) (by omega) (by kernel_rfl) (dec_bytes Tryd.underlying32 Tryd.underlying5 (by kernel_rfl)) Tryd.underlying22 h0
  have y0 : len0 * 24 ≤ 140737488351232 := open_sized hsz (j := 0) (t := 22) rfl rfl Tryd.underlying22 (by kernel_rfl) h0
  obtain ⟨A1, len1, cap1, rfl⟩ := okWide_slice Tryd.underlying57 (hval 1 57 v1 rfl rfl)
  have k1 := h1
  have lt1 : ∀ x ∈ p1, x.block < W.heap.size := by obtain ⟨m, hm⟩ := k1; exact DataW.trod_lt m _ _ _ hm
  obtain ⟨l1, m1, rr1, q1', z1, x1⟩ := open_rowOf (c := fun x : Bool => [.bool x]) (Q := fun _ => True) (size := 1) (fun _ => rfl) (by omega) (by kernel_rfl) (dec_bool Tryd.underlying4) Tryd.underlying57 h1
  have y1 : len1 * 1 ≤ 140737488351232 := open_sized hsz (j := 1) (t := 57) rfl rfl Tryd.underlying57 (by kernel_rfl) h1
  clear hA0 hval0 hsz0 hsz
  subst m0
  subst m1
  refine (rapart_walk A0 cap0 l0 A1 cap1 l1 W (turns_of hL) (in2_of rr0 q0') (by omega) rr1 (by omega)).mono fun e W' ⟨he, bel⟩ => ?_
  subst he
  exact ⟨_, rfl, _, _, _, [], _, [], hW', trodAll_mk1 (shut_bool Tryd.underlying4 _), (trodAll_cons_mk (Below.trod laidOut (by kernel_rfl) (of_decide_eq_true (by kernel_rfl)) k0 bel lt0) (trodAll_cons_mk (Below.trod laidOut (by kernel_rfl) (of_decide_eq_true (by kernel_rfl)) k1 bel lt1) trodAll_mk0)), rfl, bel.frame _, fun h => by cases h⟩
theorem over : Rows.resyncApartRow.holds Tryd.pinned (OpenSpec.ofChange Rows.resyncApartSpec) :=
  OpenClaim.holds_of_wide 8 Tryd.f8 rfl rfl rfl rfl rfl rfl rfl ⟨rfl, rfl, rfl, rfl, rfl⟩ rfl rfl rfl rfl rfl (by kernel_rfl) Tryd.func8 (by kernel_rfl)
    (of_decide_eq_true (by kernel_rfl)) (by unfold Func.isWrapper; rw [if_neg (of_decide_eq_false (by kernel_rfl))]; exact ⟨rfl, rfl⟩)
    (fun os started H enc _ => lifted os started H enc)
theorem proved : Rows.ResyncApartSaid := over
theorem card : Rows.ResyncApartCardSaid :=
  Claim7.holds_tied_plain_at .later [] [.sentinel, .data] true (true, "e8dc8bcb96fb3d763b2440644c8ab593a16da6f00d5612ac33379d13ecea4f0f") false
    over (fun _ h => by cases h) (by kernel_rfl) (fun _ h => by cases h) resyncApart_row_tie rfl ⟨rfl, rfl⟩ (by kernel_rfl) rfl
    (fun f fn hf hfn => by
      obtain rfl : f = 8 := Option.some.inj ((show Tryd.prog.funcNamed "lamplight/lamplightlaw05.ResyncApart" = some 8 by kernel_rfl).symm.trans hf) |>.symm
      obtain rfl : fn = Tryd.f8 := (Option.some.inj (Tryd.func8.symm.trans hfn)).symm
      exact ⟨by kernel_rfl, fun j t ht => by
        rw [Tryd.params8] at ht
        have hm : t ∈ [22, 57] := by have := Array.mem_of_getElem? ht; simp at this; first | (simp [this]; done) | (rcases this with h | h <;> simp [h]; done) | (rcases this with h | h | h <;> simp [h]; done) | (rcases this with h | h | h | h <;> simp [h]; done) | (rcases this with h | h | h | h | h <;> simp [h]; done)
        have hall : ([22, 57].all fun u => !Tryd.prog.wantsStandIn u) = true := by kernel_rfl
        exact (show Tryd.prog.wantsStandIn t = false by simpa using List.all_eq_true.1 hall t hm)⟩)
    (by kernel_rfl)
#print axioms card
end Go.Proofs.YtkihoonjekccgaaDoor.resyncApart
namespace Go.Proofs.YtkihoonjekccgaaDoor
/-- The card, under a short name, for the claim. -/
theorem resyncApart_holds : Rows.ResyncApartCardSaid := resyncApart.card
end Go.Proofs.YtkihoonjekccgaaDoor
