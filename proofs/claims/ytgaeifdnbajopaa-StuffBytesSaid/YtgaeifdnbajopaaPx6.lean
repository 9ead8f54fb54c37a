-- Made by a program of this session out of the kit's print, some functions' contracts proved by hand.
import Derived.Test.YtgaeifdnbajopaaPx0
import Derived.Test.YtgaeifdnbajopaaPx1
namespace Go.Proofs.Ytgaeifdnbajopaa.Px
open Go.RowKit Go.Proofs.YtgaeifdnbajopaaW.PrintWords Go.Proofs.YtgaeifdnbajopaaW.PrintLast Go.Proofs.YtgaeifdnbajopaaW.PrintMore
attribute [local go_sem] max2_int min2_int max_two min_two max_three min_three max_four min_four   -- for this text's walks alone
set_option linter.unusedVariables false
set_option linter.unusedSimpArgs false

/-! ### lamplightlaw03_StuffBytes: function 8 -/
mutual
def lamplightlaw03_StuffBytes.j0 : Nat → Int → Bool → List Int → Int → List Int → Int → List Int → Int → Bool → Option (Bool)
  | 0, _, _, _, _, _, _, _, _, _ => none
  | k + 1, x0, x3, x4, x5, x6, x7, x8, x9, x10 => if x10 = true then (if x5 = 0 then (if (x4.length : Int) = 1 then (if 0 < (x4.length : Int) then (if (rd x4 0) = (Go.bits .xor .u8 x0 32) then (lamplightlaw03_StuffBytes.j1 k x0 x3 x6 x7 x8 x9 false) else (lamplightlaw03_StuffBytes.j1 k x0 x3 x6 x7 x8 x9 true)) else (none)) else (lamplightlaw03_StuffBytes.j1 k x0 x3 x6 x7 x8 x9 true)) else (lamplightlaw03_StuffBytes.j1 k x0 x3 x6 x7 x8 x9 true)) else (if x5 = 3 then (lamplightlaw03_StuffBytes.j1 k x0 x3 x6 x7 x8 x9 ((x4.length : Int) != 0)) else (lamplightlaw03_StuffBytes.j1 k x0 x3 x6 x7 x8 x9 true))
def lamplightlaw03_StuffBytes.j1 : Nat → Int → Bool → List Int → Int → List Int → Int → Bool → Option (Bool)
  | 0, _, _, _, _, _, _, _ => none
  | k + 1, x0, x3, x6, x7, x8, x9, x66 => if x66 = true then (some false) else (if x0 = 126 then (if x3 = true then (if x7 = 3 then (if x9 = 3 then (if (x6.length : Int) = 0 then (some ((x8.length : Int) == 0)) else (some false)) else (some false)) else (some false)) else (some false)) else (if x0 = 125 then (if x3 = true then (if x7 = 2 then (if x9 = 3 then (if (x6.length : Int) = 0 then (some ((x8.length : Int) == 0)) else (some false)) else (some false)) else (some false)) else (some false)) else (if x3 = true then (if x7 = 0 then (if x9 = 0 then (if (strOfNums x6).toList = (strOfNums (([x0] : List Int))).toList then (some ((strOfNums x8).toList == (strOfNums (([97, x0, 98] : List Int))).toList)) else (some false)) else (some false)) else (some false)) else (some false))))
end
def lamplightlaw03_StuffBytes.f (k : Nat) (a0 : Int) : Option (Bool) := (lamplightlaw03_shown.f k).bind fun t271 => ((stuff_Unstuff.f k (([125, a0] : List Int))).bind fun bt275 => ((stuff_Unstuff.f k (([a0] : List Int))).bind fun bt282 => ((stuff_Unstuff.f k (([97, a0, 98] : List Int))).bind fun bt289 => (if a0 = 94 then (lamplightlaw03_StuffBytes.j0 k a0 t271 bt275.1 bt275.2 bt282.1 bt282.2 bt289.1 bt289.2 true) else (lamplightlaw03_StuffBytes.j0 k a0 t271 bt275.1 bt275.2 bt282.1 bt282.2 bt289.1 bt289.2 (a0 == 93))))))
theorem lamplightlaw03_StuffBytes.mono_l : ∀ k, (∀ y0 y1 y2 y3 y4 y5 y6 y7 y8, LeO (lamplightlaw03_StuffBytes.j0 k y0 y1 y2 y3 y4 y5 y6 y7 y8) (lamplightlaw03_StuffBytes.j0 (k + 1) y0 y1 y2 y3 y4 y5 y6 y7 y8)) ∧ (∀ y0 y1 y2 y3 y4 y5 y6, LeO (lamplightlaw03_StuffBytes.j1 k y0 y1 y2 y3 y4 y5 y6) (lamplightlaw03_StuffBytes.j1 (k + 1) y0 y1 y2 y3 y4 y5 y6))
  | 0 => ⟨fun _ _ _ _ _ _ _ _ _ r h => by simp [lamplightlaw03_StuffBytes.j0] at h, fun _ _ _ _ _ _ _ r h => by simp [lamplightlaw03_StuffBytes.j1] at h⟩
  | k + 1 => by
    obtain ⟨ih0, ih1⟩ := lamplightlaw03_StuffBytes.mono_l k
    refine ⟨?_, ?_⟩
    · intro y0 y1 y2 y3 y4 y5 y6 y7 y8
      unfold lamplightlaw03_StuffBytes.j0
      repeat' first
      | (with_reducible exact ih0 _ _ _ _ _ _ _ _ _)
      | (with_reducible exact ih1 _ _ _ _ _ _ _)
      | (with_reducible exact lamplightlaw03_shown.mono _)
      | (with_reducible exact stuff_Unstuff.mono _ _)
      | (with_reducible exact LeO.refl _)
      | (with_reducible exact LeO.none _)
      | (with_reducible refine LeO.ite ?_ ?_)
      | (with_reducible refine LeO.bind ?_ (fun _ => ?_))
      | exact ih0 _ _ _ _ _ _ _ _ _
      | exact ih1 _ _ _ _ _ _ _
      | exact lamplightlaw03_shown.mono _
      | exact stuff_Unstuff.mono _ _
      | exact LeO.none _
      | refine LeO.ite ?_ ?_
      | refine LeO.bind ?_ (fun _ => ?_)
    · intro y0 y1 y2 y3 y4 y5 y6
      unfold lamplightlaw03_StuffBytes.j1
      repeat' first
      | (with_reducible exact ih0 _ _ _ _ _ _ _ _ _)
      | (with_reducible exact ih1 _ _ _ _ _ _ _)
      | (with_reducible exact lamplightlaw03_shown.mono _)
      | (with_reducible exact stuff_Unstuff.mono _ _)
      | (with_reducible exact LeO.refl _)
      | (with_reducible exact LeO.none _)
      | (with_reducible refine LeO.ite ?_ ?_)
      | (with_reducible refine LeO.bind ?_ (fun _ => ?_))
      | exact ih0 _ _ _ _ _ _ _ _ _
      | exact ih1 _ _ _ _ _ _ _
      | exact lamplightlaw03_shown.mono _
      | exact stuff_Unstuff.mono _ _
      | exact LeO.none _
      | refine LeO.ite ?_ ?_
      | refine LeO.bind ?_ (fun _ => ?_)
theorem lamplightlaw03_StuffBytes.mono : ∀ a0 k, LeO (lamplightlaw03_StuffBytes.f k a0) (lamplightlaw03_StuffBytes.f (k + 1) a0) := by
  intro a0 k
  obtain ⟨ih0, ih1⟩ := lamplightlaw03_StuffBytes.mono_l k
  unfold lamplightlaw03_StuffBytes.f
  repeat' first
      | (with_reducible exact ih0 _ _ _ _ _ _ _ _ _)
      | (with_reducible exact ih1 _ _ _ _ _ _ _)
      | (with_reducible exact lamplightlaw03_shown.mono _)
      | (with_reducible exact stuff_Unstuff.mono _ _)
      | (with_reducible exact LeO.refl _)
      | (with_reducible exact LeO.none _)
      | (with_reducible refine LeO.ite ?_ ?_)
      | (with_reducible refine LeO.bind ?_ (fun _ => ?_))
      | exact ih0 _ _ _ _ _ _ _ _ _
      | exact ih1 _ _ _ _ _ _ _
      | exact lamplightlaw03_shown.mono _
      | exact stuff_Unstuff.mono _ _
      | exact LeO.none _
      | refine LeO.ite ?_ ?_
      | refine LeO.bind ?_ (fun _ => ?_)
set_option maxHeartbeats 8000000 in
set_option maxRecDepth 100000 in
theorem lamplightlaw03_StuffBytes.calls (k : Nat) (a0 : Int) (r : Bool) (w : World) (h : lamplightlaw03_StuffBytes.f k a0 = some r) :
    Calls Try.prog 8 #[.int .u8 a0] w fun e w' => e = .returned (.bool r) ∧ Below w.heap.size w w' := by
  have HB := Aside0.mk (Below.refl w.heap.size w)
  have H : ((lamplightlaw03_shown.f k).bind fun t271 => ((stuff_Unstuff.f k (([125, a0] : List Int))).bind fun bt275 => ((stuff_Unstuff.f k (([a0] : List Int))).bind fun bt282 => ((stuff_Unstuff.f k (([97, a0, 98] : List Int))).bind fun bt289 => (if a0 = 94 then (lamplightlaw03_StuffBytes.j0 k a0 t271 bt275.1 bt275.2 bt282.1 bt282.2 bt289.1 bt289.2 true) else (lamplightlaw03_StuffBytes.j0 k a0 t271 bt275.1 bt275.2 bt282.1 bt282.2 bt289.1 bt289.2 (a0 == 93))))))) = some r := h
  clear h
  replace H := Option.bind_eq_some_iff.mp H
  obtain ⟨t271, A20, H⟩ := H
  replace H : ((stuff_Unstuff.f k (([125, a0] : List Int))).bind fun bt275 => ((stuff_Unstuff.f k (([a0] : List Int))).bind fun bt282 => ((stuff_Unstuff.f k (([97, a0, 98] : List Int))).bind fun bt289 => (if a0 = 94 then (lamplightlaw03_StuffBytes.j0 k a0 t271 bt275.1 bt275.2 bt282.1 bt282.2 bt289.1 bt289.2 true) else (lamplightlaw03_StuffBytes.j0 k a0 t271 bt275.1 bt275.2 bt282.1 bt282.2 bt289.1 bt289.2 (a0 == 93)))))) = some r := H
  have A2 := Aside0.mk A20
  clear A20
  obtain ⟨y272, hy272⟩ : ∃ y_ : List Int, y_ = (([125, a0] : List Int)) := ⟨_, rfl⟩
  replace H : ((stuff_Unstuff.f k y272).bind fun bt275 => ((stuff_Unstuff.f k (([a0] : List Int))).bind fun bt282 => ((stuff_Unstuff.f k (([97, a0, 98] : List Int))).bind fun bt289 => (if a0 = 94 then (lamplightlaw03_StuffBytes.j0 k a0 t271 bt275.1 bt275.2 bt282.1 bt282.2 bt289.1 bt289.2 true) else (lamplightlaw03_StuffBytes.j0 k a0 t271 bt275.1 bt275.2 bt282.1 bt282.2 bt289.1 bt289.2 (a0 == 93)))))) = some r := by first | (rw [hy272]; with_reducible exact H) | (have H2_ := (Option.bind_some _ _).symm.trans H; rw [hy272]; with_reducible exact H2_) | (have H2_ := (Option.bind_some _ _).symm.trans H; with_reducible exact H2_) | with_reducible exact H | (rw [hy272]; exact H) | exact H
  have Ny272 := Aside0.mk hy272
  clear hy272
  replace H := Option.bind_eq_some_iff.mp H
  obtain ⟨⟨t275, t276⟩, A30, H⟩ := H
  replace H : ((stuff_Unstuff.f k (([a0] : List Int))).bind fun bt282 => ((stuff_Unstuff.f k (([97, a0, 98] : List Int))).bind fun bt289 => (if a0 = 94 then (lamplightlaw03_StuffBytes.j0 k a0 t271 t275 t276 bt282.1 bt282.2 bt289.1 bt289.2 true) else (lamplightlaw03_StuffBytes.j0 k a0 t271 t275 t276 bt282.1 bt282.2 bt289.1 bt289.2 (a0 == 93))))) = some r := H
  have A3 := Aside0.mk A30
  clear A30
  obtain ⟨y279, hy279⟩ : ∃ y_ : List Int, y_ = (([a0] : List Int)) := ⟨_, rfl⟩
  replace H : ((stuff_Unstuff.f k y279).bind fun bt282 => ((stuff_Unstuff.f k (([97, a0, 98] : List Int))).bind fun bt289 => (if a0 = 94 then (lamplightlaw03_StuffBytes.j0 k a0 t271 t275 t276 bt282.1 bt282.2 bt289.1 bt289.2 true) else (lamplightlaw03_StuffBytes.j0 k a0 t271 t275 t276 bt282.1 bt282.2 bt289.1 bt289.2 (a0 == 93))))) = some r := by first | (rw [hy279]; with_reducible exact H) | (have H2_ := (Option.bind_some _ _).symm.trans H; rw [hy279]; with_reducible exact H2_) | (have H2_ := (Option.bind_some _ _).symm.trans H; with_reducible exact H2_) | with_reducible exact H | (rw [hy279]; exact H) | exact H
  have Ny279 := Aside0.mk hy279
  clear hy279
  replace H := Option.bind_eq_some_iff.mp H
  obtain ⟨⟨t282, t283⟩, A40, H⟩ := H
  replace H : ((stuff_Unstuff.f k (([97, a0, 98] : List Int))).bind fun bt289 => (if a0 = 94 then (lamplightlaw03_StuffBytes.j0 k a0 t271 t275 t276 t282 t283 bt289.1 bt289.2 true) else (lamplightlaw03_StuffBytes.j0 k a0 t271 t275 t276 t282 t283 bt289.1 bt289.2 (a0 == 93)))) = some r := H
  have A4 := Aside0.mk A40
  clear A40
  obtain ⟨y286, hy286⟩ : ∃ y_ : List Int, y_ = (([97, a0, 98] : List Int)) := ⟨_, rfl⟩
  replace H : ((stuff_Unstuff.f k y286).bind fun bt289 => (if a0 = 94 then (lamplightlaw03_StuffBytes.j0 k a0 t271 t275 t276 t282 t283 bt289.1 bt289.2 true) else (lamplightlaw03_StuffBytes.j0 k a0 t271 t275 t276 t282 t283 bt289.1 bt289.2 (a0 == 93)))) = some r := by first | (rw [hy286]; with_reducible exact H) | (have H2_ := (Option.bind_some _ _).symm.trans H; rw [hy286]; with_reducible exact H2_) | (have H2_ := (Option.bind_some _ _).symm.trans H; with_reducible exact H2_) | with_reducible exact H | (rw [hy286]; exact H) | exact H
  have Ny286 := Aside0.mk hy286
  clear hy286
  replace H := Option.bind_eq_some_iff.mp H
  obtain ⟨⟨t289, t290⟩, A50, H⟩ := H
  replace H : (if a0 = 94 then (lamplightlaw03_StuffBytes.j0 k a0 t271 t275 t276 t282 t283 t289 t290 true) else (lamplightlaw03_StuffBytes.j0 k a0 t271 t275 t276 t282 t283 t289 t290 (a0 == 93))) = some r := H
  have A5 := Aside0.mk A50
  clear A50
  have HC6 := Aside0.mk H
  clear H
  go_enter Try.func8, Try.ntmps8
  go_upto_region 5 with (first | ((with_reducible refine gate_callee (f := 10) rfl ?_); refine goesL_ (some 11) rfl rfl Try.func10 (by kernel_rfl) rfl #[] rfl (by (try simp only [List.map_toArray, List.map_cons, List.map_nil]); first | done | rfl | (simp only [List.length_drop, List.length_take]; rfl)) ?_; (with_reducible refine (lamplightlaw03_shown.calls k  t271 _ A2.out).mono ?_); rintro e w7 ⟨rfl, hb⟩; refine ⟨_, rfl, ?_⟩; have n0_ := Aside0.mk (below_step (by repeat (first | (with_reducible first | exact HB.out | apply below_alloc | apply pw_below_drewN | apply below_drew1) | exact HB.out)) hb); clear HB; have HB := n0_; clear n0_; (try clear hb); (try clear hb2); (try clear hk); (try clear hi)) | ((with_reducible refine gate_dst (N := 14) rfl ?_); (try (refine gate_guard (by rfl) ?_; dsimp only)); refine Kd.R_lit (Kd.int .u8) _ 5 ?hg (N := 14) ?hd (xs := ([125, a0] : List Int)) (inner := [.int .u8 125, .int .u8 a0]) (ok := fun _ => True) (okp := fun _ => True) ?hr ?hp (fun _ hk => hk) trivial (Below.refl _ _) (Nat.le_refl _) (by simp) ?_; (case hd => rfl); (case hg => rfl); (case hr => first | (go_simp; done) | (go_simp; rfl)); (case hp => exact (Reps.one (show Kd.M (Kd.int .u8) _ _ _ 125 [.int .u8 125] from rfl) (Reps.one (show Kd.M (Kd.int .u8) _ _ _ a0 [.int .u8 a0] from rfl) (Reps.none _ _)))); intro v273 w8 ho9 hb hg_ hnew_; clear hg_ hnew_; (first | rw [← Ny272.out] at ho9 | (simp only [Int.reduceToNat] at ho9; rw [← Ny272.out] at ho9)); have n0_ := Aside0.mk (Kd.R_lower ho9 (below_size (by repeat (first | (with_reducible first | exact HB.out | apply below_alloc | apply pw_below_drewN | apply below_drew1) | exact HB.out)))); have n1_ := Aside0.mk (below_step (by repeat (first | (with_reducible first | exact HB.out | apply below_alloc | apply pw_below_drewN | apply below_drew1) | exact HB.out)) hb); clear HB; have HO274 := n0_; have HB := n1_; clear n0_ n1_; clear hb ho9; obtain ⟨Ao10, co10, eo10⟩ := Kd.R_slice HO274.out; subst eo10) | ((with_reducible refine gate_callee (f := 12) rfl ?_); refine goesL_ (some 15) rfl rfl Try.func12 (by kernel_rfl) rfl #[.slice Ao10 y272.length co10] rfl (by (try simp only [List.map_toArray, List.map_cons, List.map_nil]); first | done | rfl | (simp only [List.length_drop, List.length_take]; rfl)) ?_; (with_reducible refine (stuff_Unstuff.calls k _ _ y272 t275 t276 _ ?side1 ?side2 A3.out).mono ?_); (case side1 => repeat (first | exact (Kd.R_reads' HO274.out).2.2 | (with_reducible refine Kd.C_alloc ?_ _) | (with_reducible refine Kd.C_drewN ?_ _) | (with_reducible refine Kd.C_drew ?_))); (case side2 => exact (Kd.R_reads' HO274.out).2.1); rintro e w11 ⟨v277, rfl, ho0, hb⟩; refine ⟨_, rfl, ?_⟩; have n0_ := Aside0.mk (Kd.R_elder' (by (with_reducible repeat (first | apply Kd.R_alloc | apply Kd.R_drewN | apply Kd.R_drew)); exact HO274.out) (Kd.R_base ho0) hb); have n1_ := Aside0.mk (Kd.R_lower (Kd.R_new' ho0 (Kd.R_lt (by (with_reducible repeat (first | apply Kd.R_alloc | apply Kd.R_drewN | apply Kd.R_drew)); exact HO274.out))) (below_size (by repeat (first | (with_reducible first | exact HB.out | apply below_alloc | apply pw_below_drewN | apply below_drew1) | exact HB.out)))); have n2_ := Aside0.mk (below_step (by repeat (first | (with_reducible first | exact HB.out | apply below_alloc | apply pw_below_drewN | apply below_drew1) | exact HB.out)) hb); clear HO274; clear HB; have HO274 := n0_; have HO278 := n1_; have HB := n2_; clear n0_ n1_ n2_; (try clear hb); (try clear hb2); (try clear hk); (try clear hi); (try clear ho0)) | ((with_reducible refine gate_dst (N := 20) rfl ?_); (try (refine gate_guard (by rfl) ?_; dsimp only)); refine Kd.R_lit (Kd.int .u8) _ 5 ?hg (N := 20) ?hd (xs := ([a0] : List Int)) (inner := [.int .u8 a0]) (ok := fun _ => True) (okp := fun _ => True) ?hr ?hp (fun _ hk => hk) trivial (Below.refl _ _) (Nat.le_refl _) (by simp) ?_; (case hd => rfl); (case hg => rfl); (case hr => first | (go_simp; done) | (go_simp; rfl)); (case hp => exact (Reps.one (show Kd.M (Kd.int .u8) _ _ _ a0 [.int .u8 a0] from rfl) (Reps.none _ _))); intro v280 w12 ho13 hb hg_ hnew_; clear hg_ hnew_; (first | rw [← Ny279.out] at ho13 | (simp only [Int.reduceToNat] at ho13; rw [← Ny279.out] at ho13)); have n0_ := Aside0.mk (Kd.R_elder' (by (with_reducible repeat (first | apply Kd.R_alloc | apply Kd.R_drewN | apply Kd.R_drew)); exact HO274.out) (Kd.R_base ho13) hb); have n1_ := Aside0.mk (Kd.R_elder' (by (with_reducible repeat (first | apply Kd.R_alloc | apply Kd.R_drewN | apply Kd.R_drew)); exact HO278.out) (Kd.R_base ho13) hb); have n2_ := Aside0.mk (Kd.R_lower (Kd.R_new' (Kd.R_new' ho13 (Kd.R_lt (by (with_reducible repeat (first | apply Kd.R_alloc | apply Kd.R_drewN | apply Kd.R_drew)); exact HO274.out))) (Kd.R_lt (by (with_reducible repeat (first | apply Kd.R_alloc | apply Kd.R_drewN | apply Kd.R_drew)); exact HO278.out))) (below_size (by repeat (first | (with_reducible first | exact HB.out | apply below_alloc | apply pw_below_drewN | apply below_drew1) | exact HB.out)))); have n3_ := Aside0.mk (below_step (by repeat (first | (with_reducible first | exact HB.out | apply below_alloc | apply pw_below_drewN | apply below_drew1) | exact HB.out)) hb); clear HO274; clear HO278; clear HB; have HO274 := n0_; have HO278 := n1_; have HO281 := n2_; have HB := n3_; clear n0_ n1_ n2_ n3_; clear hb ho13; obtain ⟨Ao14, co14, eo14⟩ := Kd.R_slice HO281.out; subst eo14) | ((with_reducible refine gate_callee (f := 12) rfl ?_); refine goesL_ (some 21) rfl rfl Try.func12 (by kernel_rfl) rfl #[.slice Ao14 y279.length co14] rfl (by (try simp only [List.map_toArray, List.map_cons, List.map_nil]); first | done | rfl | (simp only [List.length_drop, List.length_take]; rfl)) ?_; (with_reducible refine (stuff_Unstuff.calls k _ _ y279 t282 t283 _ ?side1 ?side2 A4.out).mono ?_); (case side1 => repeat (first | exact (Kd.R_reads' HO281.out).2.2 | (with_reducible refine Kd.C_alloc ?_ _) | (with_reducible refine Kd.C_drewN ?_ _) | (with_reducible refine Kd.C_drew ?_))); (case side2 => exact (Kd.R_reads' HO281.out).2.1); rintro e w15 ⟨v284, rfl, ho0, hb⟩; refine ⟨_, rfl, ?_⟩; have n0_ := Aside0.mk (Kd.R_elder' (by (with_reducible repeat (first | apply Kd.R_alloc | apply Kd.R_drewN | apply Kd.R_drew)); exact HO274.out) (Kd.R_base ho0) hb); have n1_ := Aside0.mk (Kd.R_elder' (by (with_reducible repeat (first | apply Kd.R_alloc | apply Kd.R_drewN | apply Kd.R_drew)); exact HO278.out) (Kd.R_base ho0) hb); have n2_ := Aside0.mk (Kd.R_elder' (by (with_reducible repeat (first | apply Kd.R_alloc | apply Kd.R_drewN | apply Kd.R_drew)); exact HO281.out) (Kd.R_base ho0) hb); have n3_ := Aside0.mk (Kd.R_lower (Kd.R_new' (Kd.R_new' (Kd.R_new' ho0 (Kd.R_lt (by (with_reducible repeat (first | apply Kd.R_alloc | apply Kd.R_drewN | apply Kd.R_drew)); exact HO274.out))) (Kd.R_lt (by (with_reducible repeat (first | apply Kd.R_alloc | apply Kd.R_drewN | apply Kd.R_drew)); exact HO278.out))) (Kd.R_lt (by (with_reducible repeat (first | apply Kd.R_alloc | apply Kd.R_drewN | apply Kd.R_drew)); exact HO281.out))) (below_size (by repeat (first | (with_reducible first | exact HB.out | apply below_alloc | apply pw_below_drewN | apply below_drew1) | exact HB.out)))); have n4_ := Aside0.mk (below_step (by repeat (first | (with_reducible first | exact HB.out | apply below_alloc | apply pw_below_drewN | apply below_drew1) | exact HB.out)) hb); clear HO274; clear HO278; clear HO281; clear HB; have HO274 := n0_; have HO278 := n1_; have HO281 := n2_; have HO285 := n3_; have HB := n4_; clear n0_ n1_ n2_ n3_ n4_; (try clear hb); (try clear hb2); (try clear hk); (try clear hi); (try clear ho0)) | ((with_reducible refine gate_dst (N := 26) rfl ?_); (try (refine gate_guard (by rfl) ?_; dsimp only)); refine Kd.R_lit (Kd.int .u8) _ 5 ?hg (N := 26) ?hd (xs := ([97, a0, 98] : List Int)) (inner := [.int .u8 97, .int .u8 a0, .int .u8 98]) (ok := fun _ => True) (okp := fun _ => True) ?hr ?hp (fun _ hk => hk) trivial (Below.refl _ _) (Nat.le_refl _) (by simp) ?_; (case hd => rfl); (case hg => rfl); (case hr => first | (go_simp; done) | (go_simp; rfl)); (case hp => exact (Reps.one (show Kd.M (Kd.int .u8) _ _ _ 97 [.int .u8 97] from rfl) (Reps.one (show Kd.M (Kd.int .u8) _ _ _ a0 [.int .u8 a0] from rfl) (Reps.one (show Kd.M (Kd.int .u8) _ _ _ 98 [.int .u8 98] from rfl) (Reps.none _ _))))); intro v287 w16 ho17 hb hg_ hnew_; clear hg_ hnew_; (first | rw [← Ny286.out] at ho17 | (simp only [Int.reduceToNat] at ho17; rw [← Ny286.out] at ho17)); have n0_ := Aside0.mk (Kd.R_elder' (by (with_reducible repeat (first | apply Kd.R_alloc | apply Kd.R_drewN | apply Kd.R_drew)); exact HO274.out) (Kd.R_base ho17) hb); have n1_ := Aside0.mk (Kd.R_elder' (by (with_reducible repeat (first | apply Kd.R_alloc | apply Kd.R_drewN | apply Kd.R_drew)); exact HO278.out) (Kd.R_base ho17) hb); have n2_ := Aside0.mk (Kd.R_elder' (by (with_reducible repeat (first | apply Kd.R_alloc | apply Kd.R_drewN | apply Kd.R_drew)); exact HO281.out) (Kd.R_base ho17) hb); have n3_ := Aside0.mk (Kd.R_elder' (by (with_reducible repeat (first | apply Kd.R_alloc | apply Kd.R_drewN | apply Kd.R_drew)); exact HO285.out) (Kd.R_base ho17) hb); have n4_ := Aside0.mk (Kd.R_lower (Kd.R_new' (Kd.R_new' (Kd.R_new' (Kd.R_new' ho17 (Kd.R_lt (by (with_reducible repeat (first | apply Kd.R_alloc | apply Kd.R_drewN | apply Kd.R_drew)); exact HO274.out))) (Kd.R_lt (by (with_reducible repeat (first | apply Kd.R_alloc | apply Kd.R_drewN | apply Kd.R_drew)); exact HO278.out))) (Kd.R_lt (by (with_reducible repeat (first | apply Kd.R_alloc | apply Kd.R_drewN | apply Kd.R_drew)); exact HO281.out))) (Kd.R_lt (by (with_reducible repeat (first | apply Kd.R_alloc | apply Kd.R_drewN | apply Kd.R_drew)); exact HO285.out))) (below_size (by repeat (first | (with_reducible first | exact HB.out | apply below_alloc | apply pw_below_drewN | apply below_drew1) | exact HB.out)))); have n5_ := Aside0.mk (below_step (by repeat (first | (with_reducible first | exact HB.out | apply below_alloc | apply pw_below_drewN | apply below_drew1) | exact HB.out)) hb); clear HO274; clear HO278; clear HO281; clear HO285; clear HB; have HO274 := n0_; have HO278 := n1_; have HO281 := n2_; have HO285 := n3_; have HO288 := n4_; have HB := n5_; clear n0_ n1_ n2_ n3_ n4_ n5_; clear hb ho17; obtain ⟨Ao18, co18, eo18⟩ := Kd.R_slice HO288.out; subst eo18) | ((with_reducible refine gate_callee (f := 12) rfl ?_); refine goesL_ (some 27) rfl rfl Try.func12 (by kernel_rfl) rfl #[.slice Ao18 y286.length co18] rfl (by (try simp only [List.map_toArray, List.map_cons, List.map_nil]); first | done | rfl | (simp only [List.length_drop, List.length_take]; rfl)) ?_; (with_reducible refine (stuff_Unstuff.calls k _ _ y286 t289 t290 _ ?side1 ?side2 A5.out).mono ?_); (case side1 => repeat (first | exact (Kd.R_reads' HO288.out).2.2 | (with_reducible refine Kd.C_alloc ?_ _) | (with_reducible refine Kd.C_drewN ?_ _) | (with_reducible refine Kd.C_drew ?_))); (case side2 => exact (Kd.R_reads' HO288.out).2.1); rintro e w19 ⟨v291, rfl, ho0, hb⟩; refine ⟨_, rfl, ?_⟩; have n0_ := Aside0.mk (Kd.R_elder' (by (with_reducible repeat (first | apply Kd.R_alloc | apply Kd.R_drewN | apply Kd.R_drew)); exact HO274.out) (Kd.R_base ho0) hb); have n1_ := Aside0.mk (Kd.R_elder' (by (with_reducible repeat (first | apply Kd.R_alloc | apply Kd.R_drewN | apply Kd.R_drew)); exact HO278.out) (Kd.R_base ho0) hb); have n2_ := Aside0.mk (Kd.R_elder' (by (with_reducible repeat (first | apply Kd.R_alloc | apply Kd.R_drewN | apply Kd.R_drew)); exact HO281.out) (Kd.R_base ho0) hb); have n3_ := Aside0.mk (Kd.R_elder' (by (with_reducible repeat (first | apply Kd.R_alloc | apply Kd.R_drewN | apply Kd.R_drew)); exact HO285.out) (Kd.R_base ho0) hb); have n4_ := Aside0.mk (Kd.R_elder' (by (with_reducible repeat (first | apply Kd.R_alloc | apply Kd.R_drewN | apply Kd.R_drew)); exact HO288.out) (Kd.R_base ho0) hb); have n5_ := Aside0.mk (Kd.R_lower (Kd.R_new' (Kd.R_new' (Kd.R_new' (Kd.R_new' (Kd.R_new' ho0 (Kd.R_lt (by (with_reducible repeat (first | apply Kd.R_alloc | apply Kd.R_drewN | apply Kd.R_drew)); exact HO274.out))) (Kd.R_lt (by (with_reducible repeat (first | apply Kd.R_alloc | apply Kd.R_drewN | apply Kd.R_drew)); exact HO278.out))) (Kd.R_lt (by (with_reducible repeat (first | apply Kd.R_alloc | apply Kd.R_drewN | apply Kd.R_drew)); exact HO281.out))) (Kd.R_lt (by (with_reducible repeat (first | apply Kd.R_alloc | apply Kd.R_drewN | apply Kd.R_drew)); exact HO285.out))) (Kd.R_lt (by (with_reducible repeat (first | apply Kd.R_alloc | apply Kd.R_drewN | apply Kd.R_drew)); exact HO288.out))) (below_size (by repeat (first | (with_reducible first | exact HB.out | apply below_alloc | apply pw_below_drewN | apply below_drew1) | exact HB.out)))); have n6_ := Aside0.mk (below_step (by repeat (first | (with_reducible first | exact HB.out | apply below_alloc | apply pw_below_drewN | apply below_drew1) | exact HB.out)) hb); clear HO274; clear HO278; clear HO281; clear HO285; clear HO288; clear HB; have HO274 := n0_; have HO278 := n1_; have HO281 := n2_; have HO285 := n3_; have HO288 := n4_; have HO292 := n5_; have HB := n6_; clear n0_ n1_ n2_ n3_ n4_ n5_ n6_; (try clear hb); (try clear hb2); (try clear hk); (try clear hi); (try clear ho0)))
  (try simp only [Act.put, List.setIfInBounds_toArray, List.set_cons_zero, List.set_cons_succ])
  go_cut [10] (fun v10 wc => ∃ (kq : Nat) (x10_5 : Bool), v10 = .bool x10_5 ∧ Aside0 (lamplightlaw03_StuffBytes.j0 kq a0 t271 t275 t276 t282 t283 t289 t290 x10_5 = some r) ∧ Aside0 (kq ≤ k) ∧ Aside0 (Kd.R (Kd.int .u8) 5 wc w.heap.size (fun k_ => some k_ ≠ (v284 : Value).ownBlock ∧ some k_ ≠ (v291 : Value).ownBlock) v277 t275) ∧ Aside0 (Kd.R (Kd.int .u8) 5 wc w.heap.size (fun k_ => some k_ ≠ (v277 : Value).ownBlock ∧ some k_ ≠ (v291 : Value).ownBlock) v284 t282) ∧ Aside0 (Kd.R (Kd.int .u8) 5 wc w.heap.size (fun k_ => some k_ ≠ (v277 : Value).ownBlock ∧ some k_ ≠ (v284 : Value).ownBlock) v291 t289) ∧ Aside0 (Below w.heap.size w wc))
  case first =>
    have H := HC6.out
    clear HC6
    by_cases c20 : a0 = 94
    · rw [if_pos c20] at H
      have c20b0 : (a0 == 94) = true := beq_iff_eq.mpr c20
      have c20b1 : (a0 != 94) = false := bne_eq_false_iff_eq.mpr c20
      clear c20
      (first | rw [c20b0] | (simp only [i64_w, i32_w]; rw [c20b0]) | skip)
      have H' := Aside0.mk H
      clear H
      go_wp2
      go_meet
      case rel => exact ⟨_, (true), (by first | rfl | (simp; done) | (simp [*]; done)), H', ⟨by first | omega | exact Nat.le_refl _⟩, ⟨by (with_reducible repeat (first | apply Kd.R_alloc | apply Kd.R_drewN | apply Kd.R_drew)); exact Kd.R_mono HO278.out (fun _ hk => ⟨hk.1.1.2, hk.2⟩)⟩, ⟨by (with_reducible repeat (first | apply Kd.R_alloc | apply Kd.R_drewN | apply Kd.R_drew)); exact Kd.R_mono HO285.out (fun _ hk => ⟨hk.1.1.1.2, hk.2⟩)⟩, ⟨by (with_reducible repeat (first | apply Kd.R_alloc | apply Kd.R_drewN | apply Kd.R_drew)); exact Kd.R_mono HO292.out (fun _ hk => ⟨hk.1.1.1.2, hk.1.2⟩)⟩, ⟨by repeat (first | (with_reducible first | exact HB.out | apply below_alloc | apply pw_below_drewN | apply below_drew1) | exact HB.out)⟩⟩
    · rw [if_neg c20] at H
      have c20b0 : (a0 == 94) = false := beq_eq_false_iff_ne.mpr c20
      have c20b1 : (a0 != 94) = true := bne_iff_ne.mpr c20
      (first | rw [c20b0] | (simp only [i64_w, i32_w]; rw [c20b0]) | skip)
      have H' := Aside0.mk H
      clear H
      go_wp2
      go_meet
      case rel => exact ⟨_, ((a0 == 93)), (by first | rfl | (simp; done) | (simp [*]; done)), H', ⟨by first | omega | exact Nat.le_refl _⟩, ⟨by (with_reducible repeat (first | apply Kd.R_alloc | apply Kd.R_drewN | apply Kd.R_drew)); exact Kd.R_mono HO278.out (fun _ hk => ⟨hk.1.1.2, hk.2⟩)⟩, ⟨by (with_reducible repeat (first | apply Kd.R_alloc | apply Kd.R_drewN | apply Kd.R_drew)); exact Kd.R_mono HO285.out (fun _ hk => ⟨hk.1.1.1.2, hk.2⟩)⟩, ⟨by (with_reducible repeat (first | apply Kd.R_alloc | apply Kd.R_drewN | apply Kd.R_drew)); exact Kd.R_mono HO292.out (fun _ hk => ⟨hk.1.1.1.2, hk.1.2⟩)⟩, ⟨by repeat (first | (with_reducible first | exact HB.out | apply below_alloc | apply pw_below_drewN | apply below_drew1) | exact HB.out)⟩⟩
  case rest =>
    clear HC6
    try clear c1
    try clear c2
    try clear p2
    try clear c8
    try clear c10
    try clear c12
    try clear c20
    try clear c20b0
    try clear c20b1
    obtain ⟨kq, x10_5, rfl, HA, HJ5, HO_4, HO_6, HO_8, HB⟩ := hcut
    cases kq with
    | zero => exact absurd HA.out (by simp [lamplightlaw03_StuffBytes.j0])
    | succ kj5 =>
      have H := HA.out
      clear HA
      simp only [lamplightlaw03_StuffBytes.j0] at H
      have HC21 := Aside0.mk H
      clear H
      go_upto_region 6 with (fail)
      go_cut [66] (fun v66 wc => ∃ (kq : Nat) (x66_20 : Bool), v66 = .bool x66_20 ∧ Aside0 (lamplightlaw03_StuffBytes.j1 kq a0 t271 t282 t283 t289 t290 x66_20 = some r) ∧ Aside0 (kq ≤ kj5) ∧ Aside0 (Kd.R (Kd.int .u8) 5 wc w.heap.size (fun k_ => some k_ ≠ (v291 : Value).ownBlock) v284 t282) ∧ Aside0 (Kd.R (Kd.int .u8) 5 wc w.heap.size (fun k_ => some k_ ≠ (v284 : Value).ownBlock) v291 t289) ∧ Aside0 (Below w.heap.size w wc))
      case first =>
        have H := HC21.out
        clear HC21
        by_cases c22 : x10_5 = true
        · subst c22
          have H1 : (if t276 = 0 then (if (t275.length : Int) = 1 then (if 0 < (t275.length : Int) then (if (rd t275 0) = (Go.bits .xor .u8 a0 32) then (lamplightlaw03_StuffBytes.j1 kj5 a0 t271 t282 t283 t289 t290 false) else (lamplightlaw03_StuffBytes.j1 kj5 a0 t271 t282 t283 t289 t290 true)) else (none)) else (lamplightlaw03_StuffBytes.j1 kj5 a0 t271 t282 t283 t289 t290 true)) else (lamplightlaw03_StuffBytes.j1 kj5 a0 t271 t282 t283 t289 t290 true)) = some r := by rw [if_pos rfl] at H; exact H
          clear H
          have H := H1
          clear H1
          by_cases c23 : t276 = 0
          · rw [if_pos c23] at H
            have c23b0 : (t276 == 0) = true := beq_iff_eq.mpr c23
            have c23b1 : (t276 != 0) = false := bne_eq_false_iff_eq.mpr c23
            clear c23
            (first | rw [c23b0] | (simp only [i64_w, i32_w]; rw [c23b0]) | skip)
            by_cases c24 : (t275.length : Int) = 1
            · rw [if_pos c24] at H
              have c24b0 : ((t275.length : Int) == 1) = true := beq_iff_eq.mpr c24
              have c24b1 : ((t275.length : Int) != 1) = false := bne_eq_false_iff_eq.mpr c24
              clear c24
              by_cases c25 : 0 < (t275.length : Int)
              · rw [if_pos c25] at H
                have c25b0 : decide (0 < (t275.length : Int)) = true := decide_eq_true c25
                have c25b1 : decide (0 < t275.length) = true := decide_eq_true (by omega)
                clear c25
                by_cases c26 : (rd t275 0) = (Go.bits .xor .u8 a0 32)
                · rw [if_pos c26] at H
                  have c26b0 : ((rd t275 0) == (Go.bits .xor .u8 a0 32)) = true := beq_iff_eq.mpr c26
                  have c26b1 : ((rd t275 0) != (Go.bits .xor .u8 a0 32)) = false := bne_eq_false_iff_eq.mpr c26
                  clear c26
                  have H' := Aside0.mk H
                  clear H
                  obtain ⟨Ao27, co27, eo27⟩ := Kd.R_slice HO_4.out
                  subst eo27
                  have p293 : 0 ≤ (0 : Int) := (by omega)
                  have q293 : 0 < (t275.length : Int) := of_decide_eq_true (by first | (with_reducible assumption) | assumption)
                  obtain ⟨ad293, e293, hx293_0⟩ := Kd.at_int (Kd.R_reads' HO_4.out).2.2 0 p293 q293
                  cases e293
                  have qi293 : (0 < t275.length) = True := eq_true (by omega)
                  (try rw [show ((0 : Int)).toNat = 0 from rfl] at hx293_0)
                  (try rw [Addr.add_zero'] at hx293_0)
                  replace p293 := eq_true p293
                  replace q293 := eq_true q293
                  go_wp2
                  go_meet
                  case rel => exact ⟨_, (false), (by first | rfl | (simp; done) | (simp [*]; done)), H', ⟨by have := HJ5.out; first | omega | exact Nat.le_refl _⟩, ⟨by (with_reducible repeat (first | apply Kd.R_alloc | apply Kd.R_drewN | apply Kd.R_drew)); exact Kd.R_mono HO_6.out (fun _ hk => hk.2)⟩, ⟨by (with_reducible repeat (first | apply Kd.R_alloc | apply Kd.R_drewN | apply Kd.R_drew)); exact Kd.R_mono HO_8.out (fun _ hk => hk.2)⟩, ⟨by repeat (first | (with_reducible first | exact HB.out | apply below_alloc | apply pw_below_drewN | apply below_drew1) | exact HB.out)⟩⟩
                · rw [if_neg c26] at H
                  have c26b0 : ((rd t275 0) == (Go.bits .xor .u8 a0 32)) = false := beq_eq_false_iff_ne.mpr c26
                  have c26b1 : ((rd t275 0) != (Go.bits .xor .u8 a0 32)) = true := bne_iff_ne.mpr c26
                  have H' := Aside0.mk H
                  clear H
                  obtain ⟨Ao28, co28, eo28⟩ := Kd.R_slice HO_4.out
                  subst eo28
                  have p293 : 0 ≤ (0 : Int) := (by omega)
                  have q293 : 0 < (t275.length : Int) := of_decide_eq_true (by first | (with_reducible assumption) | assumption)
                  obtain ⟨ad293, e293, hx293_0⟩ := Kd.at_int (Kd.R_reads' HO_4.out).2.2 0 p293 q293
                  cases e293
                  have qi293 : (0 < t275.length) = True := eq_true (by omega)
                  (try rw [show ((0 : Int)).toNat = 0 from rfl] at hx293_0)
                  (try rw [Addr.add_zero'] at hx293_0)
                  replace p293 := eq_true p293
                  replace q293 := eq_true q293
                  go_wp2
                  go_meet
                  case rel => exact ⟨_, (true), (by first | rfl | (simp; done) | (simp [*]; done)), H', ⟨by have := HJ5.out; first | omega | exact Nat.le_refl _⟩, ⟨by (with_reducible repeat (first | apply Kd.R_alloc | apply Kd.R_drewN | apply Kd.R_drew)); exact Kd.R_mono HO_6.out (fun _ hk => hk.2)⟩, ⟨by (with_reducible repeat (first | apply Kd.R_alloc | apply Kd.R_drewN | apply Kd.R_drew)); exact Kd.R_mono HO_8.out (fun _ hk => hk.2)⟩, ⟨by repeat (first | (with_reducible first | exact HB.out | apply below_alloc | apply pw_below_drewN | apply below_drew1) | exact HB.out)⟩⟩
              · rw [if_neg c25] at H
                exact absurd H (by simp)
            · rw [if_neg c24] at H
              have c24b0 : ((t275.length : Int) == 1) = false := beq_eq_false_iff_ne.mpr c24
              have c24b1 : ((t275.length : Int) != 1) = true := bne_iff_ne.mpr c24
              have H' := Aside0.mk H
              clear H
              obtain ⟨Ao29, co29, eo29⟩ := Kd.R_slice HO_4.out
              subst eo29
              go_wp2
              go_meet
              case rel => exact ⟨_, (true), (by first | rfl | (simp; done) | (simp [*]; done)), H', ⟨by have := HJ5.out; first | omega | exact Nat.le_refl _⟩, ⟨by (with_reducible repeat (first | apply Kd.R_alloc | apply Kd.R_drewN | apply Kd.R_drew)); exact Kd.R_mono HO_6.out (fun _ hk => hk.2)⟩, ⟨by (with_reducible repeat (first | apply Kd.R_alloc | apply Kd.R_drewN | apply Kd.R_drew)); exact Kd.R_mono HO_8.out (fun _ hk => hk.2)⟩, ⟨by repeat (first | (with_reducible first | exact HB.out | apply below_alloc | apply pw_below_drewN | apply below_drew1) | exact HB.out)⟩⟩
          · rw [if_neg c23] at H
            have c23b0 : (t276 == 0) = false := beq_eq_false_iff_ne.mpr c23
            have c23b1 : (t276 != 0) = true := bne_iff_ne.mpr c23
            (first | rw [c23b0] | (simp only [i64_w, i32_w]; rw [c23b0]) | skip)
            have H' := Aside0.mk H
            clear H
            go_wp2
            go_meet
            case rel => exact ⟨_, (true), (by first | rfl | (simp; done) | (simp [*]; done)), H', ⟨by have := HJ5.out; first | omega | exact Nat.le_refl _⟩, ⟨by (with_reducible repeat (first | apply Kd.R_alloc | apply Kd.R_drewN | apply Kd.R_drew)); exact Kd.R_mono HO_6.out (fun _ hk => hk.2)⟩, ⟨by (with_reducible repeat (first | apply Kd.R_alloc | apply Kd.R_drewN | apply Kd.R_drew)); exact Kd.R_mono HO_8.out (fun _ hk => hk.2)⟩, ⟨by repeat (first | (with_reducible first | exact HB.out | apply below_alloc | apply pw_below_drewN | apply below_drew1) | exact HB.out)⟩⟩
        · replace c22 := Bool.eq_false_iff.mpr c22
          subst c22
          have H1 : (if t276 = 3 then (lamplightlaw03_StuffBytes.j1 kj5 a0 t271 t282 t283 t289 t290 ((t275.length : Int) != 0)) else (lamplightlaw03_StuffBytes.j1 kj5 a0 t271 t282 t283 t289 t290 true)) = some r := by rw [if_neg (show ¬ (false = true) by decide)] at H; exact H
          clear H
          have H := H1
          clear H1
          by_cases c30 : t276 = 3
          · rw [if_pos c30] at H
            have c30b0 : (t276 == 3) = true := beq_iff_eq.mpr c30
            have c30b1 : (t276 != 3) = false := bne_eq_false_iff_eq.mpr c30
            clear c30
            have H' := Aside0.mk H
            clear H
            obtain ⟨Ao31, co31, eo31⟩ := Kd.R_slice HO_4.out
            subst eo31
            go_wp2
            go_meet
            case rel => exact ⟨_, (((t275.length : Int) != 0)), (by first | rfl | (simp; done) | (simp [*]; done)), H', ⟨by have := HJ5.out; first | omega | exact Nat.le_refl _⟩, ⟨by (with_reducible repeat (first | apply Kd.R_alloc | apply Kd.R_drewN | apply Kd.R_drew)); exact Kd.R_mono HO_6.out (fun _ hk => hk.2)⟩, ⟨by (with_reducible repeat (first | apply Kd.R_alloc | apply Kd.R_drewN | apply Kd.R_drew)); exact Kd.R_mono HO_8.out (fun _ hk => hk.2)⟩, ⟨by repeat (first | (with_reducible first | exact HB.out | apply below_alloc | apply pw_below_drewN | apply below_drew1) | exact HB.out)⟩⟩
          · rw [if_neg c30] at H
            have c30b0 : (t276 == 3) = false := beq_eq_false_iff_ne.mpr c30
            have c30b1 : (t276 != 3) = true := bne_iff_ne.mpr c30
            have H' := Aside0.mk H
            clear H
            go_wp2
            go_meet
            case rel => exact ⟨_, (true), (by first | rfl | (simp; done) | (simp [*]; done)), H', ⟨by have := HJ5.out; first | omega | exact Nat.le_refl _⟩, ⟨by (with_reducible repeat (first | apply Kd.R_alloc | apply Kd.R_drewN | apply Kd.R_drew)); exact Kd.R_mono HO_6.out (fun _ hk => hk.2)⟩, ⟨by (with_reducible repeat (first | apply Kd.R_alloc | apply Kd.R_drewN | apply Kd.R_drew)); exact Kd.R_mono HO_8.out (fun _ hk => hk.2)⟩, ⟨by repeat (first | (with_reducible first | exact HB.out | apply below_alloc | apply pw_below_drewN | apply below_drew1) | exact HB.out)⟩⟩
      case rest =>
        clear HC21
        try clear c1
        try clear c2
        try clear p2
        try clear q2
        try clear hx2
        try clear qi2
        try clear c3
        try clear c8
        try clear c10
        try clear c12
        try clear c20
        try clear c20b0
        try clear c20b1
        try clear c22
        try clear c23
        try clear c23b0
        try clear c23b1
        try clear c24
        try clear c24b0
        try clear c24b1
        try clear c25
        try clear c25b0
        try clear c25b1
        try clear c26
        try clear c26b0
        try clear c26b1
        try clear p29
        try clear q29
        try clear hx29
        try clear qi29
        try clear c30
        try clear c30b0
        try clear c30b1
        try clear hx293_0
        try clear p2
        try clear p293
        try clear q293
        obtain ⟨kq, x66_20, rfl, HA, HJ20, HO_6, HO_8, HB⟩ := hcut
        cases kq with
        | zero => exact absurd HA.out (by simp [lamplightlaw03_StuffBytes.j1])
        | succ kj20 =>
          have H := HA.out
          clear HA
          simp only [lamplightlaw03_StuffBytes.j1] at H
          by_cases c32 : x66_20 = true
          · subst c32
            have H1 : (some false) = some r := by rw [if_pos rfl] at H; exact H
            clear H
            have H := H1
            clear H1
            obtain rfl := Option.some.inj H
            go_wp2
            go_ret
            exact ⟨by first | rfl | (simp [errW_none, errW_some] <;> rfl) | (simp [*, errW_none, errW_some] <;> rfl), by repeat (first | (with_reducible first | exact HB.out | apply below_alloc | apply pw_below_drewN | apply below_drew1) | exact HB.out)⟩
          · replace c32 := Bool.eq_false_iff.mpr c32
            subst c32
            have H1 : (if a0 = 126 then (if t271 = true then (if t283 = 3 then (if t290 = 3 then (if (t282.length : Int) = 0 then (some ((t289.length : Int) == 0)) else (some false)) else (some false)) else (some false)) else (some false)) else (if a0 = 125 then (if t271 = true then (if t283 = 2 then (if t290 = 3 then (if (t282.length : Int) = 0 then (some ((t289.length : Int) == 0)) else (some false)) else (some false)) else (some false)) else (some false)) else (if t271 = true then (if t283 = 0 then (if t290 = 0 then (if (strOfNums t282).toList = (strOfNums (([a0] : List Int))).toList then (some ((strOfNums t289).toList == (strOfNums (([97, a0, 98] : List Int))).toList)) else (some false)) else (some false)) else (some false)) else (some false)))) = some r := by rw [if_neg (show ¬ (false = true) by decide)] at H; exact H
            clear H
            have H := H1
            clear H1
            by_cases c33 : a0 = 126
            · rw [if_pos c33] at H
              have c33b0 : (a0 == 126) = true := beq_iff_eq.mpr c33
              have c33b1 : (a0 != 126) = false := bne_eq_false_iff_eq.mpr c33
              clear c33
              by_cases c34 : t271 = true
              · subst c34
                have H1 : (if t283 = 3 then (if t290 = 3 then (if (t282.length : Int) = 0 then (some ((t289.length : Int) == 0)) else (some false)) else (some false)) else (some false)) = some r := by rw [if_pos rfl] at H; exact H
                clear H
                have H := H1
                clear H1
                by_cases c35 : t283 = 3
                · rw [if_pos c35] at H
                  have c35b0 : (t283 == 3) = true := beq_iff_eq.mpr c35
                  have c35b1 : (t283 != 3) = false := bne_eq_false_iff_eq.mpr c35
                  clear c35
                  by_cases c36 : t290 = 3
                  · rw [if_pos c36] at H
                    have c36b0 : (t290 == 3) = true := beq_iff_eq.mpr c36
                    have c36b1 : (t290 != 3) = false := bne_eq_false_iff_eq.mpr c36
                    clear c36
                    by_cases c37 : (t282.length : Int) = 0
                    · rw [if_pos c37] at H
                      have c37b0 : ((t282.length : Int) == 0) = true := beq_iff_eq.mpr c37
                      have c37b1 : ((t282.length : Int) != 0) = false := bne_eq_false_iff_eq.mpr c37
                      clear c37
                      obtain rfl := Option.some.inj H
                      obtain ⟨Ao38, co38, eo38⟩ := Kd.R_slice HO_6.out
                      subst eo38
                      obtain ⟨Ao39, co39, eo39⟩ := Kd.R_slice HO_8.out
                      subst eo39
                      go_wp2
                      go_ret
                      exact ⟨by first | rfl | (simp [errW_none, errW_some] <;> rfl) | (simp [*, errW_none, errW_some] <;> rfl), by repeat (first | (with_reducible first | exact HB.out | apply below_alloc | apply pw_below_drewN | apply below_drew1) | exact HB.out)⟩
                    · rw [if_neg c37] at H
                      have c37b0 : ((t282.length : Int) == 0) = false := beq_eq_false_iff_ne.mpr c37
                      have c37b1 : ((t282.length : Int) != 0) = true := bne_iff_ne.mpr c37
                      have c37b2 : ¬ (t282 = []) := fun h_ => c37 (by rw [h_]; rfl)
                      obtain rfl := Option.some.inj H
                      obtain ⟨Ao40, co40, eo40⟩ := Kd.R_slice HO_6.out
                      subst eo40
                      go_wp2
                      go_ret
                      exact ⟨by first | rfl | (simp [errW_none, errW_some] <;> rfl) | (simp [*, errW_none, errW_some] <;> rfl), by repeat (first | (with_reducible first | exact HB.out | apply below_alloc | apply pw_below_drewN | apply below_drew1) | exact HB.out)⟩
                  · rw [if_neg c36] at H
                    have c36b0 : (t290 == 3) = false := beq_eq_false_iff_ne.mpr c36
                    have c36b1 : (t290 != 3) = true := bne_iff_ne.mpr c36
                    obtain rfl := Option.some.inj H
                    go_wp2
                    go_ret
                    exact ⟨by first | rfl | (simp [errW_none, errW_some] <;> rfl) | (simp [*, errW_none, errW_some] <;> rfl), by repeat (first | (with_reducible first | exact HB.out | apply below_alloc | apply pw_below_drewN | apply below_drew1) | exact HB.out)⟩
                · rw [if_neg c35] at H
                  have c35b0 : (t283 == 3) = false := beq_eq_false_iff_ne.mpr c35
                  have c35b1 : (t283 != 3) = true := bne_iff_ne.mpr c35
                  obtain rfl := Option.some.inj H
                  go_wp2
                  go_ret
                  exact ⟨by first | rfl | (simp [errW_none, errW_some] <;> rfl) | (simp [*, errW_none, errW_some] <;> rfl), by repeat (first | (with_reducible first | exact HB.out | apply below_alloc | apply pw_below_drewN | apply below_drew1) | exact HB.out)⟩
              · replace c34 := Bool.eq_false_iff.mpr c34
                subst c34
                have H1 : (some false) = some r := by rw [if_neg (show ¬ (false = true) by decide)] at H; exact H
                clear H
                have H := H1
                clear H1
                obtain rfl := Option.some.inj H
                go_wp2
                go_ret
                exact ⟨by first | rfl | (simp [errW_none, errW_some] <;> rfl) | (simp [*, errW_none, errW_some] <;> rfl), by repeat (first | (with_reducible first | exact HB.out | apply below_alloc | apply pw_below_drewN | apply below_drew1) | exact HB.out)⟩
            · rw [if_neg c33] at H
              have c33b0 : (a0 == 126) = false := beq_eq_false_iff_ne.mpr c33
              have c33b1 : (a0 != 126) = true := bne_iff_ne.mpr c33
              by_cases c41 : a0 = 125
              · rw [if_pos c41] at H
                have c41b0 : (a0 == 125) = true := beq_iff_eq.mpr c41
                have c41b1 : (a0 != 125) = false := bne_eq_false_iff_eq.mpr c41
                clear c41
                by_cases c42 : t271 = true
                · subst c42
                  have H1 : (if t283 = 2 then (if t290 = 3 then (if (t282.length : Int) = 0 then (some ((t289.length : Int) == 0)) else (some false)) else (some false)) else (some false)) = some r := by rw [if_pos rfl] at H; exact H
                  clear H
                  have H := H1
                  clear H1
                  by_cases c43 : t283 = 2
                  · rw [if_pos c43] at H
                    have c43b0 : (t283 == 2) = true := beq_iff_eq.mpr c43
                    have c43b1 : (t283 != 2) = false := bne_eq_false_iff_eq.mpr c43
                    clear c43
                    by_cases c44 : t290 = 3
                    · rw [if_pos c44] at H
                      have c44b0 : (t290 == 3) = true := beq_iff_eq.mpr c44
                      have c44b1 : (t290 != 3) = false := bne_eq_false_iff_eq.mpr c44
                      clear c44
                      by_cases c45 : (t282.length : Int) = 0
                      · rw [if_pos c45] at H
                        have c45b0 : ((t282.length : Int) == 0) = true := beq_iff_eq.mpr c45
                        have c45b1 : ((t282.length : Int) != 0) = false := bne_eq_false_iff_eq.mpr c45
                        clear c45
                        obtain rfl := Option.some.inj H
                        obtain ⟨Ao46, co46, eo46⟩ := Kd.R_slice HO_6.out
                        subst eo46
                        obtain ⟨Ao47, co47, eo47⟩ := Kd.R_slice HO_8.out
                        subst eo47
                        go_wp2
                        go_ret
                        exact ⟨by first | rfl | (simp [errW_none, errW_some] <;> rfl) | (simp [*, errW_none, errW_some] <;> rfl), by repeat (first | (with_reducible first | exact HB.out | apply below_alloc | apply pw_below_drewN | apply below_drew1) | exact HB.out)⟩
                      · rw [if_neg c45] at H
                        have c45b0 : ((t282.length : Int) == 0) = false := beq_eq_false_iff_ne.mpr c45
                        have c45b1 : ((t282.length : Int) != 0) = true := bne_iff_ne.mpr c45
                        have c45b2 : ¬ (t282 = []) := fun h_ => c45 (by rw [h_]; rfl)
                        obtain rfl := Option.some.inj H
                        obtain ⟨Ao48, co48, eo48⟩ := Kd.R_slice HO_6.out
                        subst eo48
                        go_wp2
                        go_ret
                        exact ⟨by first | rfl | (simp [errW_none, errW_some] <;> rfl) | (simp [*, errW_none, errW_some] <;> rfl), by repeat (first | (with_reducible first | exact HB.out | apply below_alloc | apply pw_below_drewN | apply below_drew1) | exact HB.out)⟩
                    · rw [if_neg c44] at H
                      have c44b0 : (t290 == 3) = false := beq_eq_false_iff_ne.mpr c44
                      have c44b1 : (t290 != 3) = true := bne_iff_ne.mpr c44
                      obtain rfl := Option.some.inj H
                      go_wp2
                      go_ret
                      exact ⟨by first | rfl | (simp [errW_none, errW_some] <;> rfl) | (simp [*, errW_none, errW_some] <;> rfl), by repeat (first | (with_reducible first | exact HB.out | apply below_alloc | apply pw_below_drewN | apply below_drew1) | exact HB.out)⟩
                  · rw [if_neg c43] at H
                    have c43b0 : (t283 == 2) = false := beq_eq_false_iff_ne.mpr c43
                    have c43b1 : (t283 != 2) = true := bne_iff_ne.mpr c43
                    obtain rfl := Option.some.inj H
                    go_wp2
                    go_ret
                    exact ⟨by first | rfl | (simp [errW_none, errW_some] <;> rfl) | (simp [*, errW_none, errW_some] <;> rfl), by repeat (first | (with_reducible first | exact HB.out | apply below_alloc | apply pw_below_drewN | apply below_drew1) | exact HB.out)⟩
                · replace c42 := Bool.eq_false_iff.mpr c42
                  subst c42
                  have H1 : (some false) = some r := by rw [if_neg (show ¬ (false = true) by decide)] at H; exact H
                  clear H
                  have H := H1
                  clear H1
                  obtain rfl := Option.some.inj H
                  go_wp2
                  go_ret
                  exact ⟨by first | rfl | (simp [errW_none, errW_some] <;> rfl) | (simp [*, errW_none, errW_some] <;> rfl), by repeat (first | (with_reducible first | exact HB.out | apply below_alloc | apply pw_below_drewN | apply below_drew1) | exact HB.out)⟩
              · rw [if_neg c41] at H
                have c41b0 : (a0 == 125) = false := beq_eq_false_iff_ne.mpr c41
                have c41b1 : (a0 != 125) = true := bne_iff_ne.mpr c41
                by_cases c49 : t271 = true
                · subst c49
                  have H1 : (if t283 = 0 then (if t290 = 0 then (if (strOfNums t282).toList = (strOfNums (([a0] : List Int))).toList then (some ((strOfNums t289).toList == (strOfNums (([97, a0, 98] : List Int))).toList)) else (some false)) else (some false)) else (some false)) = some r := by rw [if_pos rfl] at H; exact H
                  clear H
                  have H := H1
                  clear H1
                  by_cases c50 : t283 = 0
                  · rw [if_pos c50] at H
                    have c50b0 : (t283 == 0) = true := beq_iff_eq.mpr c50
                    have c50b1 : (t283 != 0) = false := bne_eq_false_iff_eq.mpr c50
                    clear c50
                    by_cases c51 : t290 = 0
                    · rw [if_pos c51] at H
                      have c51b0 : (t290 == 0) = true := beq_iff_eq.mpr c51
                      have c51b1 : (t290 != 0) = false := bne_eq_false_iff_eq.mpr c51
                      clear c51
                      obtain ⟨y294, hy294⟩ : ∃ y_ : List Int, y_ = (([a0] : List Int)) := ⟨_, rfl⟩
                      replace H : (if (strOfNums t282).toList = (strOfNums y294).toList then (some ((strOfNums t289).toList == (strOfNums (([97, a0, 98] : List Int))).toList)) else (some false)) = some r := by first | (rw [hy294]; with_reducible exact H) | (have H2_ := (Option.bind_some _ _).symm.trans H; rw [hy294]; with_reducible exact H2_) | (have H2_ := (Option.bind_some _ _).symm.trans H; with_reducible exact H2_) | with_reducible exact H | (rw [hy294]; exact H) | exact H
                      have Ny294 := Aside0.mk hy294
                      clear hy294
                      by_cases c52 : (strOfNums t282).toList = (strOfNums y294).toList
                      · rw [if_pos c52] at H
                        have c52b0 : ((strOfNums t282).toList == (strOfNums y294).toList) = true := beq_iff_eq.mpr c52
                        have c52b1 : ((strOfNums t282).toList != (strOfNums y294).toList) = false := bne_eq_false_iff_eq.mpr c52
                        clear c52
                        obtain ⟨y297, hy297⟩ : ∃ y_ : List Int, y_ = (([97, a0, 98] : List Int)) := ⟨_, rfl⟩
                        replace H : (some ((strOfNums t289).toList == (strOfNums y297).toList)) = some r := by first | (rw [hy297]; with_reducible exact H) | (have H2_ := (Option.bind_some _ _).symm.trans H; rw [hy297]; with_reducible exact H2_) | (have H2_ := (Option.bind_some _ _).symm.trans H; with_reducible exact H2_) | with_reducible exact H | (rw [hy297]; exact H) | exact H
                        have Ny297 := Aside0.mk hy297
                        clear hy297
                        obtain rfl := Option.some.inj H
                        have hcv53 := own_string (P := Try.prog) Try.underlying22 Try.underlying5 Try.underlying9 (Kd.own_of_R HO_6.out)
                        go_wp2_with (first | ((with_reducible refine gate_dst (N := 123) rfl ?_); (try (refine gate_guard (by rfl) ?_; dsimp only)); refine Kd.R_lit (Kd.int .u8) _ 5 ?hg (N := 123) ?hd (xs := ([a0] : List Int)) (inner := [.int .u8 a0]) (ok := fun _ => True) (okp := fun _ => True) ?hr ?hp (fun _ hk => hk) trivial (Below.refl _ _) (Nat.le_refl _) (by simp) ?_; (case hd => rfl); (case hg => rfl); (case hr => first | (go_simp; done) | (go_simp; rfl)); (case hp => exact (Reps.one (show Kd.M (Kd.int .u8) _ _ _ a0 [.int .u8 a0] from rfl) (Reps.none _ _))); intro v295 w54 ho55 hb hg_ hnew_; clear hg_ hnew_; (first | rw [← Ny294.out] at ho55 | (simp only [Int.reduceToNat] at ho55; rw [← Ny294.out] at ho55)); have n0_ := Aside0.mk (Kd.R_elder' (by (with_reducible repeat (first | apply Kd.R_alloc | apply Kd.R_drewN | apply Kd.R_drew)); exact HO_6.out) (Kd.R_base ho55) hb); have n1_ := Aside0.mk (Kd.R_elder' (by (with_reducible repeat (first | apply Kd.R_alloc | apply Kd.R_drewN | apply Kd.R_drew)); exact HO_8.out) (Kd.R_base ho55) hb); have n2_ := Aside0.mk (Kd.R_lower (Kd.R_new' (Kd.R_new' ho55 (Kd.R_lt (by (with_reducible repeat (first | apply Kd.R_alloc | apply Kd.R_drewN | apply Kd.R_drew)); exact HO_6.out))) (Kd.R_lt (by (with_reducible repeat (first | apply Kd.R_alloc | apply Kd.R_drewN | apply Kd.R_drew)); exact HO_8.out))) (below_size (by repeat (first | (with_reducible first | exact HB.out | apply below_alloc | apply pw_below_drewN | apply below_drew1) | exact HB.out)))); have n3_ := Aside0.mk (below_step (by repeat (first | (with_reducible first | exact HB.out | apply below_alloc | apply pw_below_drewN | apply below_drew1) | exact HB.out)) hb); clear HO_6; clear HO_8; clear HB; have HO_6 := n0_; have HO_8 := n1_; have HO296 := n2_; have HB := n3_; clear n0_ n1_ n2_ n3_; clear hb ho55; have hcv56 := own_string (P := Try.prog) Try.underlying22 Try.underlying5 Try.underlying9 (Kd.own_of_R HO296.out); have hcv57 := own_string (P := Try.prog) Try.underlying22 Try.underlying5 Try.underlying9 (Kd.own_of_R HO_8.out)) | ((with_reducible refine gate_dst (N := 131) rfl ?_); (try (refine gate_guard (by rfl) ?_; dsimp only)); refine Kd.R_lit (Kd.int .u8) _ 5 ?hg (N := 131) ?hd (xs := ([97, a0, 98] : List Int)) (inner := [.int .u8 97, .int .u8 a0, .int .u8 98]) (ok := fun _ => True) (okp := fun _ => True) ?hr ?hp (fun _ hk => hk) trivial (Below.refl _ _) (Nat.le_refl _) (by simp) ?_; (case hd => rfl); (case hg => rfl); (case hr => first | (go_simp; done) | (go_simp; rfl)); (case hp => exact (Reps.one (show Kd.M (Kd.int .u8) _ _ _ 97 [.int .u8 97] from rfl) (Reps.one (show Kd.M (Kd.int .u8) _ _ _ a0 [.int .u8 a0] from rfl) (Reps.one (show Kd.M (Kd.int .u8) _ _ _ 98 [.int .u8 98] from rfl) (Reps.none _ _))))); intro v298 w58 ho59 hb hg_ hnew_; clear hg_ hnew_; (first | rw [← Ny297.out] at ho59 | (simp only [Int.reduceToNat] at ho59; rw [← Ny297.out] at ho59)); have n0_ := Aside0.mk (Kd.R_elder' (by (with_reducible repeat (first | apply Kd.R_alloc | apply Kd.R_drewN | apply Kd.R_drew)); exact HO_6.out) (Kd.R_base ho59) hb); have n1_ := Aside0.mk (Kd.R_elder' (by (with_reducible repeat (first | apply Kd.R_alloc | apply Kd.R_drewN | apply Kd.R_drew)); exact HO_8.out) (Kd.R_base ho59) hb); have n2_ := Aside0.mk (Kd.R_elder' (by (with_reducible repeat (first | apply Kd.R_alloc | apply Kd.R_drewN | apply Kd.R_drew)); exact HO296.out) (Kd.R_base ho59) hb); have n3_ := Aside0.mk (Kd.R_lower (Kd.R_new' (Kd.R_new' (Kd.R_new' ho59 (Kd.R_lt (by (with_reducible repeat (first | apply Kd.R_alloc | apply Kd.R_drewN | apply Kd.R_drew)); exact HO_6.out))) (Kd.R_lt (by (with_reducible repeat (first | apply Kd.R_alloc | apply Kd.R_drewN | apply Kd.R_drew)); exact HO_8.out))) (Kd.R_lt (by (with_reducible repeat (first | apply Kd.R_alloc | apply Kd.R_drewN | apply Kd.R_drew)); exact HO296.out))) (below_size (by repeat (first | (with_reducible first | exact HB.out | apply below_alloc | apply pw_below_drewN | apply below_drew1) | exact HB.out)))); have n4_ := Aside0.mk (below_step (by repeat (first | (with_reducible first | exact HB.out | apply below_alloc | apply pw_below_drewN | apply below_drew1) | exact HB.out)) hb); clear HO_6; clear HO_8; clear HO296; clear HB; have HO_6 := n0_; have HO_8 := n1_; have HO296 := n2_; have HO299 := n3_; have HB := n4_; clear n0_ n1_ n2_ n3_ n4_; clear hb ho59; have hcv60 := own_string (P := Try.prog) Try.underlying22 Try.underlying5 Try.underlying9 (Kd.own_of_R HO299.out)))
                        go_ret
                        exact ⟨by first | rfl | (simp [errW_none, errW_some] <;> rfl) | (simp [*, errW_none, errW_some] <;> rfl), by repeat (first | (with_reducible first | exact HB.out | apply below_alloc | apply pw_below_drewN | apply below_drew1) | exact HB.out)⟩
                      · rw [if_neg c52] at H
                        have c52b0 : ((strOfNums t282).toList == (strOfNums y294).toList) = false := beq_eq_false_iff_ne.mpr c52
                        have c52b1 : ((strOfNums t282).toList != (strOfNums y294).toList) = true := bne_iff_ne.mpr c52
                        obtain rfl := Option.some.inj H
                        have hcv61 := own_string (P := Try.prog) Try.underlying22 Try.underlying5 Try.underlying9 (Kd.own_of_R HO_6.out)
                        go_wp2_with (first | ((with_reducible refine gate_dst (N := 123) rfl ?_); (try (refine gate_guard (by rfl) ?_; dsimp only)); refine Kd.R_lit (Kd.int .u8) _ 5 ?hg (N := 123) ?hd (xs := ([a0] : List Int)) (inner := [.int .u8 a0]) (ok := fun _ => True) (okp := fun _ => True) ?hr ?hp (fun _ hk => hk) trivial (Below.refl _ _) (Nat.le_refl _) (by simp) ?_; (case hd => rfl); (case hg => rfl); (case hr => first | (go_simp; done) | (go_simp; rfl)); (case hp => exact (Reps.one (show Kd.M (Kd.int .u8) _ _ _ a0 [.int .u8 a0] from rfl) (Reps.none _ _))); intro v295 w62 ho63 hb hg_ hnew_; clear hg_ hnew_; (first | rw [← Ny294.out] at ho63 | (simp only [Int.reduceToNat] at ho63; rw [← Ny294.out] at ho63)); have n0_ := Aside0.mk (Kd.R_elder' (by (with_reducible repeat (first | apply Kd.R_alloc | apply Kd.R_drewN | apply Kd.R_drew)); exact HO_6.out) (Kd.R_base ho63) hb); have n1_ := Aside0.mk (Kd.R_elder' (by (with_reducible repeat (first | apply Kd.R_alloc | apply Kd.R_drewN | apply Kd.R_drew)); exact HO_8.out) (Kd.R_base ho63) hb); have n2_ := Aside0.mk (Kd.R_lower (Kd.R_new' (Kd.R_new' ho63 (Kd.R_lt (by (with_reducible repeat (first | apply Kd.R_alloc | apply Kd.R_drewN | apply Kd.R_drew)); exact HO_6.out))) (Kd.R_lt (by (with_reducible repeat (first | apply Kd.R_alloc | apply Kd.R_drewN | apply Kd.R_drew)); exact HO_8.out))) (below_size (by repeat (first | (with_reducible first | exact HB.out | apply below_alloc | apply pw_below_drewN | apply below_drew1) | exact HB.out)))); have n3_ := Aside0.mk (below_step (by repeat (first | (with_reducible first | exact HB.out | apply below_alloc | apply pw_below_drewN | apply below_drew1) | exact HB.out)) hb); clear HO_6; clear HO_8; clear HB; have HO_6 := n0_; have HO_8 := n1_; have HO296 := n2_; have HB := n3_; clear n0_ n1_ n2_ n3_; clear hb ho63; have hcv64 := own_string (P := Try.prog) Try.underlying22 Try.underlying5 Try.underlying9 (Kd.own_of_R HO296.out)))
                        go_ret
                        exact ⟨by first | rfl | (simp [errW_none, errW_some] <;> rfl) | (simp [*, errW_none, errW_some] <;> rfl), by repeat (first | (with_reducible first | exact HB.out | apply below_alloc | apply pw_below_drewN | apply below_drew1) | exact HB.out)⟩
                    · rw [if_neg c51] at H
                      have c51b0 : (t290 == 0) = false := beq_eq_false_iff_ne.mpr c51
                      have c51b1 : (t290 != 0) = true := bne_iff_ne.mpr c51
                      obtain rfl := Option.some.inj H
                      go_wp2
                      go_ret
                      exact ⟨by first | rfl | (simp [errW_none, errW_some] <;> rfl) | (simp [*, errW_none, errW_some] <;> rfl), by repeat (first | (with_reducible first | exact HB.out | apply below_alloc | apply pw_below_drewN | apply below_drew1) | exact HB.out)⟩
                  · rw [if_neg c50] at H
                    have c50b0 : (t283 == 0) = false := beq_eq_false_iff_ne.mpr c50
                    have c50b1 : (t283 != 0) = true := bne_iff_ne.mpr c50
                    obtain rfl := Option.some.inj H
                    go_wp2
                    go_ret
                    exact ⟨by first | rfl | (simp [errW_none, errW_some] <;> rfl) | (simp [*, errW_none, errW_some] <;> rfl), by repeat (first | (with_reducible first | exact HB.out | apply below_alloc | apply pw_below_drewN | apply below_drew1) | exact HB.out)⟩
                · replace c49 := Bool.eq_false_iff.mpr c49
                  subst c49
                  have H1 : (some false) = some r := by rw [if_neg (show ¬ (false = true) by decide)] at H; exact H
                  clear H
                  have H := H1
                  clear H1
                  obtain rfl := Option.some.inj H
                  go_wp2
                  go_ret
                  exact ⟨by first | rfl | (simp [errW_none, errW_some] <;> rfl) | (simp [*, errW_none, errW_some] <;> rfl), by repeat (first | (with_reducible first | exact HB.out | apply below_alloc | apply pw_below_drewN | apply below_drew1) | exact HB.out)⟩

/-- THE ONE PURE STATEMENT of lamplightlaw03_StuffBytes: yours. -/
def lamplightlaw03_StuffBytes.Pure : Prop := ∀ (a0 : Int), (Lit.int .u8 a0).wf = true → ∃ k, lamplightlaw03_StuffBytes.f k a0 = some true
theorem lamplightlaw03_StuffBytes.walk (P : lamplightlaw03_StuffBytes.Pure) (a0 : Int) (w : World) (w0 : (Lit.int .u8 a0).wf = true) :
    Calls Try.prog 8 #[.int .u8 a0] w fun e w' => e = .returned (.bool true) ∧ Below w.heap.size w w' := by
  obtain ⟨k, h⟩ := P a0 w0
  refine (lamplightlaw03_StuffBytes.calls k a0 true w h).mono ?_
  rintro e w' ⟨rfl, hd⟩
  exact ⟨rfl, hd⟩

-- NOT PRINTED: function 9 (lamplightlaw03_StuffTwice)

end Go.Proofs.Ytgaeifdnbajopaa.Px
