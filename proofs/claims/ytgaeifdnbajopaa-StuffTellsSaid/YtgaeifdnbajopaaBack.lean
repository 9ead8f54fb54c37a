/- The walk of StuffBack. -/
import Derived.Test.YtgaeifdnbajopaaSize
import Derived.Deep.RegionHeld3
namespace Go.Proofs.Ytgaeifdnbajopaa.K
open Go.RowKit Go.Proofs.YtgaeifdnbajopaaW.PrintWords Go.Proofs.YtgaeifdnbajopaaW.PrintLast Go.Proofs.YtgaeifdnbajopaaW.PrintMore
attribute [local go_sem] min2_min min_two
set_option linter.unusedVariables false
set_option linter.unusedSimpArgs false
theorem stf_no126 {l : List Int} {k : Nat} (h : k < (stf l).length) : ((stf l).getD k 0 == 126) = false := by
  have hm : (stf l).getD k 0 ∈ stf l := by rw [List.getD_eq_getElem?_getD, List.getElem?_eq_getElem h]; exact List.getElem_mem h
  generalize (stf l).getD k 0 = y at hm
  rw [beq_eq_false_iff_ne]
  rintro rfl
  unfold stf at hm
  obtain ⟨x, _, hx⟩ := List.mem_flatMap.1 hm
  unfold stf1 at hx
  split at hx
  · simp at hx
  · split at hx
    · simp at hx
    · simp at hx; omega
theorem i64_small {n : Int} (h0 : 0 ≤ n) (h1 : n ≤ 1000000000000000) : IntKind.i64.wrap n = n := by rw [IntKind.wrap_i64]; omega

set_option maxHeartbeats 4000000 in
set_option maxRecDepth 10000 in
theorem back_walk (A : Option Addr) (c : Nat) (zs : List Int) (hc : zs.length ≤ c) (w : World) (h0 : RowOf c8 1 w w.heap.size A zs) (b0 : ∀ x ∈ zs, 0 ≤ x ∧ x < 256) :
    Calls Try.prog 4 #[.slice A zs.length c] w fun e w' => e = .returned (.bool true) ∧ Below w.heap.size w w' := by
  obtain ⟨n, hn, hn1, hn2⟩ := min_nat zs.length 3000
  have hcut := fun W => cut8 A zs.length c n hn1 hc W
  obtain ⟨l, hl⟩ : ∃ l, l = zs.take n := ⟨_, rfl⟩
  have hln : n = l.length := by rw [hl, List.length_take]; omega
  subst hln
  have HR := Lib.hid (hl ▸ h0.take_ l.length : RowOf c8 1 w w.heap.size A l)
  have hb0 : ∀ x ∈ l, (0 : Int) ≤ x ∧ x < 256 := fun x hx => b0 x (by rw [hl] at hx; exact List.mem_of_mem_take hx)
  have HS := Lib.hid (unst_spec l [] false hb0)
  obtain ⟨z, f, hzf⟩ : ∃ z f, unst false l [] = (z, f) := ⟨_, _, rfl⟩
  rw [hzf] at HS
  have HU := Lib.hid hzf
  clear h0 b0 hl hc hb0 hzf
  have hmin : min (zs.length : Int) 3000 = (l.length : Int) := hn
  clear hn
  go_enter Try.func4, Try.ntmps4
  go_wp2_with fail
  refine (shown3 _).mono ?_
  rintro e w1 ⟨rfl, H1⟩
  go_wp2_with fail
  (with_reducible refine (StuffC (by omega) _ (HR.out.now H1.out)).mono ?_)
  rintro e w2 ⟨A2, c2, rfl, hc2, _, HX, HB2⟩
  have H2 := Lib.hid (H1.out.trans (HB2.out.mono H1.out.size))
  have hll := stf_len l
  clear HB2 H1 hmin hcut
  go_wp2_with fail
  (with_reducible refine (UnstuffC (by omega) (unst_back l) _ HX.out).mono ?_)
  rintro e w3 ⟨A3, c3, rfl, hc3, _, HY, HB3⟩
  have H3 := Lib.hid (H2.out.trans (HB3.out.mono H2.out.size))
  have HX3 := Lib.hid (HX.out.now HB3.out)
  clear HB3 HX
  have hs1 := str_row (c := c3) (by omega) HY.out
  have hs2 := str_row (c := c) (by omega) (HR.out.now H3.out)
  clear HY H2
  go_wp2
  clear hs1 hs2
  go_loopw [7] (fun i wr => ∃ k : Nat, i = .int .i64 k ∧ k ≤ (stf l).length ∧ wr = w3) (fun i _ => (stf l).length - (intOf i).toNat)
  case atStart => exact ⟨0, rfl, by omega, rfl⟩
  case round =>
    obtain ⟨k, rfl, hk, rfl⟩ := hrel
    by_cases hlt : k < (stf l).length
    · have h126 := stf_no126 hlt
      obtain ⟨ad, rfl, hb, hcell⟩ := HX3.out.num hlt
      generalize (stf l).getD k 0 = x at *
      go_wp2
      go_roundw
      case rel => exact ⟨k + 1, by go_num, by omega, trivial⟩
      case measure => simp [intOf]; omega
    · obtain rfl : k = (stf l).length := by omega
      go_wp2_with fail
      (with_reducible refine (UnstuffC (by omega) HU.out _ (HR.out.now H3.out)).mono ?_)
      rintro e w4 ⟨A4, c4, rfl, hc4, _, HZ, HB4⟩
      have H4 := Lib.hid (H3.out.trans (HB4.out.mono H3.out.size))
      clear HB4 H3
      rcases HS.out with ⟨hf, z', hz, hst, hzl⟩ | ⟨hf, hz⟩
      · have hf : f = 0 := hf
        obtain rfl : z = z' := by simpa using hz
        have hst : stf z = l := by simpa using hst
        have HE := Lib.hid hst
        subst hf
        clear hst hz hlt hk
        go_wp2
        have hR4 := Lib.hid (HR.out.now H4.out)
        have hs6 : StrAt A c l w4.drew := str_row (by omega) hR4.out.drew
        go_region_with (go_at_call 11; refine (StuffE HE.out (by omega) _ HZ.out.drew).mono ?_; rintro e w5 ⟨A5, c5, rfl, hc5, _, HX5, HB5⟩; have hs5 := str_row (c := c5) (by omega) HX5.out; have hs7 := str_row (c := c) (by omega) (hR4.out.drew.now HB5.out))
        all_goals
          clear hs5 hs6 hs7
          go_wp2
          go_ret
          exact ⟨rfl, (below_dr H4.out).trans (HB5.out.mono H4.out.size)⟩
      · have hf : f = 2 ∨ f = 3 := hf
        have hz : z = [] := hz
        subst hz
        rcases hf with rfl | rfl
        all_goals
          go_wp2
          go_ret
          exact ⟨rfl, H4.out⟩
end Go.Proofs.Ytgaeifdnbajopaa.K
