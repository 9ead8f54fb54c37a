/- The walk of StuffTwice. -/
import Derived.Test.YtgaeifdnbajopaaCuts
namespace Go.Proofs.Ytgaeifdnbajopaa.K
open Go.RowKit Go.Proofs.YtgaeifdnbajopaaW.PrintWords Go.Proofs.YtgaeifdnbajopaaW.PrintLast Go.Proofs.YtgaeifdnbajopaaW.PrintMore
attribute [local go_sem] min2_min min_two
set_option linter.unusedVariables false
set_option linter.unusedSimpArgs false
/-- Stuffed k times. -/
def stfs (l : List Int) : Nat → List Int
  | 0 => l
  | k + 1 => stf (stfs l k)
theorem stfs_len (l : List Int) (hl : l.length ≤ 500) : ∀ k, k ≤ 4 → (stfs l k).length ≤ 8000 := by
  intro k hk
  have h0 : (stfs l 0).length ≤ 500 := hl
  have h1 := stf_len (stfs l 0)
  have h2 := stf_len (stfs l 1)
  have h3 := stf_len (stfs l 2)
  have h4 := stf_len (stfs l 3)
  have e1 : (stfs l 1).length = (stf (stfs l 0)).length := rfl
  have e2 : (stfs l 2).length = (stf (stfs l 1)).length := rfl
  have e3 : (stfs l 3).length = (stf (stfs l 2)).length := rfl
  have e4 : (stfs l 4).length = (stf (stfs l 3)).length := rfl
  have : k = 0 ∨ k = 1 ∨ k = 2 ∨ k = 3 ∨ k = 4 := by omega
  rcases this with rfl | rfl | rfl | rfl | rfl <;> omega

set_option maxHeartbeats 4000000 in
set_option maxRecDepth 10000 in
theorem twice_walk (A : Option Addr) (c : Nat) (zs : List Int) (hc : zs.length ≤ c) (n0 : Int) (w : World) (h0 : RowOf c8 1 w w.heap.size A zs) (b0 : ∀ x ∈ zs, 0 ≤ x ∧ x < 256) :
    Calls Try.prog 9 #[.slice A zs.length c, .int .i64 n0] w fun e w' => e = .returned (.bool true) ∧ Below w.heap.size w w' := by
  obtain ⟨n, hn, hn1, hn2⟩ := min_nat zs.length 500
  have hcut := fun W => cut8 A zs.length c n hn1 hc W
  obtain ⟨l, hl⟩ : ∃ l, l = zs.take n := ⟨_, rfl⟩
  have hln : n = l.length := by rw [hl, List.length_take]; omega
  subst hln
  have HR := Lib.hid (hl ▸ h0.take_ l.length : RowOf c8 1 w w.heap.size A l)
  have hb0 : ∀ x ∈ l, (0 : Int) ≤ x ∧ x < 256 := fun x hx => b0 x (by rw [hl] at hx; exact List.mem_of_mem_take hx)
  have HS := Lib.hid (unst_spec l [] false hb0)
  obtain ⟨z, f, hzf⟩ : ∃ z f, unst false l [] = (z, f) := ⟨_, _, rfl⟩
  rw [hzf] at HS
  have HU := Lib.hid hzf
  clear h0 b0 hl hc hb0 hzf
  have hmin : min (zs.length : Int) 500 = (l.length : Int) := hn
  obtain ⟨mk, hmk, hbits⟩ := and_mask n0 65535 (by omega)
  have hbits : bits .and .i64 n0 65535 = (mk : Int) := hbits
  obtain ⟨m, hm⟩ : ∃ m : Nat, mk % 5 = m := ⟨_, rfl⟩
  have hm4 : m ≤ 4 := by omega
  have hmod : (mk : Int) % 5 = (m : Int) := by omega
  have HL := Lib.hid (stfs_len l hn2)
  clear hn hm
  go_enter Try.func9, Try.ntmps9
  go_wp2_with fail
  refine (shown3 _).mono ?_
  rintro e w1 ⟨rfl, H1⟩
  go_wp2
  simp only [hmod]
  clear hcut hmin hbits hmod
  go_loopw [6, 7] (fun x i wr => ∃ (k : Nat) (A' : Option Addr) (c' : Nat), x = .slice A' (stfs l k).length c' ∧ i = .int .i64 k ∧ k ≤ m ∧ Hid (RowOf c8 1 wr wr.heap.size A' (stfs l k)) ∧ Below w.heap.size w wr) (fun _ i _ => m - (intOf i).toNat)
  case atStart => exact ⟨0, _, _, rfl, rfl, by omega, Lib.hid (HR.out.now H1.out), H1.out⟩
  case round =>
    obtain ⟨k, A2, c2, rfl, rfl, hk, HX, hb⟩ := hrel
    have HB := Lib.hid hb
    clear hb
    have hlk := HL.out k (by omega)
    by_cases hlt : k < m
    · go_wp2_with fail
      (with_reducible refine (StuffC (by omega) _ HX.out).mono ?_)
      rintro e w2 ⟨A3, c3, rfl, hc3, _, HY, HB2⟩
      go_wp2
      go_roundw
      case rel => exact ⟨k + 1, A3, c3, rfl, by go_num, by omega, HY, HB.out.trans (HB2.out.mono HB.out.size)⟩
      case measure => simp [intOf]; omega
    · obtain rfl : k = m := by omega
      clear hlt
      go_wp2
      go_loopw [6, 8] (fun x i wr' => ∃ (j : Nat) (A' : Option Addr) (c' : Nat), x = .slice A' (stfs l (k - j)).length c' ∧ i = .int .i64 j ∧ j ≤ k ∧ Hid (RowOf c8 1 wr' wr'.heap.size A' (stfs l (k - j))) ∧ Below w.heap.size w wr') (fun _ i _ => k - (intOf i).toNat)
      case atStart => exact ⟨0, _, _, rfl, rfl, by omega, HX, HB.out⟩
      case round =>
        clear HB HX hlk
        obtain ⟨j, A3, c3, rfl, rfl, hj, HX, hb⟩ := hrel
        have HB := Lib.hid hb
        clear hb
        have hlk := HL.out (k - j) (by omega)
        by_cases hlt : j < k
        · obtain ⟨q, hq⟩ : ∃ q, k - j = q + 1 := ⟨k - j - 1, by omega⟩
          have hq2 : Hid (k - (j + 1) = q) := Lib.hid (by omega)
          rw [hq] at hlk HX ⊢
          clear hq
          have hs := stf_len (stfs l q)
          have hs' : (stfs l (q + 1)).length = (stf (stfs l q)).length := rfl
          have hs2 : (stfs l q).length ≤ (stfs l (q + 1)).length := by omega
          have HUB := Lib.hid (show unst false (stfs l (q + 1)) [] = (stfs l q, 0) from unst_back (stfs l q))
          clear hs hs'
          go_wp2_with fail
          (with_reducible refine (UnstuffC (l := stfs l (q + 1)) (z := stfs l q) (f := 0) (by omega) HUB.out _ HX.out).mono ?_)
          rintro e w2 ⟨A4, c4, rfl, hc4, _, HY, HB2⟩
          go_wp2
          go_roundw
          case rel => exact ⟨j + 1, A4, c4, by rw [hq2.out], by go_num, by omega, by rw [hq2.out]; exact HY, HB.out.trans (HB2.out.mono HB.out.size)⟩
          case measure => simp [intOf]; omega
        · obtain rfl : j = k := by omega
          have e0 : stfs l (j - j) = l := by rw [Nat.sub_self]; rfl
          rw [e0] at HX hlk ⊢
          clear hlt e0
          go_wp2_with fail
          (with_reducible refine (UnstuffC (by omega) HU.out _ HX.out).mono ?_)
          rintro e w2 ⟨A4, c4, rfl, hc4, _, HZ, HB2⟩
          have H4 := Lib.hid (HB.out.trans (HB2.out.mono HB.out.size))
          have hs1 := str_row (c := c3) (by omega) (HX.out.now HB2.out)
          have hs2 := str_row (c := c) (by omega) (HR.out.now H4.out)
          clear HB2 HX HB
          rcases HS.out with ⟨hf, z', hz, hst, hzl⟩ | ⟨hf, hz⟩
          · have hf : f = 0 := hf
            obtain rfl : z = z' := by simpa using hz
            subst hf
            clear hz hst
            go_wp2
            go_ret
            exact ⟨rfl, H4.out⟩
          · have hf : f = 2 ∨ f = 3 := hf
            have hz : z = [] := hz
            subst hz
            rcases hf with rfl | rfl
            all_goals
              go_wp2
              go_ret
              exact ⟨rfl, H4.out⟩
end Go.Proofs.Ytgaeifdnbajopaa.K
