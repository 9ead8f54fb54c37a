/- The walk of OctetsLater. -/
import Derived.Test.YtfpjooekpjhbpaaDoorPt1
import Derived.Laws.BitsLemmas
namespace Go.Proofs.YtfpjooekpjhbpaaDoor.K
open Go.RowKit
set_option linter.unusedVariables false
set_option linter.unusedSimpArgs false
theorem Own5.open {B : Nat} {v : Value} {ps : List Part} {w : World} (h : Own5 B v ps w) : ∃ P c, v = .slice P ps.length c ∧ ps.length ≤ c ∧ RowOf cP 1 w w.heap.size P ps ∧ (∀ ad, P = some ad → B ≤ ad.block ∧ ad.block < w.heap.size) ∧ ∀ p ∈ ps, RowOf c8 1 w w.heap.size p.1 p.2.2 ∧ ∀ ad, p.1 = some ad → B ≤ ad.block ∧ ad.block < w.heap.size := by
  obtain ⟨P, c, rfl, hc⟩ := own_form h.row
  refine ⟨P, c, rfl, hc, row_own (c := cP) (fun _ => rfl) h.row, fun ad e => ?_, fun p hp => ⟨(h.each p hp).1.2.1, made_lt (h.each p hp).1⟩⟩
  subst e
  exact h.row.lt ad.block rfl
theorem and255 (n : Int) (h0 : 0 ≤ n) (h1 : n < 4294967296) : bits .and .u32 n 255 = n % 256 := by
  obtain ⟨a, rfl⟩ := Int.eq_ofNat_of_zero_le h0
  have ha : a < 2 ^ 32 := by omega
  have := (bits_nat .u32 32 (by decide) (fun n h0 h1 => by rw [IntKind.wrap_u32]; omega) a 255 ha (by decide)).1
  rw [show ((255 : Nat) : Int) = 255 from rfl] at this
  rw [this, show (255 : Nat) = 2 ^ 8 - 1 from rfl, Nat.and_two_pow_sub_one_eq_mod]
  omega
set_option maxHeartbeats 8000000 in
set_option maxRecDepth 10000 in
theorem olater_walk (P : Option Addr) (pc : Nat) (qs : List Part) (n : Int) (w : World) (hin : In2 w.heap.size P qs w) (hq : qs.length ≤ 140737488351232) (hn0 : 0 ≤ n) (hn1 : n < 4294967296) :
    Calls Tryd.prog 5 #[.slice P qs.length pc, .int .u32 n] w fun e w' => e = .returned (.bool true) ∧ Below w.heap.size w w' := by
  have HIN := Lib.hid hin
  clear hin
  go_enter Tryd.func5, Tryd.ntmps5
  go_wp2_with fail
  refine (shown1_walk _).mono ?_
  rintro e w1 ⟨rfl, H1⟩
  have hs1 := H1.out.size
  go_wp2_with fail
  refine (parts1_walk (w := w1) ⟨(HIN.out.below H1.out).row.more_ hs1, fun p hp => ⟨((HIN.out.below H1.out).each p hp).1.more_ hs1, ((HIN.out.below H1.out).each p hp).2⟩⟩ (by omega)).mono ?_
  rintro e w2 ⟨v, ps, rfl, HO2, _, HB2⟩
  obtain ⟨Q, qc, rfl, hqc, hrow, hQ, hps⟩ := HO2.out.open
  have HW2 := Lib.hid (H1.out.trans (HB2.out.mono hs1))
  have hs2 := HB2.out.size
  have hfew := HO2.out.few
  have hfl : (flat ps).length ≤ 250 := by have := flat_le (n := 50) (fun p hp => ((HO2.out.each p hp).2.1)); omega
  have HFI := Lib.hid (flat_inB (fun p hp => (HO2.out.each p hp).2.2))
  obtain ⟨W, hW⟩ : ∃ W, W = w2.alloc (.cells #[.slice none 0 0, .int .i64 0, .int .i8 0] 36) := ⟨_, rfl⟩
  have bel : Below w2.heap.size w2 W := by rw [hW]; exact (Below.refl _ w2).alloc (Nat.le_refl _) _
  have hsW : W.heap.size = w2.heap.size + 1 := by rw [hW]; simp
  have C := WBytes_own (pc := qc) (P := Q) (ps := ps) (B := w2.heap.size) (hW ▸ wrt_new w2 : Wrt w2.heap.size (.slice none 0 0) [] W) (by simp; omega) (by omega) (hrow.below bel) (by omega) (fun ad e => by have := hQ ad e; exact ⟨by omega, by omega, by simp [Value.ownBlock]⟩)
    (fun p h => ⟨((hps p h).1).below bel, fun ad e => by have := (hps p h).2 ad e; exact ⟨by omega, by omega, by simp [Value.ownBlock]⟩⟩)
  rw [hW] at C
  have HC := Lib.hid C
  clear C bel hsW hrow hQ hps HB2 HO2 H1 hW
  go_wp2_with fail
  (with_reducible refine HC.out.mono ?_)
  rintro e w3 ⟨rfl, v3, H3, F3⟩
  have H3 : Hid (Wrt w2.heap.size v3 (flat ps) w3) := Lib.hid (by simpa using H3.out)
  have hw2 : w.heap.size ≤ w2.heap.size := HW2.out.size
  have HW3 := Lib.hid (wfr_below (HW2.out.alloc hw2 _) F3.out hw2 (base_nil _) (Nat.le_refl _))
  have HV3 := Lib.hid (wfr_base F3.out (base_nil w.heap.size) (by simp; omega))
  obtain ⟨L, hL⟩ : ∃ L, L = (flat ps).length := ⟨_, rfl⟩
  have HL := Lib.hid hL.symm
  rw [← hL] at hfl
  clear HC F3 hL
  generalize w2.heap.size = b at *
  go_wp2_with fail
  refine (WDoneE HL.out H3.out (by have := HL.out; omega)).mono ?_
  rintro e w4 ⟨A4, c4, rfl, H4, F4⟩
  have HA4 := Lib.hid (made_lt H4.out)
  have hm4 := H4.out.2.2
  have HW4 := Lib.hid (fr0_below HW3.out F4.out (Nat.le_refl _))
  have HWr4 := Lib.hid (H3.out.fr F4.out (fun h => h) (fun _ _ h => h))
  have HLV := Lib.hid H3.out.ltv
  have HLB := Lib.hid H3.out.lt
  clear H3
  have hand := and255 n hn0 hn1
  go_wp2_with fail
  refine (WU32_own HWr4.out hn0 hn1 (by have := HL.out; omega)).mono ?_
  rintro e w5 ⟨rfl, v5, H5, F5⟩
  have HW5 := Lib.hid (wfr_below HW4.out F5.out hw2 HV3.out (Nat.le_refl _))
  have HV5 := Lib.hid (wfr_base F5.out HV3.out HW4.out.size)
  obtain ⟨y, hy⟩ : ∃ y, y = n % 256 := ⟨_, rfl⟩
  rw [← hy] at hand
  have hy0 : 0 ≤ y := by omega
  have hy1 : y < 256 := by omega
  have HY := Lib.hid hy
  clear hy
  go_wp2_with fail
  refine (WU8_own H5.out hy0 hy1 (by rw [List.length_append, be_length]; have := HL.out; omega)).mono ?_
  rintro e w6 ⟨rfl, v6, H6, F6⟩
  have HW6 := Lib.hid (wfr_below HW5.out F6.out hw2 HV5.out (Nat.le_refl _))
  obtain ⟨bl, hbl⟩ : ∃ bl, bl = flat ps ++ be n 4 ++ be y 1 := ⟨_, rfl⟩
  rw [← hbl] at H6
  have hlen : bl.length = L + 5 := by rw [hbl, List.length_append, List.length_append, be_length, be_length, HL.out]
  obtain ⟨M, hM⟩ : ∃ M, M = L + 5 := ⟨_, rfl⟩
  have HM : Hid (bl.length = M) := Lib.hid (by rw [hM]; exact hlen)
  have HFR : Hid (Fr (fun k => k = b ∨ v3.ownBlock = some k) w4 w6) := Lib.hid (F5.out.trans F6.out).fr
  have HR6 := Lib.hid (row_fr H4.out.2.1 HFR.out (fun ad e => by
    have h := HA4.out ad e
    refine ⟨h.2, fun h2 => ?_⟩
    rcases h2 with h2 | h2
    · have := HLB.out; omega
    · have := HLV.out _ h2; omega))
  have HTk : Hid (bl.take L = flat ps) := Lib.hid (by rw [hbl, List.append_assoc, List.take_append_of_le_length (by rw [HL.out]; exact Nat.le_refl _), List.take_of_length_le (by rw [HL.out]; exact Nat.le_refl _)])
  have e1 : bl.getD (L + 4) 0 = y := by
    rw [hbl, List.getD_eq_getElem?_getD, List.getElem?_append_right (by rw [List.length_append, be_length, HL.out]; omega), List.length_append, be_length, HL.out, show L + 4 - (L + 4) = 0 by omega]
    simp [be]; omega
  have e2 : bl.getD (L + 3) 0 = y := by
    rw [hbl, List.getD_eq_getElem?_getD, List.append_assoc, List.getElem?_append_right (by rw [HL.out]; omega), HL.out, show L + 3 - L = 3 by omega]
    simp [be]; exact HY.out.symm
  have HE1 := Lib.hid e1
  have HE2 := Lib.hid e2
  clear H5 F5 F6 HW5 hbl hlen e1 e2 hand HWr4
  go_wp2_with fail
  refine (WDoneE HM.out H6.out (by have := HM.out; omega)).mono ?_
  rintro e w7 ⟨A7, c7, rfl, H7, F7⟩
  have hm7 := H7.out.2.2
  have HW7 := Lib.hid (fr0_below HW6.out F7.out (Nat.le_refl _))
  have HR7 := Lib.hid (HR6.out.ext F7.out.below0 HFR.out.size)
  obtain ⟨m1, hm1⟩ : ∃ m, m = L + 4 := ⟨_, rfl⟩
  obtain ⟨m2, hm2⟩ : ∃ m, m = L + 3 := ⟨_, rfl⟩
  rw [← hm1] at HE1
  rw [← hm2] at HE2
  have hlb := HM.out
  obtain ⟨ad, rfl, _, k1⟩ := H7.out.2.1.num (i := m1) (by omega)
  obtain ⟨ad', e', _, k2⟩ := H7.out.2.1.num (i := m2) (by omega)
  injection e' with e'
  subst e'
  rw [HE1.out] at k1
  rw [HE2.out] at k2
  have s1 := fun n => str_n (c := c4) HL.out (HR7.out.drewN_ n)
  have hcutb := fun W => bcut_hi (some ad) M c7 L (by omega) W
  have s3 := fun n => str_n (c := c7) (l := flat ps) HL.out (HTk.out ▸ (H7.out.2.1.take_ L).drewN_ n)
  have t1 : IntKind.i64.wrap ((L : Int) + 5) = (M : Int) := by rw [IntKind.wrap_i64]; omega
  have t2 : IntKind.i64.wrap ((M : Int) - 1) = (m1 : Int) := by rw [IntKind.wrap_i64]; omega
  have t3 : IntKind.i64.wrap ((M : Int) - 2) = (m2 : Int) := by rw [IntKind.wrap_i64]; omega
  have t4 : (m1 : Int) < (M : Int) := by omega
  have t5 : (m2 : Int) < (M : Int) := by omega
  have t6 : (0 : Int) ≤ (m1 : Int) := by omega
  have t7 : (0 : Int) ≤ (m2 : Int) := by omega
  have t8 : m1 < M := by omega
  have t9 : m2 < M := by omega
  clear hm1 hm2 hM hlb
  go_wp2_with fail
  go_quiet (fail)
  go_wp2
  go_ret
  exact ⟨rfl, below_drewN HW7.out _⟩
end Go.Proofs.YtfpjooekpjhbpaaDoor.K
