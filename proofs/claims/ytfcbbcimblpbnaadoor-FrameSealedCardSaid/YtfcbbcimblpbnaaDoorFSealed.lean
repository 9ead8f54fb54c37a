/- The walk of FrameSealed. -/
import Derived.Test.YtfcbbcimblpbnaaDoorF6
namespace Go.Proofs.YtfcbbcimblpbnaaDoor.K
open Go.RowKit
set_option linter.unusedVariables false
set_option linter.unusedSimpArgs false
attribute [local go_sem] min2_min min_two
theorem dec_sealed {l m : List Int} (hm : l ++ be (crcN l) 2 = m) (hi : InB m) : decL (stf m) = if l.length < 5 then (fr0, 2) else formF l := by
  have hl : m.length = l.length + 2 := by rw [← hm, List.length_append, be_length]
  have hv : valid m = true := by
    rw [valid_iff hi (by omega), ← hm]
    exact decide_eq_true (cf_sealed l)
  have ht : m.take (m.length - 2) = l := by rw [hl, show l.length + 2 - 2 = l.length by omega, ← hm, List.take_left]
  rw [dec_stf, hv, ht]
  by_cases h : l.length < 5
  · rw [if_pos (by omega), if_pos h]
  · rw [if_neg (by omega), if_neg h, if_neg (by simp)]
theorem sealed_way (b0 b1 b3 b4 n : Int) (h3 : 0 ≤ b3) : (1 ≤ b0 ∧ b0 ≤ 31 ∧ 1 ≤ b1 ∧ b1 ≤ 5 ∧ b3 < 4 ∧ b4 = n ∧ n ≤ 24) ∨ b0 < 1 ∨ (1 ≤ b0 ∧ 31 < b0) ∨ (1 ≤ b0 ∧ b0 ≤ 31 ∧ b1 < 1) ∨ (1 ≤ b0 ∧ b0 ≤ 31 ∧ 1 ≤ b1 ∧ 5 < b1) ∨ (1 ≤ b0 ∧ b0 ≤ 31 ∧ 1 ≤ b1 ∧ b1 ≤ 5 ∧ 4 ≤ b3) ∨ (1 ≤ b0 ∧ b0 ≤ 31 ∧ 1 ≤ b1 ∧ b1 ≤ 5 ∧ b3 < 4 ∧ b4 ≠ n) ∨ (1 ≤ b0 ∧ b0 ≤ 31 ∧ 1 ≤ b1 ∧ b1 ≤ 5 ∧ b3 < 4 ∧ b4 = n ∧ 24 < n) := by omega
set_option maxHeartbeats 2000000 in
set_option maxRecDepth 10000 in
theorem fsealed_walk (A : Option Addr) (c : Nat) (zs : List Int) (hc : zs.length ≤ c) (hcm : c ≤ 9223372036854775807) (w : World) (hT : Turns w) (h0 : RowOf c8 1 w w.heap.size A zs) (ha : ∀ ad, A = some ad → ad.block < w.heap.size) (b0 : InB zs) :
    Calls Tryd.prog 6 #[.slice A zs.length c] w fun e w' => e = .returned (.bool true) ∧ Below w.heap.size w w' := by
  obtain ⟨n, hn, hn1, hn2⟩ := min_nat zs.length 60
  have hcut := fun W => bcut_hi A zs.length c n (by omega) W
  obtain ⟨l, hl⟩ : ∃ l, l = zs.take n := ⟨_, rfl⟩
  have hln : l.length = n := by rw [hl, List.length_take]; omega
  have HR := Lib.hid (hl ▸ h0.take_ n : RowOf c8 1 w w.heap.size A l)
  have HI := Lib.hid (hl ▸ b0.take_ n : InB l)
  have HA := Lib.hid ha
  have HLN := Lib.hid hln
  have hcc : n ≤ c := by omega
  have hmin : min (zs.length : Int) 60 = (n : Int) := hn
  have HTB : Hid (∀ w' : World, Below w.heap.size w w' → Turns w') := Lib.hid (fun w' b => hT.below b hT.lt)
  obtain ⟨m, hm⟩ : ∃ m, l ++ be (crcN l) 2 = m := ⟨_, rfl⟩
  obtain ⟨M, hM⟩ : ∃ M, n + 2 = M := ⟨_, rfl⟩
  have HM := Lib.hid hM
  have HMD := Lib.hid hm
  have HML : Hid (m.length = M) := Lib.hid (by rw [← hm, List.length_append, be_length]; omega)
  have HMI : Hid (InB m) := Lib.hid (fun x hx => by rw [← hm] at hx; exact (List.mem_append.1 hx).elim (HI.out x) (be_inB _ _ x))
  obtain ⟨Z, hZ⟩ : ∃ Z, (stf m).length = Z := ⟨_, rfl⟩
  have HZ := Lib.hid hZ
  have hZ2 := (stf_len m).2
  rw [hZ, HML.out] at hZ2
  have HDS := Lib.hid (dec_sealed hm HMI.out)
  have hM62 : M ≤ 62 := by omega
  clear h0 b0 hl hc ha hn hn1 hln hm hM hZ
  go_enter Tryd.func6, Tryd.ntmps6
  go_wp2_with fail
  refine (shown4_walk hT).mono ?_
  rintro e w1 ⟨rfl, H1⟩
  go_wp2_with fail
  refine Calls.mono (CAppendE HLN.out HM.out HMD.out (Same.refl w1) (HTB.out _ H1.out) (HR.out.now H1.out) (fun ad e => Nat.lt_of_lt_of_le (HA.out ad e) H1.out.size) HI.out (by omega)) ?_
  rintro e w2 ⟨A2, c2, rfl, M2, D2⟩
  have B2 := Lib.hid (H1.out.trans (D2.out.mono H1.out.size))
  clear D2 H1
  go_wp2_with fail
  refine Calls.mono (StuffM HML.out (by omega) w2 M2.out.2.1) ?_
  rintro e w3 ⟨A3, c3, rfl, M3, D3⟩
  rw [HZ.out]
  have B3 := Lib.hid (B2.out.trans (D3.out.mono B2.out.size))
  clear D3 M2
  go_wp2_with fail
  by_cases h5 : n < 5
  · have hd : decL (stf m) = (⟨0, 0, 0, 0, 0, []⟩, 2) := by rw [HDS.out, HLN.out, if_pos h5]
    refine Calls.mono (DecodeE hd rfl HZ.out (by omega) (stf_inB HMI.out) w3 (HTB.out _ B3.out) M3.out.2.1) ?_
    rintro e w4 ⟨A4, c4, rfl, M4, D4⟩
    have hs4 := D4.out.size
    have D4' := Lib.hid (D4.out.alloc hs4 (.cells #[.int .u8 0, .int .u8 0, .int .u8 0, .int .u8 0, .int .u8 0, .slice A4 0 c4] 24))
    have B4 := Lib.hid (B3.out.trans (D4'.out.mono B3.out.size))
    clear M4 D4 D4' hd hcut hmin
    go_wp2
    go_ret
    exact ⟨rfl, B4.out⟩
  · obtain ⟨k, rfl⟩ : ∃ k, n = k + 5 := ⟨n - 5, by omega⟩
    obtain ⟨x0, x1, x2, x3, x4, r, hlr⟩ := five_of l (by rw [HLN.out]; omega)
    have hrk : r.length = k := by have := HLN.out; rw [hlr] at this; simp at this; omega
    have hi := HI.out
    rw [hlr] at hi
    obtain ⟨i00, i01⟩ := hi x0 (by simp)
    obtain ⟨i10, i11⟩ := hi x1 (by simp)
    obtain ⟨i20, i21⟩ := hi x2 (by simp)
    obtain ⟨i30, i31⟩ := hi x3 (by simp)
    obtain ⟨i40, i41⟩ := hi x4 (by simp)
    have hds : decL (stf m) = formF (x0 :: x1 :: x2 :: x3 :: x4 :: r) := by rw [HDS.out, HLN.out, if_neg (by omega), hlr]
    have HRK := Lib.hid hrk
    have HLR := Lib.hid hlr
    clear hi hlr HDS h5
    have hff : formF (x0 :: x1 :: x2 :: x3 :: x4 :: r) = if rightF ⟨x0, x1, x2, x3 % 2, x3 / 2, r⟩ && x4 == (r.length : Int) then (⟨x0, x1, x2, x3 % 2, x3 / 2, r⟩, 0) else (fr0, 3) := rfl
    rw [hff, hrk] at hds
    clear hff hrk
    rcases sealed_way x0 x1 x3 x4 (k : Int) i30 with h | h
    · obtain ⟨h1, h2, h3, h4, h5, h6, h7⟩ := h
      have hr : rightF ⟨x0, x1, x2, x3 % 2, x3 / 2, r⟩ = true := decide_eq_true ⟨h1, h2, h3, h4, by simp only; omega, by simp only; omega, by simp only; rw [HRK.out]; omega⟩
      rw [hr, h6] at hds
      have hd : decL (stf m) = (⟨x0, x1, x2, x3 % 2, x3 / 2, r⟩, 0) := by rw [hds]; simp
      refine Calls.mono (DecodeE hd HRK.out HZ.out (by omega) (stf_inB HMI.out) w3 (HTB.out _ B3.out) M3.out.2.1) ?_
      rintro e w4 ⟨A4, c4, rfl, M4, D4⟩
      have hq : (x3 % 2 + 2 * (x3 / 2) == x3) = true := by rw [beq_iff_eq]; omega
      have q0 : 0 ≤ x3 % 2 := by omega
      have q1 : x3 % 2 ≤ 1 := by omega
      have p0 : 0 ≤ x3 / 2 := by omega
      have p1 : x3 / 2 ≤ 1 := by omega
      clear hds hd hr hcut hmin
      generalize x3 % 2 = q at *
      generalize x3 / 2 = x at *
      have hs4 := D4.out.size
      have D4' : Hid (Below w3.heap.size w3 (w4.alloc (.cells #[.int .u8 x0, .int .u8 x1, .int .u8 x2, .int .u8 q, .int .u8 x, .slice A4 k c4] 24))) := Lib.hid (D4.out.alloc hs4 _)
      have B4 := Lib.hid (B3.out.trans (D4'.out.mono B3.out.size))
      have B4w := Lib.hid (B3.out.trans (D4.out.mono B3.out.size))
      have HRb := Lib.hid (HR.out.now B4.out)
      have HRw := Lib.hid (HR.out.now B4w.out)
      have hm4 : Made w3.heap.size A4 c4 r (w4.alloc (.cells #[.int .u8 x0, .int .u8 x1, .int .u8 x2, .int .u8 q, .int .u8 x, .slice A4 k c4] 24)) := M4.out.fr ((Fr.refl (fun _ => False) w4).alloc _) (fun _ _ h => h)
      have s1 : ∀ n, (convert 22 9 (.slice A4 k c4)).run Tryd.prog ((w4.alloc (.cells #[.int .u8 x0, .int .u8 x1, .int .u8 x2, .int .u8 q, .int .u8 x, .slice A4 k c4] 24)).drewN n) = .ok (.string (strOfNums r)) ((w4.alloc (.cells #[.int .u8 x0, .int .u8 x1, .int .u8 x2, .int .u8 q, .int .u8 x, .slice A4 k c4] 24)).drewN n) := fun n => str_n HRK.out (hm4.2.1.drewN_ n)
      obtain ⟨A5, hA5⟩ : ∃ A5, A5 = (if c = 5 then A else A.map (·.add 5)) := ⟨_, rfl⟩
      have hlo : ∀ W, (Instr.slice 22 (.slice A (k + 5) c) (some (.int .i64 5)) none none).run Tryd.prog W = .ok (.slice A5 k (c - 5)) W := fun W => by
        have := bcut_lo A (k + 5) c 5 (by omega) hcc hcm W
        rw [← hA5] at this
        simpa using this
      have s2 : ∀ n, (convert 22 9 (.slice A5 k (c - 5))).run Tryd.prog ((w4.alloc (.cells #[.int .u8 x0, .int .u8 x1, .int .u8 x2, .int .u8 q, .int .u8 x, .slice A4 k c4] 24)).drewN n) = .ok (.string (strOfNums r)) ((w4.alloc (.cells #[.int .u8 x0, .int .u8 x1, .int .u8 x2, .int .u8 q, .int .u8 x, .slice A4 k c4] 24)).drewN n) := fun n => str_n (B := (w4.alloc (.cells #[.int .u8 x0, .int .u8 x1, .int .u8 x2, .int .u8 q, .int .u8 x, .slice A4 k c4] 24)).heap.size) HRK.out (by
        have h := HRb.out.drop_ (cap := c) 5 (by rw [HLN.out]; exact hcc)
        rw [← hA5, HLR.out] at h
        exact (h.drewN_ n))
      obtain ⟨ad, rfl, _, c0⟩ := HRw.out.num (i := 0) (by rw [HLN.out]; omega)
      obtain ⟨ad1, e1, _, c1⟩ := HRw.out.num (i := 1) (by rw [HLN.out]; omega)
      obtain rfl := Option.some.inj e1
      obtain ⟨ad2, e2, _, cc2⟩ := HRw.out.num (i := 2) (by rw [HLN.out]; omega)
      obtain rfl := Option.some.inj e2
      obtain ⟨ad3, e3, _, cc3⟩ := HRw.out.num (i := 3) (by rw [HLN.out]; omega)
      obtain rfl := Option.some.inj e3
      obtain ⟨ad4, e4, _, cc4⟩ := HRw.out.num (i := 4) (by rw [HLN.out]; omega)
      obtain rfl := Option.some.inj e4
      rw [HLR.out] at c0 c1 cc2 cc3 cc4
      simp only [List.getD_cons_zero, List.getD_cons_succ] at c0 c1 cc2 cc3 cc4
      have c0 : w4.cell? ad = some (.int .u8 x0) := c0
      have z0 := World.new_ne w4 _ c0
      have c1 : w4.cell? ⟨ad.block, ad.off + 1, none⟩ = some (.int .u8 x1) := c1
      have z1 := World.new_ne w4 _ c1
      have cc2 : w4.cell? ⟨ad.block, ad.off + 2, none⟩ = some (.int .u8 x2) := cc2
      have z2 := World.new_ne w4 _ cc2
      have cc3 : w4.cell? ⟨ad.block, ad.off + 3, none⟩ = some (.int .u8 x3) := cc3
      have z3 := World.new_ne w4 _ cc3
      have cc4 : w4.cell? ⟨ad.block, ad.off + 4, none⟩ = some (.int .u8 x4) := cc4
      have z4 := World.new_ne w4 _ cc4
      clear M4 D4 D4' hm4 hA5 h1 h2 h3 h4 h5 h7
      subst h6
      go_wp2_with fail
      go_quiet (fail)
      go_wp2
      go_ret
      exact ⟨rfl, B4.out.os, B4.out.tape, B4.out.output, B4.out.size, B4.out.block⟩
    · have hno : (rightF ⟨x0, x1, x2, x3 % 2, x3 / 2, r⟩ && x4 == (k : Int)) = false := by
        rw [Bool.and_eq_false_iff]
        by_cases h4 : x4 = (k : Int)
        · left
          refine decide_eq_false (fun hh => ?_)
          have h7 := hh.2.2.2.2.2.2
          simp only at hh h7
          rw [HRK.out] at h7
          omega
        · right; simpa using h4
      rw [hno] at hds
      have hd : decL (stf m) = (⟨0, 0, 0, 0, 0, []⟩, 3) := by rw [hds]; simp
      refine Calls.mono (DecodeE hd rfl HZ.out (by omega) (stf_inB HMI.out) w3 (HTB.out _ B3.out) M3.out.2.1) ?_
      rintro e w4 ⟨A4, c4, rfl, M4, D4⟩
      have hs4 := D4.out.size
      have D4' : Hid (Below w3.heap.size w3 (w4.alloc (.cells #[.int .u8 0, .int .u8 0, .int .u8 0, .int .u8 0, .int .u8 0, .slice A4 0 c4] 24))) := Lib.hid (D4.out.alloc hs4 _)
      have B4 := Lib.hid (B3.out.trans (D4'.out.mono B3.out.size))
      have B4w := Lib.hid (B3.out.trans (D4.out.mono B3.out.size))
      have HRw := Lib.hid (HR.out.now B4w.out)
      obtain ⟨ad, rfl, _, c0⟩ := HRw.out.num (i := 0) (by rw [HLN.out]; omega)
      obtain ⟨ad1, e1, _, c1⟩ := HRw.out.num (i := 1) (by rw [HLN.out]; omega)
      obtain rfl := Option.some.inj e1
      obtain ⟨ad3, e3, _, cc3⟩ := HRw.out.num (i := 3) (by rw [HLN.out]; omega)
      obtain rfl := Option.some.inj e3
      obtain ⟨ad4, e4, _, cc4⟩ := HRw.out.num (i := 4) (by rw [HLN.out]; omega)
      obtain rfl := Option.some.inj e4
      rw [HLR.out] at c0 c1 cc3 cc4
      simp only [List.getD_cons_zero, List.getD_cons_succ] at c0 c1 cc3 cc4
      have c0 : w4.cell? ad = some (.int .u8 x0) := c0
      have z0 := World.new_ne w4 _ c0
      have c1 : w4.cell? ⟨ad.block, ad.off + 1, none⟩ = some (.int .u8 x1) := c1
      have z1 := World.new_ne w4 _ c1
      have cc3 : w4.cell? ⟨ad.block, ad.off + 3, none⟩ = some (.int .u8 x3) := cc3
      have z3 := World.new_ne w4 _ cc3
      have cc4 : w4.cell? ⟨ad.block, ad.off + 4, none⟩ = some (.int .u8 x4) := cc4
      have z4 := World.new_ne w4 _ cc4
      clear M4 D4 D4' hd hds hno hcut hmin
      rcases h with h | ⟨h1, h⟩ | ⟨h1, h2, h⟩ | ⟨h1, h2, h3, h⟩ | ⟨h1, h2, h3, h4, h⟩ | ⟨h1, h2, h3, h4, h5, h⟩ | ⟨h1, h2, h3, h4, h5, rfl, h⟩
      all_goals
        go_wp2
        go_ret
        first
        | exact ⟨rfl, B4.out⟩
        | exact ⟨ret_bool (by simp; omega), B4.out⟩
end Go.Proofs.YtfcbbcimblpbnaaDoor.K
