/- The walk of CrcWays. -/
import Derived.Test.YtimlkmblfjoigaaDoorCSame
namespace Go.Proofs.YtimlkmblfjoigaaDoor.K
open Go.RowKit
set_option linter.unusedVariables false
set_option linter.unusedSimpArgs false
attribute [local go_sem] min2_min min_two
attribute [local go_sem ↓] Go.wp_at_zero Go.wp_at_succ
set_option maxHeartbeats 8000000 in
set_option maxRecDepth 10000 in
theorem cways_walk (A : Option Addr) (c : Nat) (zs : List Int) (hc : zs.length ≤ c) (hcm : c ≤ 9223372036854775807) (a1 : Int) (w : World) (hT : Turns w) (h0 : RowOf c8 1 w w.heap.size A zs) (b0 : InB zs) :
    Calls Tryd.prog 4 #[.slice A zs.length c, .int .i64 a1] w fun e w' => e = .returned (.bool true) ∧ Below w.heap.size w w' := by
  obtain ⟨n, hn, hn1, hn2⟩ := min_nat zs.length 3000
  have hcut := fun W => bcut_hi A zs.length c n (by omega) W
  obtain ⟨l, hl⟩ : ∃ l, l = zs.take n := ⟨_, rfl⟩
  have hln : n = l.length := by rw [hl, List.length_take]; omega
  subst hln
  have HR := Lib.hid (hl ▸ h0.take_ l.length : RowOf c8 1 w w.heap.size A l)
  have HI := Lib.hid (hl ▸ b0.take_ l.length : InB l)
  have hcc : l.length ≤ c := by omega
  clear h0 b0 hl hc
  have hmin : min (zs.length : Int) 3000 = (l.length : Int) := hn
  obtain ⟨mk, hmk, hbits⟩ := and_mask a1 65535 (by omega)
  have hbits : bits .and .i64 a1 65535 = (mk : Int) := hbits
  obtain ⟨p, hp⟩ : ∃ p : Nat, p = mk % (l.length + 1) := ⟨_, rfl⟩
  have hp1 : p ≤ l.length := by have := Nat.mod_lt mk (show 0 < l.length + 1 by omega); omega
  have hmod : (mk : Int) % ((l.length : Int) + 1) = (p : Int) := by rw [hp]; simp
  have hhi := fun W => bcut_hi A l.length c p (by omega) W
  have hlo := fun W => bcut_lo A l.length c p hp1 hcc hcm W
  have HT1 : Hid ((l.take p).length = p) := Lib.hid (by rw [List.length_take]; omega)
  have HTd : Hid ((l.drop p).length = l.length - p) := Lib.hid (by rw [List.length_drop])
  have HRt := Lib.hid (HR.out.take_ p)
  have HRd := Lib.hid (HR.out.drop_ (cap := c) p hcc)
  have HIt := Lib.hid (HI.out.take_ p)
  have HId := Lib.hid (HI.out.drop_ p)
  have HLE : Hid (l.take p ++ l.drop p = l) := Lib.hid (List.take_append_drop p l)
  generalize (if c = p then A else A.map (·.add p)) = A2 at *
  generalize l.take p = lt at *
  generalize l.drop p = ld at *
  obtain ⟨q, hq⟩ : ∃ q, l.length - p = q := ⟨_, rfl⟩
  rw [hq] at hlo HTd
  obtain ⟨X, hX⟩ : ∃ X, crcN l = X := ⟨_, rfl⟩
  have HX := Lib.hid hX
  have hn3 := hn2
  obtain ⟨L, hL⟩ : ∃ L, L = l.length := ⟨_, rfl⟩
  have HL := Lib.hid hL
  have hp3 : p ≤ 3000 := by omega
  have hq3 : q ≤ 3000 := by omega
  have hTB : ∀ w' : World, Below w.heap.size w w' → Turns w' := fun w' b => hT.below b hT.lt
  have HTB := Lib.hid hTB
  clear hp hmk hn hn1 hq hX hTB
  rw [← hL] at hcut hmin hmod hhi hlo hcc hn2 hn3 hp1
  clear hL
  go_enter Tryd.func4, Tryd.ntmps4
  go_wp2_with fail
  refine (shown2_walk hT).mono ?_
  rintro e w1 ⟨rfl, H1⟩
  have HP1 : Hid (Parts w1 [(A, c, l)]) := Lib.hid (Parts.cons (HR.out.now H1.out) HI.out (by have := HL.out; omega) (Parts.nil _))
  have HP3 : Hid (Parts w1 [(A, c, lt), (none, 0, []), (A2, c - p, ld)]) := Lib.hid (Parts.cons (HRt.out.now H1.out) HIt.out (by rw [HT1.out]; omega) (Parts.cons row_none (fun x h => by cases h) (by simp) (Parts.cons (HRd.out.now H1.out) HId.out (by rw [HTd.out]; omega) (Parts.nil _))))
  have HP2 : Hid (Parts w1 [(A, c, lt), (A2, c - p, ld)]) := Lib.hid (Parts.cons (HRt.out.now H1.out) HIt.out (by rw [HT1.out]; omega) (Parts.cons (HRd.out.now H1.out) HId.out (by rw [HTd.out]; omega) (Parts.nil _)))
  have HC1 : Hid (([(A, c, l)] : List Part).map pv = [.slice A L c]) := Lib.hid (by simp only [List.map_cons, List.map_nil, pv, ← HL.out])
  have HC3 : Hid (([(A, c, lt), (none, 0, []), (A2, c - p, ld)] : List Part).map pv = [.slice A p c, .slice none 0 0, .slice A2 q (c - p)]) := Lib.hid (by simp only [List.map_cons, List.map_nil, pv, HT1.out, HTd.out, List.length_nil])
  have HC2 : Hid (([(A, c, lt), (A2, c - p, ld)] : List Part).map pv = [.slice A p c, .slice A2 q (c - p)]) := Lib.hid (by simp only [List.map_cons, List.map_nil, pv, HT1.out, HTd.out])
  have hT1 := HTB.out _ H1.out
  have HF3 : Hid (crcN (flat [(A, c, lt), (none, 0, []), (A2, c - p, ld)]) = X) := Lib.hid (by simp only [flat, List.flatMap_cons, List.flatMap_nil, List.append_nil, List.nil_append]; rw [HLE.out]; exact HX.out)
  have HF2 : Hid (crcN (flat [(A, c, lt), (A2, c - p, ld)]) = X) := Lib.hid (by simp only [flat, List.flatMap_cons, List.flatMap_nil, List.append_nil, List.nil_append]; rw [HLE.out]; exact HX.out)
  have HF1 : Hid (crcN (flat [(A, c, l)]) = X) := Lib.hid (by rw [flat_one]; exact HX.out)
  have k1 : Hid True := Lib.hid trivial
  go_wp2_with fail
  refine Calls.mono (CBitsM (w := w1) (x := X) (cs := #[.slice A L c]) (ps := [(A, c, l)]) rfl rfl ⟨rfl, rfl, rfl, rfl⟩ (by rw [HC1.out]) hT1 HP1.out (by decide) HF1.out) ?_
  rintro e w2 ⟨rfl, H2⟩
  have hT2 := hT1.below H2.out hT1.lt
  have HP1 := Lib.hid (HP1.out.below H2.out)
  have HP2 := Lib.hid (HP2.out.below H2.out)
  have HP3 := Lib.hid (HP3.out.below H2.out)
  have B2 := Lib.hid (H1.out.trans (H2.out.mono H1.out.size))
  clear H2
  go_wp2_with fail
  go_region_held (fun _ => True) (trivial) (first
    | (go_at_call 16; have _t := k1; refine Calls.mono (CTableM (w := w2) (x := X) (cs := #[.slice A L c]) (ps := [(A, c, l)]) rfl rfl ⟨rfl, rfl, rfl, rfl⟩ (by rw [HC1.out]) hT2 HP1.out (by decide) HF1.out) ?_; rintro e w3 ⟨rfl, H3⟩; have B3 := H3; have hT3 := hT2.below H3.out hT2.lt; have k2 := k1; clear k1 H3)
    | (go_at_call 15; have _t := k2; refine Calls.mono (CBitsM (w := w3) (x := X) (cs := #[.slice A p c, .slice none 0 0, .slice A2 q (c - p)]) (ps := [(A, c, lt), (none, 0, []), (A2, c - p, ld)]) rfl rfl ⟨rfl, rfl, rfl, rfl⟩ (by rw [HC3.out]) hT3 (HP3.out.below B3.out) (by decide) HF3.out) ?_; rintro e w4 ⟨rfl, H4⟩; have B4 := Lib.hid (B3.out.trans (H4.out.mono B3.out.size)); have hT4 := hT2.below B4.out hT2.lt; have k3 := k2; clear k2 H4)
    | (go_at_call 16; have _t := k3; refine Calls.mono (CTableM (w := w4) (x := X) (cs := #[.slice A p c, .slice A2 q (c - p)]) (ps := [(A, c, lt), (A2, c - p, ld)]) rfl rfl ⟨rfl, rfl, rfl, rfl⟩ (by rw [HC2.out]) hT4 (HP2.out.below B4.out) (by decide) HF2.out) ?_; rintro e w5 ⟨rfl, H5⟩; have B5 := Lib.hid (B4.out.trans (H5.out.mono B4.out.size)); clear k3 H5))
  all_goals
    go_wp2
    go_ret
    exact ⟨rfl, B2.out.trans (B5.out.mono B2.out.size)⟩
end Go.Proofs.YtimlkmblfjoigaaDoor.K
