/- ModuleBytes: its walk. -/
import Derived.Test.YtdhfinpmcikimaaDoorMl
import Derived.Deep.CutBlock
import Derived.Deep.DeepCutAuto
import Derived.Deep.RegionHeld3
import Derived.Deep.RegionHeldLaw
namespace Go.Proofs.YtdhfinpmcikimaaDoor.K
open Go.RowKit
set_option linter.unusedVariables false
set_option linter.unusedSimpArgs false
attribute [local go_sem] min2_min min_two
def PP (k t q : Int) (p : Int × Int × Int × Int) : Prop := ((k = 1 ∨ k = 2) ∧ p = (k, t, q, 0)) ∨ (¬ (k = 1 ∨ k = 2) ∧ p = (0, 0, 0, 3))
theorem pp_of {k t q : Int} (hk : 0 ≤ k ∧ k < 256) (ht : 0 ≤ t ∧ t < 65536) (hq : 0 ≤ q ∧ q < 65536) : PP k t q (parseM (bytesM k t q)) := by
  rw [parse_bytes hk ht hq]
  by_cases h : k = 1 ∨ k = 2
  · exact .inl ⟨h, if_pos h⟩
  · exact .inr ⟨h, if_neg h⟩
set_option maxHeartbeats 16000000 in
set_option maxRecDepth 20000 in
theorem mbytes_walk {h : Nat} (A : Option Addr) (c : Nat) (zs : List Int) (k t q k2 t2 q2 : Int) (w : World) (hk : Kn h w) (hr : RowOf c8 1 w w.heap.size A zs) (hc : zs.length ≤ c) (b0 : InB zs) (k0 : 0 ≤ k ∧ k < 256) (t0 : 0 ≤ t ∧ t < 65536) (q0 : 0 ≤ q ∧ q < 65536) (k20 : 0 ≤ k2 ∧ k2 < 256) (t20 : 0 ≤ t2 ∧ t2 < 65536) (q20 : 0 ≤ q2 ∧ q2 < 65536) :
    Calls Tryd.prog 3 #[.agg #[.int .u8 k, .int .u16 t, .int .u16 q], .agg #[.int .u8 k2, .int .u16 t2, .int .u16 q2], .slice A zs.length c] w fun e w' => e = .returned (.bool true) ∧ Below w.heap.size w w' := by
  obtain ⟨n, hn, hn1, hn2⟩ := min_nat zs.length 40
  obtain ⟨ti, hti, _⟩ := bytes_info
  have hcut := fun W => cut_hi Tryd.underlying26 hti A zs.length c n (by omega) W
  obtain ⟨l, hl⟩ : ∃ l, l = zs.take n := ⟨_, rfl⟩
  have hln : n = l.length := by rw [hl, List.length_take]; omega
  subst hln
  have F2 : Fr0 w ((w.alloc (.cells #[.int .u8 k, .int .u16 t, .int .u16 q] 24)).alloc (.cells #[.int .u8 k2, .int .u16 t2, .int .u16 q2] 25)) := ((Fr.refl (fun _ => False) w).alloc _).alloc _
  have HR := Lib.hid ((hl ▸ hr.take_ l.length : RowOf c8 1 w w.heap.size A l).now F2.below0)
  have HI : Hid (InB l) := Lib.hid fun x hx => b0 x (by rw [hl] at hx; exact List.mem_of_mem_take hx)
  have HK := Lib.hid (hk.fr0 F2)
  have HF := Lib.hid F2
  have HBC := Lib.hid ((Blk.new w 24 #[.int .u8 k, .int .u16 t, .int .u16 q]).alloc (.cells #[.int .u8 k2, .int .u16 t2, .int .u16 q2] 25))
  have HBE : Hid (Blk ((w.alloc (.cells #[.int .u8 k, .int .u16 t, .int .u16 q] 24)).alloc (.cells #[.int .u8 k2, .int .u16 t2, .int .u16 q2] 25)) (w.heap.size + 1) 25 #[.int .u8 k2, .int .u16 t2, .int .u16 q2]) := Lib.hid (Blk.new_at (by simp))
  have HB := Lib.hid (And.intro (And.intro k0 (And.intro t0 q0)) (And.intro k20 (And.intro t20 q20)))
  have HP1 := Lib.hid (pp_of k0 t0 q0)
  have HP2 := Lib.hid (pp_of k20 t20 q20)
  have HLN : Hid (l.length ≤ 40) := Lib.hid hn2
  have hmin : min (zs.length : Int) 40 = (l.length : Int) := hn
  clear hk hr hc b0 k0 t0 q0 k20 t20 q20 F2 hl hn1 hn2 hn hti
  go_enter Tryd.func3, Tryd.ntmps3
  go_wp2_with fail
  generalize ((w.alloc (.cells #[.int .u8 k, .int .u16 t, .int .u16 q] 24)).alloc (.cells #[.int .u8 k2, .int .u16 t2, .int .u16 q2] 25)) = w2 at *
  generalize w.heap.size = gC at *
  generalize hgE : gC + 1 = gE at *
  refine Calls.mono (shown11_walk HK.out) ?_
  rintro e w3 ⟨rfl, FS⟩
  have HF3 := Lib.hid (HF.out.trans FS.out (fun _ _ h => h))
  have HR3 := Lib.hid (HR.out.now FS.out.below0)
  have HBC3 := Lib.hid (HBC.out.fr FS.out (fun h => h))
  have HBE3 := Lib.hid (HBE.out.fr FS.out (fun h => h))
  have c0 := HBC3.out.cell 0
  have c1 := HBC3.out.cell 1
  have c2 := HBC3.out.cell 2
  clear HF HR HBC HBE FS HK
  go_wp2_with fail
  refine Calls.mono (CmdBytesC _ HB.out.1.1 HB.out.1.2.1 HB.out.1.2.2) ?_
  rintro e w4 ⟨X, xc, rfl, HX, F⟩
  have HF4 := Lib.hid (HF3.out.trans F.out (fun _ _ h => h))
  have HR4 := Lib.hid (HR3.out.now F.out.below0)
  have HBC4 := Lib.hid (HBC3.out.fr F.out (fun h => h))
  have HBE4 := Lib.hid (HBE3.out.fr F.out (fun h => h))
  have e0 := HBE4.out.cell 0
  have e1 := HBE4.out.cell 1
  have e2 := HBE4.out.cell 2
  clear HF3 HR3 HBC3 HBE3 F c0 c1 c2
  go_wp2_with fail
  refine Calls.mono (EvBytesC _ HB.out.2.1 HB.out.2.2.1 HB.out.2.2.2) ?_
  rintro e w5 ⟨Y, yc, rfl, HY, F⟩
  have HF5 := Lib.hid (HF4.out.trans F.out (fun _ _ h => h))
  have HR5 := Lib.hid (HR4.out.now F.out.below0)
  have HBC5 := Lib.hid (HBC4.out.fr F.out (fun h => h))
  have HBE5 := Lib.hid (HBE4.out.fr F.out (fun h => h))
  have HX5 := Lib.hid (HX.out.2.1.now F.out.below0)
  have HY5 := Lib.hid HY.out.2.1
  have qP := ParseCmdC (c := xc) HX5.out (bytesM_in HB.out.1.1 HB.out.1.2.1 HB.out.1.2.2) (by rw [bytesM_len]; decide)
  rw [bytesM_len] at qP
  generalize parseM (bytesM k t q) = p at *
  obtain ⟨pk, pt, pq, pf⟩ := p
  dsimp only at qP
  clear HF4 HR4 HBC4 HBE4 F e0 e1 e2 HX HY
  go_wp2_with fail
  refine Calls.mono qP ?_
  clear qP
  rintro e w6 ⟨rfl, F⟩
  have FD : Fr0 w5 (w6.alloc (.cells #[.int .u8 pk, .int .u16 pt, .int .u16 pq] 24)) := F.out.alloc _
  have HF7 := Lib.hid (HF5.out.trans FD (fun _ _ h => h))
  have HR7 := Lib.hid (HR5.out.now FD.below0)
  have HBC7 := Lib.hid (HBC5.out.fr FD (fun h => h))
  have HBE7 := Lib.hid (HBE5.out.fr FD (fun h => h))
  have HX7 := Lib.hid (HX5.out.now FD.below0)
  have HY7 := Lib.hid (HY5.out.now FD.below0)
  have HBP7 := Lib.hid (Blk.new w6 24 #[.int .u8 pk, .int .u16 pt, .int .u16 pq])
  clear HF5 HR5 HBC5 HBE5 HX5 HY5 F FD
  go_upto_region 6 with (fail)
  generalize w6.alloc (.cells #[.int .u8 pk, .int .u16 pt, .int .u16 pq] 24) = w7 at *
  generalize w6.heap.size = gP at *
  have qP := ParseEvC (c := yc) HY7.out (bytesM_in HB.out.2.1 HB.out.2.2.1 HB.out.2.2.2) (by rw [bytesM_len]; decide)
  rw [bytesM_len] at qP
  generalize parseM (bytesM k2 t2 q2) = p at *
  obtain ⟨rk, rt, rq, rf⟩ := p
  dsimp only at qP
  go_wp2_with fail
  refine Calls.mono qP ?_
  clear qP
  rintro e w8 ⟨rfl, F⟩
  have FD : Fr0 w7 (w8.alloc (.cells #[.int .u8 rk, .int .u16 rt, .int .u16 rq] 25)) := F.out.alloc _
  have HF9 := Lib.hid (HF7.out.trans FD (fun _ _ h => h))
  have HR9 := Lib.hid (HR7.out.now FD.below0)
  have HBC9 := Lib.hid (HBC7.out.fr FD (fun h => h))
  have HBE9 := Lib.hid (HBE7.out.fr FD (fun h => h))
  have HX9 := Lib.hid (HX7.out.now FD.below0)
  have HY9 := Lib.hid (HY7.out.now FD.below0)
  have HBP9 := Lib.hid (HBP7.out.fr FD (fun h => h))
  have HBR9 := Lib.hid (Blk.new w8 25 #[.int .u8 rk, .int .u16 rt, .int .u16 rq])
  clear HF7 HR7 HBC7 HBE7 HX7 HY7 HBP7 F FD
  go_upto_region 7 with (fail)
  generalize w8.alloc (.cells #[.int .u8 rk, .int .u16 rt, .int .u16 rq] 25) = w9 at *
  generalize w8.heap.size = gR at *
  have HSN : Hid (∀ W, Fr0 w9 W → ((convert 26 9 (.slice X 5 xc)).run Tryd.prog W = .ok (.string (strOfNums (bytesM k t q))) W ∧ (convert 26 9 (.slice Y 5 yc)).run Tryd.prog W = .ok (.string (strOfNums (bytesM k2 t2 q2))) W ∧ W.cell? ⟨gC, 0, none⟩ = some (.int .u8 k) ∧ W.cell? ⟨gC, 1, none⟩ = some (.int .u16 t) ∧ W.cell? ⟨gC, 2, none⟩ = some (.int .u16 q) ∧ W.cell? ⟨gE, 0, none⟩ = some (.int .u8 k2) ∧ W.cell? ⟨gE, 1, none⟩ = some (.int .u16 t2) ∧ W.cell? ⟨gE, 2, none⟩ = some (.int .u16 q2))) := Lib.hid (fun W F => by
    have hx := str_row (c := xc) (HX9.out.now F.below0)
    have hy := str_row (c := yc) (HY9.out.now F.below0)
    rw [bytesM_len] at hx hy
    have hc := HBC9.out.fr F (fun h => h)
    have he := HBE9.out.fr F (fun h => h)
    exact ⟨hx, hy, hc.cell 0, hc.cell 1, hc.cell 2, he.cell 0, he.cell 1, he.cell 2⟩)
  have hS9 : Hid ((convert 26 9 (.slice X 5 xc)).run Tryd.prog w9 = .ok (.string (strOfNums (bytesM k t q))) w9 ∧ (convert 26 9 (.slice Y 5 yc)).run Tryd.prog w9 = .ok (.string (strOfNums (bytesM k2 t2 q2))) w9 ∧ w9.cell? ⟨gC, 0, none⟩ = some (.int .u8 k) ∧ w9.cell? ⟨gC, 1, none⟩ = some (.int .u16 t) ∧ w9.cell? ⟨gC, 2, none⟩ = some (.int .u16 q) ∧ w9.cell? ⟨gE, 0, none⟩ = some (.int .u8 k2) ∧ w9.cell? ⟨gE, 1, none⟩ = some (.int .u16 t2) ∧ w9.cell? ⟨gE, 2, none⟩ = some (.int .u16 q2)) := Lib.hid (HSN.out _ (Fr.refl _ _))
  have hS9d : Hid ((convert 26 9 (.slice X 5 xc)).run Tryd.prog w9.drew = .ok (.string (strOfNums (bytesM k t q))) w9.drew ∧ (convert 26 9 (.slice Y 5 yc)).run Tryd.prog w9.drew = .ok (.string (strOfNums (bytesM k2 t2 q2))) w9.drew ∧ w9.drew.cell? ⟨gC, 0, none⟩ = some (.int .u8 k) ∧ w9.drew.cell? ⟨gC, 1, none⟩ = some (.int .u16 t) ∧ w9.drew.cell? ⟨gC, 2, none⟩ = some (.int .u16 q) ∧ w9.drew.cell? ⟨gE, 0, none⟩ = some (.int .u8 k2) ∧ w9.drew.cell? ⟨gE, 1, none⟩ = some (.int .u16 t2) ∧ w9.drew.cell? ⟨gE, 2, none⟩ = some (.int .u16 q2)) := Lib.hid (HSN.out _ (Fr.refl _ _).drew)
  go_region_held_law (fun w' => ((convert 26 9 (.slice X 5 xc)).run Tryd.prog w' = .ok (.string (strOfNums (bytesM k t q))) w' ∧ (convert 26 9 (.slice Y 5 yc)).run Tryd.prog w' = .ok (.string (strOfNums (bytesM k2 t2 q2))) w' ∧ w'.cell? ⟨gC, 0, none⟩ = some (.int .u8 k) ∧ w'.cell? ⟨gC, 1, none⟩ = some (.int .u16 t) ∧ w'.cell? ⟨gC, 2, none⟩ = some (.int .u16 q) ∧ w'.cell? ⟨gE, 0, none⟩ = some (.int .u8 k2) ∧ w'.cell? ⟨gE, 1, none⟩ = some (.int .u16 t2) ∧ w'.cell? ⟨gE, 2, none⟩ = some (.int .u16 q2))) (first | (with_reducible exact hS9.out) | (with_reducible exact hS9d.out) | (with_reducible exact hSA.out) | (with_reducible exact hSB.out)) (first
    | (go_simp; go_at_call 14; have _t := HX9; refine Calls.mono (RTextC11 _ HB.out.1.1 HB.out.1.2.1 HB.out.1.2.2) ?_; rintro e wA ⟨rfl, FA⟩; have FA' := Lib.hid (Fr.undrew FA.out); have hSA : Hid ((convert 26 9 (.slice X 5 xc)).run Tryd.prog wA = .ok (.string (strOfNums (bytesM k t q))) wA ∧ (convert 26 9 (.slice Y 5 yc)).run Tryd.prog wA = .ok (.string (strOfNums (bytesM k2 t2 q2))) wA ∧ wA.cell? ⟨gC, 0, none⟩ = some (.int .u8 k) ∧ wA.cell? ⟨gC, 1, none⟩ = some (.int .u16 t) ∧ wA.cell? ⟨gC, 2, none⟩ = some (.int .u16 q) ∧ wA.cell? ⟨gE, 0, none⟩ = some (.int .u8 k2) ∧ wA.cell? ⟨gE, 1, none⟩ = some (.int .u16 t2) ∧ wA.cell? ⟨gE, 2, none⟩ = some (.int .u16 q2)) := Lib.hid (HSN.out _ FA'.out); have HX1 := trivial; clear HX9)
    | (go_simp; go_at_call 14; refine Calls.mono (RTextC11 _ HB.out.2.1 HB.out.2.2.1 HB.out.2.2.2) ?_; rintro e wB ⟨rfl, FB⟩; have FB' := Lib.hid (FA'.out.trans FB.out (fun _ _ h => h)); have hSB : Hid ((convert 26 9 (.slice X 5 xc)).run Tryd.prog wB = .ok (.string (strOfNums (bytesM k t q))) wB ∧ (convert 26 9 (.slice Y 5 yc)).run Tryd.prog wB = .ok (.string (strOfNums (bytesM k2 t2 q2))) wB ∧ wB.cell? ⟨gC, 0, none⟩ = some (.int .u8 k) ∧ wB.cell? ⟨gC, 1, none⟩ = some (.int .u16 t) ∧ wB.cell? ⟨gC, 2, none⟩ = some (.int .u16 q) ∧ wB.cell? ⟨gE, 0, none⟩ = some (.int .u8 k2) ∧ wB.cell? ⟨gE, 1, none⟩ = some (.int .u16 t2) ∧ wB.cell? ⟨gE, 2, none⟩ = some (.int .u16 q2)) := Lib.hid (HSN.out _ FB'.out)))
  rename_i hHeld
  clear hHeld hSB hS9 hS9d hSA HSN HY9 hmin hcut
  have FAB := FB'.out
  have HFB := Lib.hid (HF9.out.trans FAB (fun _ _ h => h))
  have HRB := Lib.hid (HR9.out.now FAB.below0)
  have HBCB := Lib.hid (HBC9.out.fr FAB (fun h => h))
  have HBEB := Lib.hid (HBE9.out.fr FAB (fun h => h))
  have HBPB := Lib.hid (HBP9.out.fr FAB (fun h => h))
  have HBRB := Lib.hid (HBR9.out.fr FAB (fun h => h))
  clear FAB FA' FB' FB HF9 HR9 HBC9 HBE9 HBP9 HBR9
  go_upto_region 9 with (fail)
  obtain ⟨wC, HWC⟩ : ∃ wC, Hid (wC = wB) := ⟨_, Lib.hid rfl⟩
  go_cut [14] (fun s14 wx => s14 = .bool (k == 1 || k == 2) ∧ wx = wC)
  case first =>
    have c0 := HBCB.out.cell 0
    by_cases k1 : k = 1
    · subst k1
      go_wp2
      go_meet
      exact ⟨by simp, HWC.out.symm⟩
    · have kb : decide (k = 1) = false := decide_eq_false k1
      go_wp2
      go_meet
      exact ⟨by simp [kb], HWC.out.symm⟩
  case rest =>
    obtain ⟨rfl, e2⟩ := hcut
    rw [HWC.out] at e2
    have e3 := e2.symm
    clear e2 HWC
    subst e3
    have HRT : Hid ((k == 1 || k == 2) = decide (k = 1 ∨ k = 2)) := Lib.hid (by rw [Bool.eq_iff_iff]; simp)
    generalize (k == 1 || k == 2) = rgt at *
    have hcv := str_row (c := c) HRB.out
    obtain ⟨sk, st, sq, se, hpl⟩ : ∃ sk st sq se, parseM l = (sk, st, sq, se) := ⟨_, _, _, _, rfl⟩
    have qR := RParseC11 wB HI.out (by have := HLN.out; omega)
    unfold RPPost at qR
    rw [hpl] at qR
    have HPL := Lib.hid hpl
    clear hpl
    dsimp only at qR
    go_wp2_with fail
    refine Calls.mono qR ?_
    clear qR hcv
    rintro e w10 ⟨rfl, F⟩
    have HF10 := Lib.hid (HFB.out.trans F.out (fun _ _ h => h))
    have HR10 := Lib.hid (HRB.out.now F.out.below0)
    have HBC10 := Lib.hid (HBCB.out.fr F.out (fun h => h))
    have HBE10 := Lib.hid (HBEB.out.fr F.out (fun h => h))
    have HBP10 := Lib.hid (HBPB.out.fr F.out (fun h => h))
    have HBR10 := Lib.hid (HBRB.out.fr F.out (fun h => h))
    clear HFB HRB HBCB HBEB HBPB HBRB F
    have qP := ParseCmdC (c := c) HR10.out HI.out (by have := HLN.out; omega)
    rw [HPL.out] at qP
    dsimp only at qP
    go_wp2_with fail
    refine Calls.mono qP ?_
    clear qP
    rintro e w11 ⟨rfl, F⟩
    have FD : Fr0 w10 (w11.alloc (.cells #[.int .u8 sk, .int .u16 st, .int .u16 sq] 24)) := F.out.alloc _
    have HF12 := Lib.hid (HF10.out.trans FD (fun _ _ h => h))
    have HR12 := Lib.hid (HR10.out.now FD.below0)
    have HBC12 := Lib.hid (HBC10.out.fr FD (fun h => h))
    have HBE12 := Lib.hid (HBE10.out.fr FD (fun h => h))
    have HBP12 := Lib.hid (HBP10.out.fr FD (fun h => h))
    have HBR12 := Lib.hid (HBR10.out.fr FD (fun h => h))
    have HBS12 := Lib.hid (Blk.new w11 24 #[.int .u8 sk, .int .u16 st, .int .u16 sq])
    clear HF10 HR10 HBC10 HBE10 HBP10 HBR10 F FD
    go_upto_region 12 with (fail)
    generalize w11.alloc (.cells #[.int .u8 sk, .int .u16 st, .int .u16 sq] 24) = w12 at *
    generalize w11.heap.size = gS at *
    have qP := ParseEvC (c := c) HR12.out HI.out (by have := HLN.out; omega)
    rw [HPL.out] at qP
    dsimp only at qP
    go_wp2_with fail
    refine Calls.mono qP ?_
    clear qP
    rintro e w13 ⟨rfl, F⟩
    have FD : Fr0 w12 (w13.alloc (.cells #[.int .u8 sk, .int .u16 st, .int .u16 sq] 25)) := F.out.alloc _
    have HF14 := Lib.hid (HF12.out.trans FD (fun _ _ h => h))
    have c14 := HBC12.out.fr FD (fun h => h)
    have e14 := HBE12.out.fr FD (fun h => h)
    have p14 := HBP12.out.fr FD (fun h => h)
    have r14 := HBR12.out.fr FD (fun h => h)
    have s14 := HBS12.out.fr FD (fun h => h)
    have v14 := Blk.new w13 25 #[.int .u8 sk, .int .u16 st, .int .u16 sq]
    have hnc := fun W => neqC sk st sq W
    have hne := fun W => neqE sk st sq W
    have HC14 := Lib.hid c14
    have HE14 := Lib.hid e14
    have HP14 := Lib.hid p14
    have HR14 := Lib.hid r14
    have s0 := s14.cell 0
    have s1 := s14.cell 1
    have s2 := s14.cell 2
    have v0 := v14.cell 0
    have v1 := v14.cell 1
    have v2 := v14.cell 2
    clear HF12 HR12 HBC12 HBE12 HBP12 HBR12 HBS12 F FD c14 e14 p14 r14 s14 v14
    go_upto_region 13 with (fail)
    generalize w13.alloc (.cells #[.int .u8 sk, .int .u16 st, .int .u16 sq] 25) = w14 at *
    generalize w13.heap.size = gV at *
    go_upto_region 15 with (fail)
    clear s0 s1 s2 v0 v1 v2 hnc hne
    have c0 := HC14.out.cell 0
    have c1 := HC14.out.cell 1
    have c2 := HC14.out.cell 2
    have e0 := HE14.out.cell 0
    have e1 := HE14.out.cell 1
    have e2 := HE14.out.cell 2
    have p0 := HP14.out.cell 0
    have p1 := HP14.out.cell 1
    have p2 := HP14.out.cell 2
    have r0 := HR14.out.cell 0
    have r1 := HR14.out.cell 1
    have r2 := HR14.out.cell 2
    have HFB14 := Lib.hid HF14.out.below0
    have hp1 := HP1.out
    have hp2 := HP2.out
    unfold PP at hp1 hp2
    clear HX1 FA _t HF14 HC14 HE14 HP14 HR14 HP1 HP2
    rcases hp1 with ⟨hk, hp1⟩ | ⟨hk, hp1⟩
    · obtain ⟨rfl, rfl, rfl, rfl⟩ := hp1
      have hrt := HRT.out
      rw [show decide (k = 1 ∨ k = 2) = true from decide_eq_true hk] at hrt
      have hqc := fun W => eqlC k t q W
      subst hrt
      clear hk HRT
      rcases hp2 with ⟨hk, hp2⟩ | ⟨hk, hp2⟩
      · obtain ⟨rfl, rfl, rfl, rfl⟩ := hp2
        have hqe := fun W => eqlE k2 t2 q2 W
        rcases hk with rfl | rfl
        · go_wp2
          go_ret
          exact ⟨rfl, HFB14.out⟩
        · go_wp2
          go_ret
          exact ⟨rfl, HFB14.out⟩
      · obtain ⟨rfl, rfl, rfl, rfl⟩ := hp2
        have n1 : (k2 == 1) = false := beq_eq_false_iff_ne.2 (fun h => hk (.inl h))
        have n2 : (k2 == 2) = false := beq_eq_false_iff_ne.2 (fun h => hk (.inr h))
        clear hk
        go_wp2
        go_ret
        exact ⟨rfl, HFB14.out⟩
    · obtain ⟨rfl, rfl, rfl, rfl⟩ := hp1
      have hrt := HRT.out
      rw [show decide (k = 1 ∨ k = 2) = false from decide_eq_false hk] at hrt
      subst hrt
      clear hk HRT
      rcases hp2 with ⟨hk, hp2⟩ | ⟨hk, hp2⟩
      · obtain ⟨rfl, rfl, rfl, rfl⟩ := hp2
        have hqe := fun W => eqlE k2 t2 q2 W
        rcases hk with rfl | rfl
        · go_wp2
          go_ret
          exact ⟨rfl, HFB14.out⟩
        · go_wp2
          go_ret
          exact ⟨rfl, HFB14.out⟩
      · obtain ⟨rfl, rfl, rfl, rfl⟩ := hp2
        have n1 : (k2 == 1) = false := beq_eq_false_iff_ne.2 (fun h => hk (.inl h))
        have n2 : (k2 == 2) = false := beq_eq_false_iff_ne.2 (fun h => hk (.inr h))
        clear hk
        go_wp2
        go_ret
        exact ⟨rfl, HFB14.out⟩
theorem mbytes_row {W : World} (hk : ∃ h, Kn h W) (A : Option Addr) (c : Nat) (zs : List Int) (k t q k2 t2 q2 : Int) (hr : RowOf c8 1 W W.heap.size A zs) (hc : zs.length ≤ c) (b0 : InB zs) (k0 : 0 ≤ k ∧ k < 256) (t0 : 0 ≤ t ∧ t < 65536) (q0 : 0 ≤ q ∧ q < 65536) (k20 : 0 ≤ k2 ∧ k2 < 256) (t20 : 0 ≤ t2 ∧ t2 < 65536) (q20 : 0 ≤ q2 ∧ q2 < 65536) :
    Calls Tryd.prog 3 #[.agg #[.int .u8 k, .int .u16 t, .int .u16 q], .agg #[.int .u8 k2, .int .u16 t2, .int .u16 q2], .slice A zs.length c] W fun e w' => e = .returned (.bool true) ∧ Below W.heap.size W w' := by
  obtain ⟨h, hk⟩ := hk
  exact mbytes_walk A c zs k t q k2 t2 q2 W hk hr hc b0 k0 t0 q0 k20 t20 q20
end Go.Proofs.YtdhfinpmcikimaaDoor.K
