/- ModuleTells: its walk. -/
import Derived.Test.YtdhfinpmcikimaaDoorMr
import Derived.Deep.CutBlock
import Derived.Deep.DeepCutAuto
import Derived.Deep.RegionHeld3
import Derived.Deep.RegionHeldLaw
namespace Go.Proofs.YtdhfinpmcikimaaDoor.K
open Go.RowKit
set_option linter.unusedVariables false
set_option linter.unusedSimpArgs false
attribute [local go_sem] min2_min min_two
set_option maxHeartbeats 16000000 in
set_option maxRecDepth 20000 in
theorem mtells_walk {h : Nat} (A : Option Addr) (c : Nat) (ls : List Sq) (w : World) (hk : Kn h w) (hr : RowOf cQ 10 w w.heap.size A ls) (hq : ∀ x ∈ ls, QOk w x) :
    Calls Tryd.prog 8 #[.slice A ls.length c] w fun e w' => e = .returned (.bool true) ∧ Below w.heap.size w w' := by
  have HK := Lib.hid hk
  have HRL := Lib.hid hr
  have HQ := Lib.hid hq
  clear hk hr hq
  go_enter Tryd.func8, Tryd.ntmps8
  go_wp2_with fail
  refine Calls.mono (shown11_walk HK.out) ?_
  rintro e w1 ⟨rfl, FS⟩
  have HK1 := Lib.hid (HK.out.fr0 FS.out)
  go_wp2_with fail
  refine Calls.mono (MNewC 3 w1) ?_
  rintro e w2 ⟨m, s0, rfl, HM, F2⟩
  go_wp2_with fail
  refine Calls.mono (RNewC11 3 w2) ?_
  rintro e w3 ⟨R, r0, rfl, HR, F3⟩
  have HT4 : Hid (TI [] h m s0 w3.heap.size R r0 none 0 ⟨0, 0, 0, 3, []⟩ ⟨false, false, 0, 0, 0⟩ z4 z4 ⟨0, 0, 0, 3, []⟩ ⟨false, false, 0, 0, 0⟩ w1 (w3.alloc (.cells #[.bool false, .bool false, .int .i64 0, .bool false, .bool false, .int .i64 0, .bool false, .bool false, .int .i64 0, .bool false, .bool false, .int .i64 0] 66))) := by
    have F4 : Fr0 w3 (w3.alloc (.cells #[.bool false, .bool false, .int .i64 0, .bool false, .bool false, .int .i64 0, .bool false, .bool false, .int .i64 0, .bool false, .bool false, .int .i64 0] 66)) := (Fr.refl (fun _ => False) w3).alloc _
    have F13 : Fr0 w1 w3 := F2.out.trans F3.out (fun _ _ h => h)
    have F14 := F13.trans F4 (fun _ _ h => h)
    exact Lib.hid ⟨(HM.out.fr0 F3.out).fr0 F4, Blk.new w3 _ _, F13.size, ⟨HR.out.blk.fr F4 (fun h => h), HR.out.sb.fr F4 (fun h => h), Nat.le_trans F2.out.size HR.out.low.1, Nat.le_trans F2.out.size HR.out.low.2⟩, HK1.out.fr0 F14, HK1.out.lt, F14, fun q hq => by cases hq⟩
  go_wp2_with fail
  generalize w3.alloc (.cells #[.bool false, .bool false, .int .i64 0, .bool false, .bool false, .int .i64 0, .bool false, .bool false, .int .i64 0, .bool false, .bool false, .int .i64 0] 66) = w4 at *
  generalize w3.heap.size = o at *
  clear HM HR F2 F3 HK HK1
  go_loopw [7, 8] (fun nv iv wr => ∃ (i nw s r : Nat) (A' : Option Addr) (c' : Nat) (sl : Sl) (d : Dp) (bt : BS), nv = .int .i64 nw ∧ iv = .int .i64 i ∧ i ≤ ls.length ∧ i ≤ 300 ∧ nw ≤ i ∧ DpOk d ∧ sl.pend.length ≤ 1000 ∧ sl.addr = 3 ∧ TI [] h m s o R r A' c' sl d bt bt sl d w1 wr) (fun _ iv _ => 300 - (intOf iv).toNat)
  case atStart => exact ⟨0, 0, s0, r0, none, 0, _, _, _, rfl, rfl, by omega, by omega, by omega, ⟨by decide, by decide, by decide⟩, by simp, rfl, HT4.out⟩
  case round =>
    clear HT4
    obtain ⟨i, nw, s, r, A', c', sl, d, bt, rfl, rfl, hil, hi3, hnw, hdok, hpl, had3, ht⟩ := hrel
    have HSA := Lib.hid had3
    have HT := Lib.hid ht
    have HDK := Lib.hid (And.intro hdok hpl)
    clear ht hdok hpl had3
    by_cases hgo : i < ls.length ∧ i < 300
    · obtain ⟨hlt, h30⟩ := hgo
      obtain ⟨ad, rfl, hc⟩ := sq_elem (RowOf.now HRL.out ((FS.out.trans HT.out.fr (fun _ _ h => h)).below0)) hlt
      have hqx := HQ.out _ (List.getElem_mem hlt)
      generalize ls[i] = x at *
      obtain ⟨xk, xn, xd, ⟨fa, fk, fs, fq, fx, fB⟩, xA, xc, xo⟩ := x
      have HQX := Lib.hid hqx
      have c0 := hc 0 _ rfl
      have c1 := hc 1 _ rfl
      have c2 := hc 2 _ rfl
      have c3 := hc 3 _ rfl
      have c4 := hc 4 _ rfl
      have c5 := hc 5 _ rfl
      have c6 := hc 6 _ rfl
      have c7 := hc 7 _ rfl
      have c8 := hc 8 _ rfl
      have c9 := hc 9 _ rfl
      rw [Nat.add_zero] at c0
      rw [add_field ad (i * 10) _ (by omega)] at c1 c2 c3 c4 c5 c6 c7 c8 c9
      simp only at c0 c1 c2 c3 c4 c5 c6 c7 c8 c9
      have hcap : fB.length ≤ xc := hqx.cap
      obtain ⟨n, hn, hn1, hn2⟩ := min_nat fB.length 40
      obtain ⟨ti, hti, _⟩ := bytes_info
      have hcut := fun W => cut_hi Tryd.underlying26 hti xA fB.length xc n (by omega) W
      have hmin : min (fB.length : Int) 40 = (n : Int) := hn
      have HF : Hid ((fmQ ⟨xk, xn, xd, ⟨fa, fk, fs, fq, fx, fB⟩, xA, xc, xo⟩).B.length = n) := Lib.hid (by unfold fmQ; cases xo <;> simp [List.length_take] <;> omega)
      clear hc hqx hti
      go_upto_if 51 with (fail)
      have HX1 : Hid (TI [(wr.heap.size + 1, 54, #[.int .u8 fa, .int .u8 fk, .int .u8 fs, .int .u8 fq, .int .u8 fx, .slice xA n xc]), (wr.heap.size, 68, #[.int .i64 xk, .int .i64 xn, .bool xd, .int .u8 fa, .int .u8 fk, .int .u8 fs, .int .u8 fq, .int .u8 fx, .slice xA fB.length xc, .bool xo])] h m s o R r A' c' sl d bt bt sl d w1 ((wr.alloc (.cells #[.int .i64 xk, .int .i64 xn, .bool xd, .int .u8 fa, .int .u8 fk, .int .u8 fs, .int .u8 fq, .int .u8 fx, .slice xA fB.length xc, .bool xo] 68)).alloc (.cells #[.int .u8 fa, .int .u8 fk, .int .u8 fs, .int .u8 fq, .int .u8 fx, .slice xA n xc] 54))) :=
        Lib.hid ((((HT.out.next ((Fr.refl (fun _ => False) wr).alloc _)).plus (Blk.new wr _ _) (by decide)).next ((Fr.refl (fun _ => False) _).alloc _)).plus (Blk.new_at (by simp)) (by decide))
      have HGX : Hid (w1.heap.size ≤ wr.heap.size) := Lib.hid HT.out.fr.size
      generalize (wr.alloc (.cells #[.int .i64 xk, .int .i64 xn, .bool xd, .int .u8 fa, .int .u8 fk, .int .u8 fs, .int .u8 fq, .int .u8 fx, .slice xA fB.length xc, .bool xo] 68)).alloc (.cells #[.int .u8 fa, .int .u8 fk, .int .u8 fs, .int .u8 fq, .int .u8 fx, .slice xA n xc] 54) = w5 at *
      obtain ⟨gf, hgf⟩ : ∃ gf, gf = wr.heap.size + 1 := ⟨_, rfl⟩
      rw [← hgf] at HX1 ⊢
      generalize wr.heap.size = gx at *
      have HGF := Lib.hid hgf
      clear c0 c1 c2 c3 c4 c5 c6 c7 c8 c9 hcut hmin HT hgf
      go_cut [] from 26 to 51 (fun wx => TI [(gf, 54, fmv (fmQ ⟨xk, xn, xd, ⟨fa, fk, fs, fq, fx, fB⟩, xA, xc, xo⟩) xA xc), (gx, 68, #[.int .i64 xk, .int .i64 xn, .bool xd, .int .u8 fa, .int .u8 fk, .int .u8 fs, .int .u8 fq, .int .u8 fx, .slice xA fB.length xc, .bool xo])] h m s o R r A' c' sl d bt bt sl d w1 wx)
      case first =>
        have hb := (HX1.out.ex _ (List.mem_cons_self)).2
        simp only at hb
        cases xo
        · have HE : Hid (fmv (fmQ ⟨xk, xn, xd, ⟨fa, fk, fs, fq, fx, fB⟩, xA, xc, false⟩) xA xc = #[.int .u8 fa, .int .u8 fk, .int .u8 fs, .int .u8 fq, .int .u8 fx, .slice xA n xc]) := Lib.hid (by have := HF.out; unfold fmQ at this ⊢; simp at this ⊢; omega)
          clear hb
          go_wp2
          go_meet
          rw [HE.out]
          exact HX1.out
        · have HE : Hid (fmv (fmQ ⟨xk, xn, xd, ⟨fa, fk, fs, fq, fx, fB⟩, xA, xc, true⟩) xA xc = #[.int .u8 3, .int .u8 fk, .int .u8 1, .int .u8 fq, .int .u8 fx, .slice xA n xc]) := Lib.hid (by have := HF.out; unfold fmQ at this ⊢; simp at this ⊢; omega)
          have a0 := hb.cell 0
          have a0f := hb.frozen 0
          have hb1 := hb.set_ 0 (.int .u8 3)
          have a2 := hb1.cell 2
          have a2f := hb1.frozen 2
          have hb2 := hb1.set_ 2 (.int .u8 1)
          have hF : Fr (fun j => j = gf) w5 ((w5.setCell ⟨gf, 0, none⟩ (.int .u8 3)).setCell ⟨gf, 2, none⟩ (.int .u8 1)) := ((Fr.refl (fun j => j = gf) w5).setCell (p := ⟨gf, 0, none⟩) (fun _ => rfl) _).setCell (p := ⟨gf, 2, none⟩) (fun _ => rfl) _
          have HN : Hid (TI [(gf, 54, #[.int .u8 3, .int .u8 fk, .int .u8 1, .int .u8 fq, .int .u8 fx, .slice xA n xc]), (gx, 68, #[.int .i64 xk, .int .i64 xn, .bool xd, .int .u8 fa, .int .u8 fk, .int .u8 fs, .int .u8 fq, .int .u8 fx, .slice xA fB.length xc, .bool true])] h m s o R r A' c' sl d bt bt sl d w1 ((w5.setCell ⟨gf, 0, none⟩ (.int .u8 3)).setCell ⟨gf, 2, none⟩ (.int .u8 1))) := Lib.hid (HX1.out.turn (fun q hq => by simp at hq; subst hq; have := HGF.out; simp only; omega) hF (by have e := hb2; simp at e; exact e) (by have := HGF.out; have := HGX.out; omega))
          clear hb hb1 hb2 hF
          go_wp2
          go_meet
          rw [HE.out]
          exact HN.out
      case rest =>
        have HT5 := Lib.hid hcut
        clear hcut HX1
        have x0 := (HT5.out.ex _ (List.mem_cons_of_mem _ List.mem_cons_self)).2.cell 0
        obtain ⟨f, hf⟩ : ∃ f, f = fmQ ⟨xk, xn, xd, ⟨fa, fk, fs, fq, fx, fB⟩, xA, xc, xo⟩ := ⟨_, rfl⟩
        rw [← hf] at HT5 HF
        have HFQ := Lib.hid hf
        clear hf
        go_upto_block 2 with (fail)
        go_cut [7, 11, 12, 13, 14, 15, 16, 17] from 54 to 58 (fun s7 s11 _ _ _ _ _ _ wx => s11 = .bool true ∧ ∃ (nw' s' r' : Nat) (A' : Option Addr) (c' : Nat) (sl' : Sl) (d' : Dp) (bt' : BS), s7 = .int .i64 nw' ∧ nw' ≤ i + 1 ∧ DpOk d' ∧ sl'.pend.length ≤ 1000 ∧ sl'.addr = 3 ∧ TI [] h m s' o R r' A' c' sl' d' bt' bt' sl' d' w1 wx)
        case first =>
          obtain ⟨tk, htk⟩ : ∃ tk, tk = (xk == 0 || xk == 1 || xk == 2 || xk == 3) := ⟨_, rfl⟩
          have HTK := Lib.hid htk
          clear htk
          go_upto_if 56 with (fail)
          go_cut [55, 56] from 57 to 60 (fun s55 s56 wx => s55 = .int .i64 xk ∧ s56 = .bool tk ∧ TI [(gf, 54, fmv f xA xc), (gx, 68, #[.int .i64 xk, .int .i64 xn, .bool xd, .int .u8 fa, .int .u8 fk, .int .u8 fs, .int .u8 fq, .int .u8 fx, .slice xA fB.length xc, .bool xo])] h m s o R r A' c' sl d bt bt sl d w1 wx)
          case first =>
            by_cases k0 : xk = 0
            · have e : tk = true := by rw [HTK.out]; simp [k0]
              have b0 : (xk == 0) = true := by simp [k0]
              clear k0
              go_wp2
              go_meet
              exact ⟨rfl, by rw [e], HT5.out⟩
            · have b0 : (xk == 0) = false := by simp [k0]
              by_cases k1 : xk = 1
              · have e : tk = true := by rw [HTK.out]; simp [k1]
                have b1 : (xk == 1) = true := by simp [k1]
                clear k0 k1
                go_wp2
                go_meet
                exact ⟨rfl, by rw [e], HT5.out⟩
              · have b1 : (xk == 1) = false := by simp [k1]
                by_cases k2 : xk = 2
                · have e : tk = true := by rw [HTK.out]; simp [k2]
                  have b2 : (xk == 2) = true := by simp [k2]
                  clear k0 k1 k2
                  go_wp2
                  go_meet
                  exact ⟨rfl, by rw [e], HT5.out⟩
                · have b2 : (xk == 2) = false := by simp [k2]
                  by_cases k3 : xk = 3
                  · have e : tk = true := by rw [HTK.out]; simp [k3]
                    have b3 : (xk == 3) = true := by simp [k3]
                    clear k0 k1 k2 k3
                    go_wp2
                    go_meet
                    exact ⟨rfl, by rw [e], HT5.out⟩
                  · have e : tk = false := by rw [HTK.out]; simp [k0, k1, k2, k3]
                    have b3 : (xk == 3) = false := by simp [k3]
                    clear k0 k1 k2 k3
                    go_wp2
                    go_meet
                    exact ⟨rfl, by rw [e], HT5.out⟩
          case rest =>
            clear HT5
            obtain ⟨rfl, rfl, ht⟩ := hcut
            have HT6 := Lib.hid ht
            clear ht x0
            cases tk
            · by_cases k4 : xk = 4
              · have b4 : (xk == 4) = true := by simp [k4]
                have hnow : I64 (nw : Int) := by unfold I64; omega
                have HNOW := Lib.hid hnow
                have hbx := (HT6.out.ex _ (List.mem_cons_of_mem _ List.mem_cons_self)).2
                simp only at hbx
                have SX : Hid (∀ W A5 c5 bt5 bt6, TI [(gf, 54, fmv f xA xc), (gx, 68, #[.int .i64 xk, .int .i64 xn, .bool xd, .int .u8 fa, .int .u8 fk, .int .u8 fs, .int .u8 fq, .int .u8 fx, .slice xA fB.length xc, .bool xo])] h m s o R r A5 c5 sl d bt5 bt6 sl d w1 W → (W.cell? ⟨gx, 1, none⟩ = some (.int .i64 xn) ∧ W.cell? ⟨gx, 2, none⟩ = some (.bool xd))) := Lib.hid (fun W A5 c5 bt5 bt6 t => by
                  have hb := (t.ex _ (List.mem_cons_of_mem _ List.mem_cons_self)).2
                  simp only at hb
                  exact ⟨hb.cell 1, hb.cell 2⟩)
                have HD0 := Lib.hid (HT6.out.next ((Fr.refl (fun _ => False) wc).drew))
                have hs0 := SX.out _ _ _ _ _ HT6.out
                have hsd := SX.out _ _ _ _ _ HD0.out
                have QM : Hid (∀ W A5 c5 bt6, TI [(gf, 54, fmv f xA xc), (gx, 68, #[.int .i64 xk, .int .i64 xn, .bool xd, .int .u8 fa, .int .u8 fk, .int .u8 fs, .int .u8 fq, .int .u8 fx, .slice xA fB.length xc, .bool xo])] h m s o R r A5 c5 sl d bt bt6 sl d w1 W → Calls Tryd.prog 26 #[.pointer (some ⟨m, 0, none⟩), .int .i64 xn, .bool xd, .int .i64 (nw : Int)] W fun e w' => e = .returned (.int .i64 (setN xn)) ∧ Hid (TI [(gf, 54, fmv f xA xc), (gx, 68, #[.int .i64 xk, .int .i64 xn, .bool xd, .int .u8 fa, .int .u8 fk, .int .u8 fs, .int .u8 fq, .int .u8 fx, .slice xA fB.length xc, .bool xo])] h m s o R r A5 c5 sl d (setS bt xn xd nw) bt6 sl d w1 w') ∧ Hid (Fr (fun j => j = m) W w')) := Lib.hid (fun W A5 c5 bt6 t => Calls.mono (MSetC t.mo xn xd nw HNOW.out) (fun e w' hh => ⟨hh.1, Lib.hid (t.mod hh.2.1.out (hh.2.2.out.mono (fun _ _ e => .inl e))), hh.2.2⟩))
                have QB : Hid (∀ W A5 c5 bt5, TI [(gf, 54, fmv f xA xc), (gx, 68, #[.int .i64 xk, .int .i64 xn, .bool xd, .int .u8 fa, .int .u8 fk, .int .u8 fs, .int .u8 fq, .int .u8 fx, .slice xA fB.length xc, .bool xo])] h m s o R r A5 c5 sl d bt5 bt sl d w1 W → Calls Tryd.prog 27 #[.pointer (some ⟨o, 0, none⟩), .int .i64 xn, .bool xd, .int .i64 (nw : Int)] W fun e w' => e = .returned (.int .i64 (setN xn)) ∧ Hid (TI [(gf, 54, fmv f xA xc), (gx, 68, #[.int .i64 xk, .int .i64 xn, .bool xd, .int .u8 fa, .int .u8 fk, .int .u8 fs, .int .u8 fq, .int .u8 fx, .slice xA fB.length xc, .bool xo])] h m s o R r A5 c5 sl d bt5 (setS bt xn xd nw) sl d w1 w')) := Lib.hid (fun W A5 c5 bt5 t => Calls.mono (Set_any (t := 66) (pre := []) (post := []) (o := 0) rfl o bt xn xd nw W t.own) (fun e w' hh => ⟨hh.1, Lib.hid (t.bs hh.2.1 hh.2.2)⟩))
                clear hbx hnow k4
                go_wp2_with fail
                go_region_held_law (fun w' => w'.cell? ⟨gx, 1, none⟩ = some (.int .i64 xn) ∧ w'.cell? ⟨gx, 2, none⟩ = some (.bool xd)) (first | (with_reducible exact hs0) | (with_reducible exact hsd) | (with_reducible exact hs7) | (with_reducible exact hs8)) (first
                  | (go_simp; go_at_call 26; refine Calls.mono (QM.out _ _ _ _ HD0.out) ?_; rintro e w7 ⟨rfl, HT7, F7⟩; have hs7 := SX.out _ _ _ _ _ HT7.out)
                  | (go_simp; go_at_call 27; refine Calls.mono (QB.out _ _ _ _ HT7.out) ?_; rintro e w8 ⟨rfl, HT8⟩; have hs8 := SX.out _ _ _ _ _ HT8.out)
                  | (go_simp; go_at_call 27; refine Calls.mono (QB.out _ _ _ _ HD0.out) ?_; rintro e w7 ⟨rfl, HT7⟩; have hs7 := SX.out _ _ _ _ _ HT7.out)
                  | (go_simp; go_at_call 26; refine Calls.mono (QM.out _ _ _ _ HT7.out) ?_; rintro e w8 ⟨rfl, HT8, F8⟩; have hs8 := SX.out _ _ _ _ _ HT8.out))
                all_goals (have HTB := Lib.hid HT8.out.drop
                           clear HT7 HT8 hs7 hs8 hs0 hsd QM QB SX HD0 HT6
                           go_wp2
                           go_meet
                           exact ⟨by simp, nw, s, r, _, _, sl, d, setS bt xn xd nw, rfl, by omega, HDK.out.1, HDK.out.2, HSA.out, HTB.out⟩)
              · have b4 : (xk == 4) = false := by simp [k4]
                clear k4
                obtain ⟨tb, htb⟩ : ∃ tb, tb = (xk == 5 || xk == 6 || xk == 7 || xk == 8) := ⟨_, rfl⟩
                have HTB := Lib.hid htb
                clear htb
                go_upto_if 100 with (fail)
                go_cut [55, 100] from 102 to 104 (fun s55 s100 wx => s55 = .int .i64 xk ∧ s100 = .bool tb ∧ TI [(gf, 54, fmv f xA xc), (gx, 68, #[.int .i64 xk, .int .i64 xn, .bool xd, .int .u8 fa, .int .u8 fk, .int .u8 fs, .int .u8 fq, .int .u8 fx, .slice xA fB.length xc, .bool xo])] h m s o R r A' c' sl d bt bt sl d w1 wx)
                case first =>
                  by_cases k5 : xk = 5
                  · have e : tb = true := by rw [HTB.out]; simp [k5]
                    have b5 : (xk == 5) = true := by simp [k5]
                    clear k5
                    go_wp2
                    go_meet
                    exact ⟨rfl, by rw [e]; first | rfl | rw [b5], HT6.out⟩
                  · have b5 : (xk == 5) = false := by simp [k5]
                    by_cases k6 : xk = 6
                    · have e : tb = true := by rw [HTB.out]; simp [k6]
                      have b6 : (xk == 6) = true := by simp [k6]
                      clear k5 k6
                      go_wp2
                      go_meet
                      exact ⟨rfl, by rw [e], HT6.out⟩
                    · have b6 : (xk == 6) = false := by simp [k6]
                      by_cases k7 : xk = 7
                      · have e : tb = true := by rw [HTB.out]; simp [k7]
                        have b7 : (xk == 7) = true := by simp [k7]
                        clear k5 k6 k7
                        go_wp2
                        go_meet
                        exact ⟨rfl, by rw [e], HT6.out⟩
                      · have b7 : (xk == 7) = false := by simp [k7]
                        have e : tb = (xk == 8) := by rw [HTB.out]; simp [k5, k6, k7]
                        clear k5 k6 k7
                        go_wp2
                        go_meet
                        exact ⟨rfl, by rw [e], HT6.out⟩
                case rest =>
                  clear HT6
                  obtain ⟨rfl, rfl, ht⟩ := hcut
                  have HT7 := Lib.hid ht
                  clear ht
                  cases tb
                  · by_cases k9 : xk = 9
                    · have b9 : (xk == 9) = true := by simp [k9]
                      clear k9
                      have qA := MResetC HT7.out.mo
                      go_wp2_with fail
                      refine Calls.mono qA ?_
                      clear qA
                      rintro e w7 ⟨s', rfl, HM, F7⟩
                      have HT8 := Lib.hid (HT7.out.mod HM.out (F7.out.mono (fun _ _ e => .inl e)))
                      have qB := RResetC11 HT8.out.ref HT8.out.fr.size
                      have HAD : Hid (sl.addr = 3) := Lib.hid HSA.out
                      clear HM F7 HT7
                      go_wp2_with fail
                      refine Calls.mono qB ?_
                      clear qB
                      rintro e w8 ⟨r', rfl, HR, F8⟩
                      have HT9 := Lib.hid (HT8.out.rf HR.out (F8.out.mono (fun _ _ e => .inl e)))
                      have qC := BResetC11 HT9.out.own
                      clear HR F8 HT8
                      go_wp2_with fail
                      refine Calls.mono qC ?_
                      clear qC
                      rintro e w9 ⟨rfl, HB, F9⟩
                      have ht10 := (HT9.out.bs HB.out F9.out).drop
                      rw [HAD.out] at ht10
                      have HT10 := Lib.hid ht10
                      clear HB F9 HT9 ht10
                      go_wp2
                      go_meet
                      exact ⟨rfl, nw, s', r', _, _, _, _, z4, rfl, by omega, ⟨by decide, by decide, by decide⟩, by simp, rfl, HT10.out⟩
                    · have b9 : (xk == 9) = false := by simp [k9]
                      clear k9
                      have HT8 := Lib.hid HT7.out.drop
                      clear HT7
                      go_wp2
                      go_meet
                      exact ⟨rfl, nw, s, r, _, _, sl, d, bt, rfl, by omega, HDK.out.1, HDK.out.2, HSA.out, HT8.out⟩
                  · have hwr : IntKind.i64.wrap ((nw : Int) + 1) = (nw : Int) + 1 := by rw [IntKind.wrap_i64]; omega
                    have qA := MTickC (now := (nw : Int) + 1) HT7.out.mo HDK.out.1 HT7.out.kn HDK.out.2 (by unfold I64; omega)
                    have HWF := Lib.hid HT7.out.mo.wf
                    go_wp2_with fail
                    refine Calls.mono qA ?_
                    clear qA
                    rintro e w7 ⟨rfl, A2, c2, HM, F7, HDN⟩
                    have HT8 := Lib.hid (HT7.out.mod HM.out F7.out)
                    have qP := Pressed_any (t := 66) (pre := []) (post := []) (by decide) (o := 0) rfl o bt ((nw : Int) + 1) w7 HT8.out.own HWF.out (by unfold I64; omega)
                    have hpl := prs_len bt ((nw : Int) + 1) 4
                    clear HM F7 HT7
                    go_wp2_with fail
                    refine Calls.mono qP ?_
                    clear qP
                    rintro e w8 ⟨v, rfl, hb1, ho1, hf1⟩
                    obtain ⟨ps, hps⟩ : ∃ ps, ps = prs bt ((nw : Int) + 1) 4 := ⟨_, rfl⟩
                    rw [← hps] at ho1 hpl HT8 HDN
                    obtain ⟨PA, pc, rfl, hpc⟩ := own_form ho1
                    have HT9 := Lib.hid (HT8.out.bs hb1 hf1)
                    have HO9 := Lib.hid ho1
                    clear hb1 ho1 hf1 HT8 hps
                    go_wp2_with fail
                    go_loopw [17] (fun kv wx => ∃ (k : Nat) (d2 : Dp) (sl2 : Sl), kv = .int .i64 k ∧ k ≤ ps.length ∧ (d2, sl2) = tickF (d, sl) (ps.take k) ∧ DpOk d2 ∧ sl2.pend.length ≤ 1000 ∧ TI [(gf, 54, fmv f xA xc), (gx, 68, #[.int .i64 xk, .int .i64 xn, .bool xd, .int .u8 fa, .int .u8 fk, .int .u8 fs, .int .u8 fq, .int .u8 fx, .slice xA fB.length xc, .bool xo])] h m s o R r A2 c2 (tickF (d, sl) ps).2 (tickF (d, sl) ps).1 (tld bt ((nw : Int) + 1) 4) (tld bt ((nw : Int) + 1) 4) sl2 d2 w1 wx ∧ wx.ownsRow w7.heap.size 3 1 (.slice PA ps.length pc) ps.length (nums .i64 ps)) (fun kv _ => ps.length - (intOf kv).toNat)
                    case atStart => exact ⟨0, d, sl, rfl, by omega, rfl, HDK.out.1, HDK.out.2, HT9.out, HO9.out⟩
                    case round =>
                      clear HT9 HO9
                      obtain ⟨k, d2, sl2, rfl, hk, htf, hdo, hpo, ht, ho⟩ := hrel
                      by_cases hltk : k < ps.length
                      · have hsn := tickF_snoc (d, sl) ps k hltk
                        rw [← htf] at hsn
                        have HSN := Lib.hid hsn
                        have hdp2 := stepP_ok (p := (d2, sl2)) (b := ps[k]) ⟨hdo, hpo⟩
                        have HDP2 := Lib.hid hdp2
                        obtain ⟨ad2, hPA, _, c0⟩ := RowOf.num (k := .i64) (row_own (c := fun x => [.int .i64 x]) (fun _ => rfl) (by rw [nums_fm]; exact ho)) hltk
                        subst hPA
                        rw [List.getD_eq_getElem?_getD, List.getElem?_eq_getElem hltk] at c0
                        simp only [Option.getD_some] at c0
                        have qR := RPressC11 ht.ref hdo ps[k]
                        have HTR := Lib.hid ht
                        have HOR := Lib.hid ho
                        clear hsn hdp2 htf ht ho
                        generalize ps[k] = b at *
                        go_wp2_with fail
                        refine Calls.mono qR ?_
                        clear qR
                        rintro e w10 ⟨rfl, HR, F⟩
                        have HTN := Lib.hid (HTR.out.rf HR.out F.out)
                        have HON := Lib.hid (own_fr HOR.out F.out (fun j e e' => by
                          rcases e' with e' | e'
                          · exact own_blk_ne HOR.out HTR.out.ref.blk (by decide) (e' ▸ e)
                          · exact own_blk_ne HOR.out HTR.out.ref.sb (by decide) (e' ▸ e)))
                        clear HR F HTR HOR c0
                        go_wp2
                        go_roundw
                        case rel => exact ⟨k + 1, _, _, by go_num, by omega, HSN.out.symm, HDP2.out.1, HDP2.out.2, HTN.out, HON.out⟩
                        case measure => simp [intOf]; omega
                      · obtain rfl : k = ps.length := by omega
                        rw [List.take_length] at htf
                        have h1 : d2 = (tickF (d, sl) ps).1 := by rw [← htf]
                        have h2 : sl2 = (tickF (d, sl) ps).2 := by rw [← htf]
                        subst h1 h2
                        have HTF := Lib.hid ht.drop
                        have HAF : Hid ((tickF (d, sl) ps).2.addr = 3) := Lib.hid ((tick_addr (d, sl) ps).trans HSA.out)
                        have HDF := Lib.hid (And.intro hdo hpo)
                        clear htf ht ho hdo hpo
                        go_wp2
                        go_meet
                        exact ⟨rfl, nw + 1, s, r, _, _, _, _, _, by go_num, by omega, HDF.out.1, HDF.out.2, HAF.out, HTF.out⟩
            · have qT := MTakeC HT6.out.mo HDK.out.2 (FA := xA) (fc := xc) (f := f) (RowOf.now (HFQ.out ▸ fmq_row HQX.out.row) ((FS.out.trans HT6.out.fr (fun _ _ h => h)).below0)) (by have := HF.out; omega) (HFQ.out ▸ fmq_in HQX.out.inb) (fun ad e hne => by
                obtain ⟨ad', e', hlt, _⟩ := (HFQ.out ▸ fmq_row HQX.out.row : RowOf c8 1 w w.heap.size xA f.B) 0 _ (List.getElem?_eq_getElem (List.length_pos_iff.2 hne))
                rw [e] at e'
                cases e'
                have := HT6.out.mo.sb.low
                have := FS.out.size
                omega)
              have hbf := (HT6.out.ex _ List.mem_cons_self).2
              simp only at hbf
              have l0 := hbf.cell 0
              have l1 := hbf.cell 1
              have l2 := hbf.cell 2
              have l3 := hbf.cell 3
              have l4 := hbf.cell 4
              have l5 := hbf.cell 5
              clear hbf
              go_wp2_with fail
              refine Calls.mono qT ?_
              clear qT
              rintro e w7 ⟨an, cm, ok, sl', AA, ac, A2, c2, hTK, rfl, HA, HM, HFm⟩
              have hib2 : InB cm := by
                rcases take_cm hTK with e | e
                · rw [e]; exact HFQ.out ▸ fmq_in HQX.out.inb
                · rw [e]; intro y hy; cases hy
              have HDK7 : Hid (DpOk (mtakeD d sl' cm) ∧ sl'.pend.length ≤ 1000) := Lib.hid ⟨mtake_ok HDK.out.1 hib2, take_pend hTK HDK.out.2⟩
              have HTS := Lib.hid hTK
              have HAT : Hid (sl'.addr = 3) := Lib.hid ((take_addr hTK).trans HSA.out)
              have F8 : Fr0 w7 (w7.alloc (.cells (fmv an AA ac) 54)) := (Fr.refl (fun _ => False) w7).alloc _
              have HT8 := Lib.hid (((HT6.out.mod HM.out HFm.out).next F8).plus (Blk.new w7 _ _) (by decide))
              have HRA := Lib.hid (made_fr HA.out F8 (fun _ _ h => h))
              have HBT := Lib.hid HT6.out.mo.sb.bits
              have hbf := (HT8.out.ex _ (List.mem_cons_of_mem _ List.mem_cons_self)).2
              simp only at hbf
              have l0 := hbf.cell 0
              have l1 := hbf.cell 1
              have l2 := hbf.cell 2
              have l3 := hbf.cell 3
              have l4 := hbf.cell 4
              have l5 := hbf.cell 5
              have HRW := Lib.hid (RowOf.now (HFQ.out ▸ fmq_row HQX.out.row : RowOf c8 1 w w.heap.size xA f.B) ((FS.out.trans HT8.out.fr (fun _ _ h => h)).below0))
              clear hbf hTK hib2 HM HA HFm F8 HT6
              go_upto_region 24 with (fail)
              generalize w7.alloc (.cells (fmv an AA ac) 54) = w8 at *
              generalize w7.heap.size = ga at *
              have qO := ROfC07 f xA xc w8 HRW.out
              go_wp2_with fail
              refine Calls.mono qO ?_
              clear qO
              rintro e w9 ⟨rfl, F9⟩
              have HT9 := Lib.hid (HT8.out.next F9.out)
              have HRA9 := Lib.hid (made_fr HRA.out F9.out (fun _ _ h => h))
              have qR := RTakeC11 (f := f) HT9.out.ref HBT.out (HFQ.out ▸ fmq_in HQX.out.inb) (by have := HF.out; omega)
              clear HT8 HRA F9 l0 l1 l2 l3 l4 l5 HRW
              go_wp2_with fail
              refine Calls.mono qR ?_
              clear qR
              rintro e w10 ⟨an2, cm2, ok2, st2, hTK2, rfl, HR2, HF2⟩
              rw [HTS.out] at hTK2
              injection hTK2 with q1 q2
              injection q2 with q2 q3
              injection q3 with q3 q4
              subst q1 q2 q3 q4
              have FA : Fr0 w10 (w10.alloc (.cells (rfv an) 70)) := (Fr.refl (fun _ => False) w10).alloc _
              have HT11 := Lib.hid (((HT9.out.rf HR2.out HF2.out).next FA).plus (Blk.new w10 _ _) (by decide))
              have HRA10 := made_fr HRA9.out HF2.out (fun j e e' => by
                rcases e' with e' | e'
                · exact own_blk_ne HRA9.out.1 HT9.out.ref.blk (by decide) (e' ▸ e)
                · exact own_blk_ne HRA9.out.1 HT9.out.ref.sb (by decide) (e' ▸ e))
              have HRA11 := Lib.hid (made_fr HRA10 FA (fun _ _ h => h))
              clear HT9 HR2 HF2 HRA9 HRA10 FA HTS
              go_upto_region 25 with (fail)
              generalize w10.alloc (.cells (rfv an) 70) = w11 at *
              generalize w10.heap.size = gr at *
              have HSN : Hid (∀ W, Fr0 w11 W → (W.cell? ⟨ga, 0, none⟩ = some (.int .u8 an.addr) ∧ W.cell? ⟨ga, 1, none⟩ = some (.int .u8 an.kind) ∧ W.cell? ⟨ga, 2, none⟩ = some (.int .u8 an.ses) ∧ W.cell? ⟨ga, 3, none⟩ = some (.int .u8 an.seq) ∧ W.cell? ⟨ga, 4, none⟩ = some (.int .u8 an.ack) ∧ W.cell? ⟨ga, 5, none⟩ = some (.slice AA an.B.length ac) ∧ W.cell? ⟨gr, 0, none⟩ = some (.int .u8 an.addr) ∧ W.cell? ⟨gr, 1, none⟩ = some (.int .u8 an.kind) ∧ W.cell? ⟨gr, 2, none⟩ = some (.int .u8 an.ses) ∧ W.cell? ⟨gr, 3, none⟩ = some (.int .u8 an.seq) ∧ W.cell? ⟨gr, 4, none⟩ = some (.int .u8 an.ack) ∧ W.cell? ⟨gr, 5, none⟩ = some (.string (strOfNums an.B)))) := Lib.hid (fun W F => by
                have b1 := (HT11.out.ex _ (List.mem_cons_of_mem _ List.mem_cons_self)).2.fr F (fun h => h)
                have b2 := (HT11.out.ex _ List.mem_cons_self).2.fr F (fun h => h)
                simp only at b1 b2
                exact ⟨b1.cell 0, b1.cell 1, b1.cell 2, b1.cell 3, b1.cell 4, b1.cell 5, b2.cell 0, b2.cell 1, b2.cell 2, b2.cell 3, b2.cell 4, b2.cell 5⟩)
              have hs0 : Hid (w11.cell? ⟨ga, 0, none⟩ = some (.int .u8 an.addr) ∧ w11.cell? ⟨ga, 1, none⟩ = some (.int .u8 an.kind) ∧ w11.cell? ⟨ga, 2, none⟩ = some (.int .u8 an.ses) ∧ w11.cell? ⟨ga, 3, none⟩ = some (.int .u8 an.seq) ∧ w11.cell? ⟨ga, 4, none⟩ = some (.int .u8 an.ack) ∧ w11.cell? ⟨ga, 5, none⟩ = some (.slice AA an.B.length ac) ∧ w11.cell? ⟨gr, 0, none⟩ = some (.int .u8 an.addr) ∧ w11.cell? ⟨gr, 1, none⟩ = some (.int .u8 an.kind) ∧ w11.cell? ⟨gr, 2, none⟩ = some (.int .u8 an.ses) ∧ w11.cell? ⟨gr, 3, none⟩ = some (.int .u8 an.seq) ∧ w11.cell? ⟨gr, 4, none⟩ = some (.int .u8 an.ack) ∧ w11.cell? ⟨gr, 5, none⟩ = some (.string (strOfNums an.B))) := Lib.hid (HSN.out _ (Fr.refl _ _))
              have hsd : Hid (w11.drew.cell? ⟨ga, 0, none⟩ = some (.int .u8 an.addr) ∧ w11.drew.cell? ⟨ga, 1, none⟩ = some (.int .u8 an.kind) ∧ w11.drew.cell? ⟨ga, 2, none⟩ = some (.int .u8 an.ses) ∧ w11.drew.cell? ⟨ga, 3, none⟩ = some (.int .u8 an.seq) ∧ w11.drew.cell? ⟨ga, 4, none⟩ = some (.int .u8 an.ack) ∧ w11.drew.cell? ⟨ga, 5, none⟩ = some (.slice AA an.B.length ac) ∧ w11.drew.cell? ⟨gr, 0, none⟩ = some (.int .u8 an.addr) ∧ w11.drew.cell? ⟨gr, 1, none⟩ = some (.int .u8 an.kind) ∧ w11.drew.cell? ⟨gr, 2, none⟩ = some (.int .u8 an.ses) ∧ w11.drew.cell? ⟨gr, 3, none⟩ = some (.int .u8 an.seq) ∧ w11.drew.cell? ⟨gr, 4, none⟩ = some (.int .u8 an.ack) ∧ w11.drew.cell? ⟨gr, 5, none⟩ = some (.string (strOfNums an.B))) := Lib.hid (HSN.out _ (Fr.refl _ _).drew)
              have QO : Hid (∀ W, Fr0 w11 W → Calls Tryd.prog 25 #[.agg (fmv an AA ac)] W fun e w' => e = .returned (.agg (rfv an)) ∧ Hid (Fr0 W w')) := Lib.hid (fun W F => ROfC07 an AA ac W (RowOf.now HRA11.out.2.1 F.below0))
              have heq := eqlRF an
              go_region_held_law (fun w' => (w'.cell? ⟨ga, 0, none⟩ = some (.int .u8 an.addr) ∧ w'.cell? ⟨ga, 1, none⟩ = some (.int .u8 an.kind) ∧ w'.cell? ⟨ga, 2, none⟩ = some (.int .u8 an.ses) ∧ w'.cell? ⟨ga, 3, none⟩ = some (.int .u8 an.seq) ∧ w'.cell? ⟨ga, 4, none⟩ = some (.int .u8 an.ack) ∧ w'.cell? ⟨ga, 5, none⟩ = some (.slice AA an.B.length ac) ∧ w'.cell? ⟨gr, 0, none⟩ = some (.int .u8 an.addr) ∧ w'.cell? ⟨gr, 1, none⟩ = some (.int .u8 an.kind) ∧ w'.cell? ⟨gr, 2, none⟩ = some (.int .u8 an.ses) ∧ w'.cell? ⟨gr, 3, none⟩ = some (.int .u8 an.seq) ∧ w'.cell? ⟨gr, 4, none⟩ = some (.int .u8 an.ack) ∧ w'.cell? ⟨gr, 5, none⟩ = some (.string (strOfNums an.B)))) (first | (with_reducible exact hs0.out) | (with_reducible exact hsd.out) | (with_reducible exact hs2.out)) ((go_simp; go_at_call 25; refine Calls.mono (QO.out _ (Fr.refl _ _).drew) ?_; rintro e wB ⟨rfl, FB⟩; have hs2 : Hid (wB.cell? ⟨ga, 0, none⟩ = some (.int .u8 an.addr) ∧ wB.cell? ⟨ga, 1, none⟩ = some (.int .u8 an.kind) ∧ wB.cell? ⟨ga, 2, none⟩ = some (.int .u8 an.ses) ∧ wB.cell? ⟨ga, 3, none⟩ = some (.int .u8 an.seq) ∧ wB.cell? ⟨ga, 4, none⟩ = some (.int .u8 an.ack) ∧ wB.cell? ⟨ga, 5, none⟩ = some (.slice AA an.B.length ac) ∧ wB.cell? ⟨gr, 0, none⟩ = some (.int .u8 an.addr) ∧ wB.cell? ⟨gr, 1, none⟩ = some (.int .u8 an.kind) ∧ wB.cell? ⟨gr, 2, none⟩ = some (.int .u8 an.ses) ∧ wB.cell? ⟨gr, 3, none⟩ = some (.int .u8 an.seq) ∧ wB.cell? ⟨gr, 4, none⟩ = some (.int .u8 an.ack) ∧ wB.cell? ⟨gr, 5, none⟩ = some (.string (strOfNums an.B))) := Lib.hid (HSN.out _ (Fr.undrew FB.out))))
              have HTB := Lib.hid (HT11.out.next (Fr.undrew FB.out)).drop
              rename_i hHeld
              clear hHeld hs0 hsd hs2 HSN QO heq HRA11 HT11 FB
              go_wp2
              go_meet
              exact ⟨rfl, nw, s, r, A2, c2, sl', mtakeD d sl' cm, bt, rfl, by omega, HDK7.out.1, HDK7.out.2, HAT.out, HTB.out⟩
        case rest =>
          clear HT5 x0 HDK HSA HFQ HF HQX
          obtain ⟨rfl, nw2, s2, r2, A2, c2, sl2, d2, bt2, rfl, hnw2, hdo, hpo, had2, ht⟩ := hcut
          have HT7 := Lib.hid ht
          have HDK2 := Lib.hid (And.intro hdo (And.intro hpo had2))
          have qS := MShowC HT7.out.mo
          clear ht hdo hpo had2
          go_wp2_with fail
          refine Calls.mono qS ?_
          clear qS
          rintro e w8 ⟨rfl, F⟩
          have HT9 := Lib.hid ((HT7.out.next F.out).next ((Fr.refl (fun _ => False) w8).alloc (.cells (dpv d2) 44)))
          have hb := Blk.new w8 44 (dpv d2)
          have a0 := hb.cell 0
          have a1 := hb.cell 1
          have a2 := hb.cell 2
          have a3 := hb.cell 3
          have a4 := hb.cell 4
          obtain ⟨_, e1, e2, e3, e4, e5⟩ := HT9.out.ref.cells
          have n1 : (d2.lit != d2.lit) = false := by simp
          have n2 : (d2.latched != d2.latched) = false := by simp
          have n3 : (d2.tok != d2.tok) = false := by simp
          have n4 : (d2.qty != d2.qty) = false := by simp
          have n5 : (d2.most != d2.most) = false := by simp
          clear F HT7 hb
          go_upto_region 44 with (fail)
          generalize w8.alloc (.cells (dpv d2) 44) = w9 at *
          generalize w8.heap.size = gd at *
          go_quiet (fail)
          have HT10 := Lib.hid (HT9.out.next ((Fr.refl (fun _ => False) w9).drewN nq))
          clear a0 a1 a2 a3 a4 e1 e2 e3 e4 e5 n1 n2 n3 n4 n5 HT9
          go_wp2
          go_roundw
          case rel => exact ⟨i + 1, nw2, s2, r2, A2, c2, sl2, d2, bt2, by go_num, by go_num, by omega, by omega, by omega, HDK2.out.1, HDK2.out.2.1, HDK2.out.2.2, HT10.out⟩
          case measure => simp [intOf]; omega
    · have hgb : (decide ((i : Int) < (ls.length : Int)) && decide ((i : Int) < 300)) = false := by
        simp only [Bool.and_eq_false_iff, decide_eq_false_iff_not]; omega
      have HFIN := Lib.hid (FS.out.trans HT.out.fr (fun _ _ h => h)).below0
      by_cases hlt : i < ls.length
      · obtain rfl : i = 300 := by omega
        go_wp2
        go_ret
        exact ⟨rfl, HFIN.out⟩
      · obtain rfl : i = ls.length := by omega
        go_wp2
        go_ret
        exact ⟨rfl, HFIN.out⟩
theorem mtells_row {W : World} (hk : ∃ h, Kn h W) (A : Option Addr) (c : Nat) (ls : List Sq) (hr : RowOf cQ 10 W W.heap.size A ls) (hq : ∀ x ∈ ls, QOk W x) :
    Calls Tryd.prog 8 #[.slice A ls.length c] W fun e w' => e = .returned (.bool true) ∧ Below W.heap.size W w' := by
  obtain ⟨h, hk⟩ := hk
  exact mtells_walk A c ls W hk hr hq
end Go.Proofs.YtdhfinpmcikimaaDoor.K
