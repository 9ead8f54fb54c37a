/- OrderSame: its walk. -/
import Derived.Test.YtigknfkkegccgaaDoorOBu
import Derived.BigQuiet
namespace Go.Proofs.YtigknfkkegccgaaDoor.K
open Go.RowKit
set_option linter.unusedVariables false
set_option linter.unusedSimpArgs false
attribute [local go_sem ↓] Go.wp_at_zero Go.wp_at_succ
set_option maxHeartbeats 16000000 in
set_option maxRecDepth 20000 in
theorem osame_walk (A Q : Option Addr) (c q : Nat) (id : Int) (ls : List Ln) (l : List Sp) (w : World) (hA : RowOf cL 3 w w.heap.size A ls) (hc : ls.length ≤ c) (hok : ∀ x ∈ ls, x.ok) (hid : 0 ≤ id ∧ id < 4294967296) (hQ : RowOf cS 4 w w.heap.size Q l) (hs : ∀ s ∈ l, SpOk w s) :
    Calls Tryd.prog 8 #[.agg #[.int .u32 id, .slice A ls.length c], .slice Q l.length q] w fun e w' => e = .returned (.bool true) ∧ Below w.heap.size w w' := by
  have HQ := Lib.hid hQ
  have HS := Lib.hid hs
  have HOK := Lib.hid (fun x (hx : x ∈ ls.take 12) => hok x (List.mem_of_mem_take hx))
  have hm12 : (ls.take 12).length ≤ 12 := by rw [List.length_take]; omega
  have HB0 := Lib.hid (Blk.new w 25 #[.int .u32 id, .slice A ls.length c])
  have D0 : Hid (Below w.heap.size w (w.alloc (.cells #[.int .u32 id, .slice A ls.length c] 25))) := Lib.hid ((Below.refl _ w).alloc (Nat.le_refl _) _)
  have HF : Hid (∀ w', Below w.heap.size w w' → Calls Tryd.prog 10 #[.agg #[.int .u32 id, .slice A ls.length c]] w' fun e w2 => ∃ A' c', e = .returned (.agg #[.int .u32 id, .slice A' (ls.take 12).length c']) ∧ Hid (MadeL w'.heap.size A' c' (ls.take 12) w2) ∧ Hid (Fr0 w' w2)) := Lib.hid (fun w' h => FewC hc (hA.now h))
  generalize ls.take 12 = ms at *
  clear hA hc hok hQ hs
  go_enter Tryd.func8, Tryd.ntmps8
  go_wp2_with fail
  refine Calls.mono shown14_walk ?_
  rintro e w1 ⟨rfl, F1⟩
  have D1 := Lib.hid (D0.out.trans (F1.out.mono D0.out.size))
  have hb1 := HB0.out.below F1.out HB0.out.lt
  have e0 := hb1.cell 0
  have e1 := hb1.cell 1
  have HB1 := Lib.hid hb1
  clear hb1 F1 D0 HB0
  have qF := HF.out w1 D1.out
  go_wp2_with fail
  refine Calls.mono qF ?_
  clear qF
  rintro e w2 ⟨A2, c2, rfl, HM2, HF2⟩
  have hb2 := HB1.out.fr HF2.out (fun h => h)
  have f0 := hb2.cell 0
  have f1 := hb2.frozen 0
  have hb3 : Blk (w2.setCell ⟨w.heap.size, 0, none⟩ (.int .u32 id)) w.heap.size 25 #[.int .u32 id, .slice A ls.length c] := by simpa using hb2.set_ 0 (.int .u32 id)
  have g0 := hb3.cell 1
  have g1 := hb3.frozen 1
  have hb4 : Blk ((w2.setCell ⟨w.heap.size, 0, none⟩ (.int .u32 id)).setCell ⟨w.heap.size, 1, none⟩ (.slice A2 ms.length c2)) w.heap.size 25 #[.int .u32 id, .slice A2 ms.length c2] := by simpa using hb3.set_ 1 (.slice A2 ms.length c2)
  have hF4 : Fr (fun j => j = w.heap.size) w2 ((w2.setCell ⟨w.heap.size, 0, none⟩ (.int .u32 id)).setCell ⟨w.heap.size, 1, none⟩ (.slice A2 ms.length c2)) := ((Fr.refl (fun j => j = w.heap.size) w2).setCell (p := ⟨w.heap.size, 0, none⟩) (fun _ => rfl) _).setCell (p := ⟨w.heap.size, 1, none⟩) (fun _ => rfl) _
  have HB4 := Lib.hid hb4
  have hs1 := D1.out.size
  have HM4 := Lib.hid (HM2.out.fr hF4 (fun j e e' => by subst e'; exact own_blk_ne HM2.out.1 (HB1.out.fr HF2.out (fun h => h)) (by decide) e))
  have D4 := Lib.hid (below_fr (D1.out.trans (HF2.out.below0.mono hs1)) hF4 (Nat.le_trans hs1 HF2.out.size) (fun j e => by omega))
  clear hb2 hb3 hb4 hF4 HM2 HF2 e0 e1 HB1 HF
  go_wp2_with fail
  generalize (w2.setCell ⟨w.heap.size, 0, none⟩ (.int .u32 id)).setCell ⟨w.heap.size, 1, none⟩ (.slice A2 ms.length c2) = W4 at *
  clear f0 f1 g0 g1
  generalize w1.heap.size = Bm at *
  refine Calls.mono (NewBookC W4) ?_
  rintro e w5 ⟨b, g, rfl, HK5, HF5⟩
  have hb5 := HB4.out.fr HF5.out (fun h => h)
  have k0 := hb5.cell 0
  have k1 := hb5.cell 1
  have HB5 := Lib.hid hb5
  have HM5 := Lib.hid (HM4.out.fr HF5.out (fun _ _ h => h))
  have D5 := Lib.hid (D4.out.trans (HF5.out.below0.mono D4.out.size))
  have hpB : w.heap.size < W4.heap.size := HB4.out.lt
  generalize W4.heap.size = B0 at *
  have hcm := HM5.out.2.2
  clear hb5 HB4 HM4 D4 HF5 D1 hs1 W4 w2 w1
  by_cases hr : rightO ms = 0
  · have qA := AddC (id := id) HK5.out hid HM5.out.2.1 hcm HOK.out hr (by simp) (by simp) (by simp)
    go_wp2_with fail
    refine Calls.mono qA ?_
    clear qA
    rintro e w6 ⟨rfl, A6, c6, v6, -, HK6, HF6, -⟩
    have HF6 := Lib.hid HF6.out
    have hb6 := HK5.out.keepB HF6.out HB5.out hpB
    have HM6 := Lib.hid (HK5.out.keepL HF6.out HM5.out)
    have D6 := Lib.hid (HK5.out.keepD HF6.out D5.out (by omega) (Nat.le_refl _))
    have HB6 := Lib.hid hb6
    clear hb6 HK5 HB5 HM5 D5 HF6 k0 k1
    go_wp2_with fail
    go_loopw [8] (fun i wr => ∃ (k : Nat) (v : Value) (os : List So) (ids : List Int), i = .int .i64 k ∧ k ≤ l.length ∧ k ≤ 60 ∧ (∃ A' c' r, os = ⟨id, A', c', ms⟩ :: r ∧ r.length + 1 ≤ 16) ∧ ids.length ≤ k + 1 ∧ id ∈ ids ∧ Bk B0 b g v os ids wr ∧ Blk wr w.heap.size 25 #[.int .u32 id, .slice A2 ms.length c2] ∧ MadeL Bm A2 c2 ms wr ∧ Below w.heap.size w wr) (fun i _ => 60 - (intOf i).toNat)
    case atStart => exact ⟨0, v6, _, _, rfl, by omega, by omega, ⟨A6, c6, [], rfl, by simp⟩, by simp, by simp, HK6.out, HB6.out, HM6.out, D6.out⟩
    case round =>
      clear HK6 HB6 HM6 D6
      obtain ⟨k, v, os, ids, rfl, hkl, hk60, ⟨A6, c6, r, hos, hrl⟩, hidl, hidm, hbk, hbx, hm, hf⟩ := hrel
      subst hos
      have HBK := Lib.hid hbk
      have HBX := Lib.hid hbx
      have HM := Lib.hid hm
      have HF := Lib.hid hf
      have HIDM := Lib.hid hidm
      clear hbk hbx hm hf hidm
      by_cases hgo : k < l.length ∧ k < 60
      · obtain ⟨hlt, h60⟩ := hgo
        obtain ⟨ad, rfl, _, c0, c1, c2', c3⟩ := (RowOf.below HQ.out HF.out).sp hlt
        have hsp := HS.out _ (List.getElem_mem hlt)
        generalize l[k] = s at *
        obtain ⟨sk, so, sA, sc, sl, si⟩ := s
        simp only at c0 c1 c2' c3
        obtain ⟨⟨q1, q2⟩, hso, hsi, hsr, hsc, hsok⟩ := hsp
        simp only at q1 q2 hso hsi hsr hsc hsok
        have HSR := Lib.hid hsr
        have HSOK := Lib.hid hsok
        clear hsr hsok
        have F1 : Fr0 wr (wr.alloc (.cells #[.int .i64 sk, .int .u32 so, .slice sA sl.length sc, .int .u32 si] 48)) := (Fr.refl (fun _ => False) wr).alloc _
        have hnb := Blk.new wr 48 #[.int .i64 sk, .int .u32 so, .slice sA sl.length sc, .int .u32 si]
        have n0 := hnb.cell 0
        have n1 := hnb.cell 1
        have n2 := hnb.cell 2
        have n3 := hnb.cell 3
        have HK1 := Lib.hid (HBK.out.fr F1 (fun _ _ _ h => h))
        have hb1 := HBX.out.alloc (.cells #[.int .i64 sk, .int .u32 so, .slice sA sl.length sc, .int .u32 si] 48)
        have m0 := hb1.cell 0
        have m1 := hb1.cell 1
        have HX1 := Lib.hid hb1
        have HM1 := Lib.hid (HM.out.fr F1 (fun _ _ h => h))
        have HF1 := Lib.hid (HF.out.alloc HF.out.size (.cells #[.int .i64 sk, .int .u32 so, .slice sA sl.length sc, .int .u32 si] 48))
        have HNB := Lib.hid hnb
        clear hb1 F1 hnb HBK HBX HM
        by_cases hskip : si = id ∨ so = id
        · have hroll : Hid (∃ (k' : Nat) (v : Value) (os : List So) (ids' : List Int), k' = k + 1 ∧ (∃ A' c' r, os = ⟨id, A', c', ms⟩ :: r ∧ r.length + 1 ≤ 16) ∧ ids'.length ≤ k' + 1 ∧ id ∈ ids' ∧ Bk B0 b g v os ids' (wr.alloc (.cells #[.int .i64 sk, .int .u32 so, .slice sA sl.length sc, .int .u32 si] 48))) := Lib.hid ⟨k + 1, v, _, ids, rfl, ⟨A6, c6, r, rfl, hrl⟩, by omega, HIDM.out, HK1.out⟩
          by_cases hsi : si = id
          · subst hsi
            go_wp2
            go_roundw
            case rel =>
              obtain ⟨k', v', os', ids', rfl, h1, h2, h3, h4⟩ := hroll.out
              exact ⟨k + 1, v', os', ids', by go_num, by omega, by omega, h1, h2, h3, h4, HX1.out, HM1.out, HF1.out⟩
            case measure => simp [intOf]; omega
          · have hso2 : so = id := by omega
            have hsib : (si == so) = false := by simp; omega
            subst hso2
            go_wp2
            go_roundw
            case rel =>
              obtain ⟨k', v', os', ids', rfl, h1, h2, h3, h4⟩ := hroll.out
              exact ⟨k + 1, v', os', ids', by go_num, by omega, by omega, h1, h2, h3, h4, HX1.out, HM1.out, HF1.out⟩
            case measure => simp [intOf]; omega
        · have hs1 : (si == id) = false := by simp; omega
          have hs2 : (so == id) = false := by simp; omega
          have hne : si ≠ id := by omega
          rcases (by omega : sk = 1 ∨ sk = 2 ∨ sk = 3 ∨ sk = 4 ∨ (sk ≠ 1 ∧ sk ≠ 2 ∧ sk ≠ 3 ∧ sk ≠ 4)) with hk | hk | hk | hk | ⟨z1, z2, z3, z4⟩
          · subst hk
            have qF := FewC (id := so) hsc (HSR.out.now HF1.out)
            go_wp2_with fail
            refine Calls.mono qF ?_
            clear qF
            rintro e w5 ⟨A5, c5, rfl, HM5, HF5⟩
            have HK5 := Lib.hid (HK1.out.fr HF5.out (fun _ _ _ h => h))
            have HX5 := Lib.hid (HX1.out.fr HF5.out (fun h => h))
            have HM5' := Lib.hid (HM1.out.fr HF5.out (fun _ _ h => h))
            have D5 := Lib.hid (HF1.out.trans (HF5.out.below0.mono HF1.out.size))
            have ht12 : (sl.take 12).length ≤ 12 := by rw [List.length_take]; omega
            have hok5 : ∀ x ∈ sl.take 12, x.ok := fun x hx => HSOK.out x (List.mem_of_mem_take hx)
            have hrow5 := HM5.out.2.1
            have hcap5 := HM5.out.2.2
            generalize sl.take 12 = st at *
            have hos5 : ((⟨id, A6, c6, ms⟩ : So) :: r).length ≤ 1000 := by simp; omega
            have hid5 : ids.length ≤ 100000 := by omega
            have hst5 : st.length ≤ 1000 := by omega
            have qA := AddAny (id := so) (c := c5) HK5.out hso hrow5 hst5 hcap5 hok5 hos5 hid5
            clear hok5 hrow5 hcap5 hos5 hid5 hst5
            clear HK1 HX1 HM1 HF1
            go_wp2_with fail
            refine Calls.mono qA ?_
            clear qA
            rintro e w9 ⟨n9, v9, os9, ids9, rfl, hR9, HK9, HF9, -⟩
            obtain ⟨⟨r9, hos9, hr9⟩, hi9, hsub9⟩ := addR_cons hR9 hrl
            subst hos9
            have hi9 : ids9.length ≤ k + 2 := by omega
            have HI9 : Hid (id ∈ ids9) := Lib.hid (hsub9 _ HIDM.out)
            have hb9 := HK5.out.keepB HF9.out HX5.out hpB
            have HM9 := Lib.hid (HK5.out.keepL HF9.out HM5'.out)
            have D9 := Lib.hid (HK5.out.keepD HF9.out D5.out (by omega) (Nat.le_refl _))
            clear HK5 HX5 HM5' D5 HF9 HF5 HM5 hR9 hsub9
            have x0 := hb9.cell 0
            have x1 := hb9.cell 1
            have HX9 := Lib.hid hb9
            clear hb9
            have qG := GetC (k := 0) HK9.out (by simp; omega) rfl (idxO_first (id := id) (A := A6) (c := c6) (ls := ms) (r := r9)) (by show ms.length ≤ 1000; omega)
            go_wp2_with fail
            refine Calls.mono qG ?_
            clear qG
            rintro e wa ⟨Aa, ca, rfl, HMa, Fa⟩
            simp only
            have hsa := Fa.out.size
            have HKa := Lib.hid ((HK9.out.fr (Fr.of_below Fa.out) (fun _ _ _ h => h)).fr ((Fr.refl (fun _ => False) wa).alloc (.cells #[.int .u32 id, .slice Aa ms.length ca] 25)) (fun _ _ _ h => h))
            have HXa := Lib.hid ((HX9.out.below Fa.out HX9.out.lt).alloc (.cells #[.int .u32 id, .slice Aa ms.length ca] 25))
            have HM2a := Lib.hid ((HM9.out.fr (Fr.of_below Fa.out) (fun _ _ h => h)).fr ((Fr.refl (fun _ => False) wa).alloc (.cells #[.int .u32 id, .slice Aa ms.length ca] 25)) (fun _ _ h => h))
            have HMa' := Lib.hid (HMa.out.fr ((Fr.refl (fun _ => False) wa).alloc (.cells #[.int .u32 id, .slice Aa ms.length ca] 25)) (fun _ _ h => h))
            have HNa := Lib.hid (Blk.new wa 25 #[.int .u32 id, .slice Aa ms.length ca])
            have Da := Lib.hid ((D9.out.trans (Fa.out.mono D9.out.size)).alloc (Nat.le_trans D9.out.size hsa) (.cells #[.int .u32 id, .slice Aa ms.length ca] 25))
            clear HK9 HX9 HM9 D9 HMa Fa x0 x1
            have qO := OpenC HKa.out (by simp; omega)
            rw [List.length_cons] at qO
            obtain ⟨N, hN⟩ : ∃ N, N = r9.length + 1 := ⟨_, rfl⟩
            have hN1 : 1 ≤ N := by omega
            have hN2 : N ≤ 16 := by omega
            have hN0 : 0 < N := by omega
            have hN0i : (0 : Int) < (N : Int) := by omega
            have hN1' : (1 : Int) ≤ (N : Int) := by omega
            have hN2' : (N : Int) ≤ 16 := by omega
            rw [← hN] at qO
            clear hN
            go_wp2_with fail
            generalize wa.alloc (.cells #[.int .u32 id, .slice Aa ms.length ca] 25) = Wa at *
            generalize wa.heap.size = pa at *
            refine Calls.mono qO ?_
            clear qO
            rintro e wb ⟨vb, rfl, HOb, Fb⟩
            obtain ⟨gb, cb, rfl, -, hgb⟩ := HOb.out.form (by omega)
            have yb : wb.cell? ⟨gb, 0, none⟩ = some (.int .u32 id) := (HOb.out.cellAt 0 (by omega)).trans (by simp [nums])
            have HKb := Lib.hid (HKa.out.fr (Fr.of_below Fb.out) (fun _ _ _ h => h))
            have hXb := HXa.out.below Fb.out HXa.out.lt
            have u0 := hXb.cell 0
            have u1 := hXb.cell 1
            have hNb := HNa.out.below Fb.out HNa.out.lt
            have t0 := hNb.cell 0
            have t1 := hNb.cell 1
            have HXb := Lib.hid hXb
            have HMb := Lib.hid (HM2a.out.fr (Fr.of_below Fb.out) (fun _ _ h => h))
            have HMb' := Lib.hid (HMa'.out.fr (Fr.of_below Fb.out) (fun _ _ h => h))
            have Db := Lib.hid (Da.out.trans (Fb.out.mono Da.out.size))
            clear HKa HXa HM2a HMa' HNa Da Fb hXb hNb HOb
            have qS := SameC (i := id) (j := id) (c := ca) (d := c2) HMb'.out.2.1 HMb.out.2.1 (by omega)
            rw [show decide (id = id ∧ ms = ms) = true by simp] at qS
            go_wp2_with fail
            refine Calls.mono qS ?_
            clear qS
            rintro e wc ⟨rfl, Fc⟩
            have yc : wc.cell? ⟨gb, 0, none⟩ = some (.int .u32 id) := (Fc.out.cell (p := ⟨gb, 0, none⟩) hgb).trans yb
            have hXc := HXb.out.below Fc.out HXb.out.lt
            have u0 := hXc.cell 0
            have HXc := Lib.hid hXc
            have HKc := Lib.hid (HKb.out.fr (Fr.of_below Fc.out) (fun _ _ _ h => h))
            have HMc := Lib.hid (HMb.out.fr (Fr.of_below Fc.out) (fun _ _ h => h))
            have Dc := Lib.hid (Db.out.trans (Fc.out.mono Db.out.size))
            clear HKb HXb HMb HMb' Db Fc hXc yb u1 t0 t1
            go_wp2_with fail
            go_quiet (fail)
            go_wp2
            go_roundw
            case rel => exact ⟨k + 1, v9, _, ids9, by go_num, by omega, by omega, ⟨A6, c6, r9, rfl, hr9⟩, by omega, HI9.out, HKc.out.fr (((Fr.refl (fun _ => False) _).drewN _)) (fun _ _ _ h => h), HXc.out, HMc.out.fr ((Fr.refl (fun _ => False) _).drewN _) (fun _ _ h => h), below_drewN Dc.out _⟩
            case measure => simp [intOf]; omega
          · subst hk
            have qF := FewC (id := so) hsc (HSR.out.now HF1.out)
            go_wp2_with fail
            refine Calls.mono qF ?_
            clear qF
            rintro e w5 ⟨A5, c5, rfl, HM5, HF5⟩
            have HK5 := Lib.hid (HK1.out.fr HF5.out (fun _ _ _ h => h))
            have HX5 := Lib.hid (HX1.out.fr HF5.out (fun h => h))
            have HM5' := Lib.hid (HM1.out.fr HF5.out (fun _ _ h => h))
            have D5 := Lib.hid (HF1.out.trans (HF5.out.below0.mono HF1.out.size))
            have ht12 : (sl.take 12).length ≤ 12 := by rw [List.length_take]; omega
            have hok5 : ∀ x ∈ sl.take 12, x.ok := fun x hx => HSOK.out x (List.mem_of_mem_take hx)
            have hrow5 := HM5.out.2.1
            have hcap5 := HM5.out.2.2
            generalize sl.take 12 = st at *
            have hos5 : ((⟨id, A6, c6, ms⟩ : So) :: r).length ≤ 1000 := by simp; omega
            have hid5 : ids.length ≤ 100000 := by omega
            have hst5 : st.length ≤ 1000 := by omega
            have qA := AddAny (id := so) (c := c5) HK5.out hso hrow5 hst5 hcap5 hok5 hos5 hid5
            clear hok5 hrow5 hcap5 hos5 hid5 hst5
            clear HK1 HX1 HM1 HF1
            go_wp2_with fail
            refine Calls.mono qA ?_
            clear qA
            rintro e w9 ⟨n9, v9, os9, ids9, rfl, hR9, HK9, HF9, -⟩
            obtain ⟨⟨r9, hos9, hr9⟩, hi9, hsub9⟩ := addR_cons hR9 hrl
            subst hos9
            have hi9 : ids9.length ≤ k + 2 := by omega
            have HI9 : Hid (id ∈ ids9) := Lib.hid (hsub9 _ HIDM.out)
            have hb9 := HK5.out.keepB HF9.out HX5.out hpB
            have HM9 := Lib.hid (HK5.out.keepL HF9.out HM5'.out)
            have D9 := Lib.hid (HK5.out.keepD HF9.out D5.out (by omega) (Nat.le_refl _))
            clear HK5 HX5 HM5' D5 HF9 HF5 HM5 hR9 hsub9
            have x0 := hb9.cell 0
            have x1 := hb9.cell 1
            have HX9 := Lib.hid hb9
            clear hb9
            have qG := GetC (k := 0) HK9.out (by simp; omega) rfl (idxO_first (id := id) (A := A6) (c := c6) (ls := ms) (r := r9)) (by show ms.length ≤ 1000; omega)
            go_wp2_with fail
            refine Calls.mono qG ?_
            clear qG
            rintro e wa ⟨Aa, ca, rfl, HMa, Fa⟩
            simp only
            have hsa := Fa.out.size
            have HKa := Lib.hid ((HK9.out.fr (Fr.of_below Fa.out) (fun _ _ _ h => h)).fr ((Fr.refl (fun _ => False) wa).alloc (.cells #[.int .u32 id, .slice Aa ms.length ca] 25)) (fun _ _ _ h => h))
            have HXa := Lib.hid ((HX9.out.below Fa.out HX9.out.lt).alloc (.cells #[.int .u32 id, .slice Aa ms.length ca] 25))
            have HM2a := Lib.hid ((HM9.out.fr (Fr.of_below Fa.out) (fun _ _ h => h)).fr ((Fr.refl (fun _ => False) wa).alloc (.cells #[.int .u32 id, .slice Aa ms.length ca] 25)) (fun _ _ h => h))
            have HMa' := Lib.hid (HMa.out.fr ((Fr.refl (fun _ => False) wa).alloc (.cells #[.int .u32 id, .slice Aa ms.length ca] 25)) (fun _ _ h => h))
            have HNa := Lib.hid (Blk.new wa 25 #[.int .u32 id, .slice Aa ms.length ca])
            have Da := Lib.hid ((D9.out.trans (Fa.out.mono D9.out.size)).alloc (Nat.le_trans D9.out.size hsa) (.cells #[.int .u32 id, .slice Aa ms.length ca] 25))
            clear HK9 HX9 HM9 D9 HMa Fa x0 x1
            have qO := OpenC HKa.out (by simp; omega)
            rw [List.length_cons] at qO
            obtain ⟨N, hN⟩ : ∃ N, N = r9.length + 1 := ⟨_, rfl⟩
            have hN1 : 1 ≤ N := by omega
            have hN2 : N ≤ 16 := by omega
            have hN0 : 0 < N := by omega
            have hN0i : (0 : Int) < (N : Int) := by omega
            have hN1' : (1 : Int) ≤ (N : Int) := by omega
            have hN2' : (N : Int) ≤ 16 := by omega
            rw [← hN] at qO
            clear hN
            go_wp2_with fail
            generalize wa.alloc (.cells #[.int .u32 id, .slice Aa ms.length ca] 25) = Wa at *
            generalize wa.heap.size = pa at *
            refine Calls.mono qO ?_
            clear qO
            rintro e wb ⟨vb, rfl, HOb, Fb⟩
            obtain ⟨gb, cb, rfl, -, hgb⟩ := HOb.out.form (by omega)
            have yb : wb.cell? ⟨gb, 0, none⟩ = some (.int .u32 id) := (HOb.out.cellAt 0 (by omega)).trans (by simp [nums])
            have HKb := Lib.hid (HKa.out.fr (Fr.of_below Fb.out) (fun _ _ _ h => h))
            have hXb := HXa.out.below Fb.out HXa.out.lt
            have u0 := hXb.cell 0
            have u1 := hXb.cell 1
            have hNb := HNa.out.below Fb.out HNa.out.lt
            have t0 := hNb.cell 0
            have t1 := hNb.cell 1
            have HXb := Lib.hid hXb
            have HMb := Lib.hid (HM2a.out.fr (Fr.of_below Fb.out) (fun _ _ h => h))
            have HMb' := Lib.hid (HMa'.out.fr (Fr.of_below Fb.out) (fun _ _ h => h))
            have Db := Lib.hid (Da.out.trans (Fb.out.mono Da.out.size))
            clear HKa HXa HM2a HMa' HNa Da Fb hXb hNb HOb
            have qS := SameC (i := id) (j := id) (c := ca) (d := c2) HMb'.out.2.1 HMb.out.2.1 (by omega)
            rw [show decide (id = id ∧ ms = ms) = true by simp] at qS
            go_wp2_with fail
            refine Calls.mono qS ?_
            clear qS
            rintro e wc ⟨rfl, Fc⟩
            have yc : wc.cell? ⟨gb, 0, none⟩ = some (.int .u32 id) := (Fc.out.cell (p := ⟨gb, 0, none⟩) hgb).trans yb
            have hXc := HXb.out.below Fc.out HXb.out.lt
            have u0 := hXc.cell 0
            have HXc := Lib.hid hXc
            have HKc := Lib.hid (HKb.out.fr (Fr.of_below Fc.out) (fun _ _ _ h => h))
            have HMc := Lib.hid (HMb.out.fr (Fr.of_below Fc.out) (fun _ _ h => h))
            have Dc := Lib.hid (Db.out.trans (Fc.out.mono Db.out.size))
            clear HKb HXb HMb HMb' Db Fc hXc yb u1 t0 t1
            go_wp2_with fail
            go_quiet (fail)
            go_wp2
            go_roundw
            case rel => exact ⟨k + 1, v9, _, ids9, by go_num, by omega, by omega, ⟨A6, c6, r9, rfl, hr9⟩, by omega, HI9.out, HKc.out.fr (((Fr.refl (fun _ => False) _).drewN _)) (fun _ _ _ h => h), HXc.out, HMc.out.fr ((Fr.refl (fun _ => False) _).drewN _) (fun _ _ h => h), below_drewN Dc.out _⟩
            case measure => simp [intOf]; omega
          · subst hk
            have qA := CloseAny (id := si) HK1.out (by simp; omega)
            go_wp2_with fail
            refine Calls.mono qA ?_
            clear qA
            rintro e w9 ⟨rfl, v9, -, HK9, HF9⟩
            obtain ⟨r9, hos9, hr9'⟩ := closeO_cons (A := A6) (c := c6) (ls := ms) (r := r) hne
            rw [hos9] at HK9
            have hr9 : r9.length + 1 ≤ 16 := by omega
            obtain ⟨ids9, hids9⟩ : ∃ ids9, ids9 = ids := ⟨_, rfl⟩
            rw [← hids9] at HK9
            have hi9 : ids9.length ≤ k + 2 := by rw [hids9]; omega
            have HI9 : Hid (id ∈ ids9) := Lib.hid (by rw [hids9]; exact HIDM.out)
            have hf9 := Fr.cl (v' := v) (g := g) HF9.out
            have hb9 := HK1.out.keepB hf9 HX1.out hpB
            have HM9 := Lib.hid (HK1.out.keepL hf9 HM1.out)
            have D9 := Lib.hid (HK1.out.keepD hf9 HF1.out (by omega) (Nat.le_refl _))
            clear HK1 HX1 HM1 HF1 HF9 hf9 hos9 hids9 hr9'
            have x0 := hb9.cell 0
            have x1 := hb9.cell 1
            have HX9 := Lib.hid hb9
            clear hb9
            have qG := GetC (k := 0) HK9.out (by simp; omega) rfl (idxO_first (id := id) (A := A6) (c := c6) (ls := ms) (r := r9)) (by show ms.length ≤ 1000; omega)
            go_wp2_with fail
            refine Calls.mono qG ?_
            clear qG
            rintro e wa ⟨Aa, ca, rfl, HMa, Fa⟩
            simp only
            have hsa := Fa.out.size
            have HKa := Lib.hid ((HK9.out.fr (Fr.of_below Fa.out) (fun _ _ _ h => h)).fr ((Fr.refl (fun _ => False) wa).alloc (.cells #[.int .u32 id, .slice Aa ms.length ca] 25)) (fun _ _ _ h => h))
            have HXa := Lib.hid ((HX9.out.below Fa.out HX9.out.lt).alloc (.cells #[.int .u32 id, .slice Aa ms.length ca] 25))
            have HM2a := Lib.hid ((HM9.out.fr (Fr.of_below Fa.out) (fun _ _ h => h)).fr ((Fr.refl (fun _ => False) wa).alloc (.cells #[.int .u32 id, .slice Aa ms.length ca] 25)) (fun _ _ h => h))
            have HMa' := Lib.hid (HMa.out.fr ((Fr.refl (fun _ => False) wa).alloc (.cells #[.int .u32 id, .slice Aa ms.length ca] 25)) (fun _ _ h => h))
            have HNa := Lib.hid (Blk.new wa 25 #[.int .u32 id, .slice Aa ms.length ca])
            have Da := Lib.hid ((D9.out.trans (Fa.out.mono D9.out.size)).alloc (Nat.le_trans D9.out.size hsa) (.cells #[.int .u32 id, .slice Aa ms.length ca] 25))
            clear HK9 HX9 HM9 D9 HMa Fa x0 x1
            have qO := OpenC HKa.out (by simp; omega)
            rw [List.length_cons] at qO
            obtain ⟨N, hN⟩ : ∃ N, N = r9.length + 1 := ⟨_, rfl⟩
            have hN1 : 1 ≤ N := by omega
            have hN2 : N ≤ 16 := by omega
            have hN0 : 0 < N := by omega
            have hN0i : (0 : Int) < (N : Int) := by omega
            have hN1' : (1 : Int) ≤ (N : Int) := by omega
            have hN2' : (N : Int) ≤ 16 := by omega
            rw [← hN] at qO
            clear hN
            go_wp2_with fail
            generalize wa.alloc (.cells #[.int .u32 id, .slice Aa ms.length ca] 25) = Wa at *
            generalize wa.heap.size = pa at *
            refine Calls.mono qO ?_
            clear qO
            rintro e wb ⟨vb, rfl, HOb, Fb⟩
            obtain ⟨gb, cb, rfl, -, hgb⟩ := HOb.out.form (by omega)
            have yb : wb.cell? ⟨gb, 0, none⟩ = some (.int .u32 id) := (HOb.out.cellAt 0 (by omega)).trans (by simp [nums])
            have HKb := Lib.hid (HKa.out.fr (Fr.of_below Fb.out) (fun _ _ _ h => h))
            have hXb := HXa.out.below Fb.out HXa.out.lt
            have u0 := hXb.cell 0
            have u1 := hXb.cell 1
            have hNb := HNa.out.below Fb.out HNa.out.lt
            have t0 := hNb.cell 0
            have t1 := hNb.cell 1
            have HXb := Lib.hid hXb
            have HMb := Lib.hid (HM2a.out.fr (Fr.of_below Fb.out) (fun _ _ h => h))
            have HMb' := Lib.hid (HMa'.out.fr (Fr.of_below Fb.out) (fun _ _ h => h))
            have Db := Lib.hid (Da.out.trans (Fb.out.mono Da.out.size))
            clear HKa HXa HM2a HMa' HNa Da Fb hXb hNb HOb
            have qS := SameC (i := id) (j := id) (c := ca) (d := c2) HMb'.out.2.1 HMb.out.2.1 (by omega)
            rw [show decide (id = id ∧ ms = ms) = true by simp] at qS
            go_wp2_with fail
            refine Calls.mono qS ?_
            clear qS
            rintro e wc ⟨rfl, Fc⟩
            have yc : wc.cell? ⟨gb, 0, none⟩ = some (.int .u32 id) := (Fc.out.cell (p := ⟨gb, 0, none⟩) hgb).trans yb
            have hXc := HXb.out.below Fc.out HXb.out.lt
            have u0 := hXc.cell 0
            have HXc := Lib.hid hXc
            have HKc := Lib.hid (HKb.out.fr (Fr.of_below Fc.out) (fun _ _ _ h => h))
            have HMc := Lib.hid (HMb.out.fr (Fr.of_below Fc.out) (fun _ _ h => h))
            have Dc := Lib.hid (Db.out.trans (Fc.out.mono Db.out.size))
            clear HKb HXb HMb HMb' Db Fc hXc yb u1 t0 t1
            go_wp2_with fail
            go_quiet (fail)
            go_wp2
            go_roundw
            case rel => exact ⟨k + 1, v9, _, ids9, by go_num, by omega, by omega, ⟨A6, c6, r9, rfl, hr9⟩, by omega, HI9.out, HKc.out.fr (((Fr.refl (fun _ => False) _).drewN _)) (fun _ _ _ h => h), HXc.out, HMc.out.fr ((Fr.refl (fun _ => False) _).drewN _) (fun _ _ h => h), below_drewN Dc.out _⟩
            case measure => simp [intOf]; omega
          · subst hk
            have qA := CancelE (CloseAny (id := si) HK1.out (by simp; omega))
            go_wp2_with fail
            refine Calls.mono qA ?_
            clear qA
            rintro e w9 ⟨rfl, v9, -, HK9, HF9⟩
            obtain ⟨r9, hos9, hr9'⟩ := closeO_cons (A := A6) (c := c6) (ls := ms) (r := r) hne
            rw [hos9] at HK9
            have hr9 : r9.length + 1 ≤ 16 := by omega
            obtain ⟨ids9, hids9⟩ : ∃ ids9, ids9 = ids := ⟨_, rfl⟩
            rw [← hids9] at HK9
            have hi9 : ids9.length ≤ k + 2 := by rw [hids9]; omega
            have HI9 : Hid (id ∈ ids9) := Lib.hid (by rw [hids9]; exact HIDM.out)
            have hf9 := Fr.cl (v' := v) (g := g) HF9.out
            have hb9 := HK1.out.keepB hf9 HX1.out hpB
            have HM9 := Lib.hid (HK1.out.keepL hf9 HM1.out)
            have D9 := Lib.hid (HK1.out.keepD hf9 HF1.out (by omega) (Nat.le_refl _))
            clear HK1 HX1 HM1 HF1 HF9 hf9 hos9 hids9 hr9'
            have x0 := hb9.cell 0
            have x1 := hb9.cell 1
            have HX9 := Lib.hid hb9
            clear hb9
            have qG := GetC (k := 0) HK9.out (by simp; omega) rfl (idxO_first (id := id) (A := A6) (c := c6) (ls := ms) (r := r9)) (by show ms.length ≤ 1000; omega)
            go_wp2_with fail
            refine Calls.mono qG ?_
            clear qG
            rintro e wa ⟨Aa, ca, rfl, HMa, Fa⟩
            simp only
            have hsa := Fa.out.size
            have HKa := Lib.hid ((HK9.out.fr (Fr.of_below Fa.out) (fun _ _ _ h => h)).fr ((Fr.refl (fun _ => False) wa).alloc (.cells #[.int .u32 id, .slice Aa ms.length ca] 25)) (fun _ _ _ h => h))
            have HXa := Lib.hid ((HX9.out.below Fa.out HX9.out.lt).alloc (.cells #[.int .u32 id, .slice Aa ms.length ca] 25))
            have HM2a := Lib.hid ((HM9.out.fr (Fr.of_below Fa.out) (fun _ _ h => h)).fr ((Fr.refl (fun _ => False) wa).alloc (.cells #[.int .u32 id, .slice Aa ms.length ca] 25)) (fun _ _ h => h))
            have HMa' := Lib.hid (HMa.out.fr ((Fr.refl (fun _ => False) wa).alloc (.cells #[.int .u32 id, .slice Aa ms.length ca] 25)) (fun _ _ h => h))
            have HNa := Lib.hid (Blk.new wa 25 #[.int .u32 id, .slice Aa ms.length ca])
            have Da := Lib.hid ((D9.out.trans (Fa.out.mono D9.out.size)).alloc (Nat.le_trans D9.out.size hsa) (.cells #[.int .u32 id, .slice Aa ms.length ca] 25))
            clear HK9 HX9 HM9 D9 HMa Fa x0 x1
            have qO := OpenC HKa.out (by simp; omega)
            rw [List.length_cons] at qO
            obtain ⟨N, hN⟩ : ∃ N, N = r9.length + 1 := ⟨_, rfl⟩
            have hN1 : 1 ≤ N := by omega
            have hN2 : N ≤ 16 := by omega
            have hN0 : 0 < N := by omega
            have hN0i : (0 : Int) < (N : Int) := by omega
            have hN1' : (1 : Int) ≤ (N : Int) := by omega
            have hN2' : (N : Int) ≤ 16 := by omega
            rw [← hN] at qO
            clear hN
            go_wp2_with fail
            generalize wa.alloc (.cells #[.int .u32 id, .slice Aa ms.length ca] 25) = Wa at *
            generalize wa.heap.size = pa at *
            refine Calls.mono qO ?_
            clear qO
            rintro e wb ⟨vb, rfl, HOb, Fb⟩
            obtain ⟨gb, cb, rfl, -, hgb⟩ := HOb.out.form (by omega)
            have yb : wb.cell? ⟨gb, 0, none⟩ = some (.int .u32 id) := (HOb.out.cellAt 0 (by omega)).trans (by simp [nums])
            have HKb := Lib.hid (HKa.out.fr (Fr.of_below Fb.out) (fun _ _ _ h => h))
            have hXb := HXa.out.below Fb.out HXa.out.lt
            have u0 := hXb.cell 0
            have u1 := hXb.cell 1
            have hNb := HNa.out.below Fb.out HNa.out.lt
            have t0 := hNb.cell 0
            have t1 := hNb.cell 1
            have HXb := Lib.hid hXb
            have HMb := Lib.hid (HM2a.out.fr (Fr.of_below Fb.out) (fun _ _ h => h))
            have HMb' := Lib.hid (HMa'.out.fr (Fr.of_below Fb.out) (fun _ _ h => h))
            have Db := Lib.hid (Da.out.trans (Fb.out.mono Da.out.size))
            clear HKa HXa HM2a HMa' HNa Da Fb hXb hNb HOb
            have qS := SameC (i := id) (j := id) (c := ca) (d := c2) HMb'.out.2.1 HMb.out.2.1 (by omega)
            rw [show decide (id = id ∧ ms = ms) = true by simp] at qS
            go_wp2_with fail
            refine Calls.mono qS ?_
            clear qS
            rintro e wc ⟨rfl, Fc⟩
            have yc : wc.cell? ⟨gb, 0, none⟩ = some (.int .u32 id) := (Fc.out.cell (p := ⟨gb, 0, none⟩) hgb).trans yb
            have hXc := HXb.out.below Fc.out HXb.out.lt
            have u0 := hXc.cell 0
            have HXc := Lib.hid hXc
            have HKc := Lib.hid (HKb.out.fr (Fr.of_below Fc.out) (fun _ _ _ h => h))
            have HMc := Lib.hid (HMb.out.fr (Fr.of_below Fc.out) (fun _ _ h => h))
            have Dc := Lib.hid (Db.out.trans (Fc.out.mono Db.out.size))
            clear HKb HXb HMb HMb' Db Fc hXc yb u1 t0 t1
            go_wp2_with fail
            go_quiet (fail)
            go_wp2
            go_roundw
            case rel => exact ⟨k + 1, v9, _, ids9, by go_num, by omega, by omega, ⟨A6, c6, r9, rfl, hr9⟩, by omega, HI9.out, HKc.out.fr (((Fr.refl (fun _ => False) _).drewN _)) (fun _ _ _ h => h), HXc.out, HMc.out.fr ((Fr.refl (fun _ => False) _).drewN _) (fun _ _ h => h), below_drewN Dc.out _⟩
            case measure => simp [intOf]; omega
          · have z1' : (sk == 1) = false := by simpa using z1
            have z2' : (sk == 2) = false := by simpa using z2
            have z3' : (sk == 3) = false := by simpa using z3
            have z4' : (sk == 4) = false := by simpa using z4
            obtain ⟨r9, hr9e⟩ : ∃ r9, r9 = r := ⟨_, rfl⟩
            obtain ⟨ids9, hids9⟩ : ∃ ids9, ids9 = ids := ⟨_, rfl⟩
            obtain ⟨v9, hv9⟩ : ∃ v9, v9 = v := ⟨_, rfl⟩
            have HK9 : Hid (Bk B0 b g v9 (⟨id, A6, c6, ms⟩ :: r9) ids9 (wr.alloc (.cells #[.int .i64 sk, .int .u32 so, .slice sA sl.length sc, .int .u32 si] 48))) := Lib.hid (by rw [hr9e, hids9, hv9]; exact HK1.out)
            have hr9 : r9.length + 1 ≤ 16 := by rw [hr9e]; exact hrl
            have hi9 : ids9.length ≤ k + 2 := by rw [hids9]; omega
            have HI9 : Hid (id ∈ ids9) := Lib.hid (by rw [hids9]; exact HIDM.out)
            have hb9 := HX1.out
            have HM9 := HM1
            have D9 := HF1
            clear hr9e hids9 hv9 HK1 HX1 HM1 HF1
            have x0 := hb9.cell 0
            have x1 := hb9.cell 1
            have HX9 := Lib.hid hb9
            clear hb9
            have qG := GetC (k := 0) HK9.out (by simp; omega) rfl (idxO_first (id := id) (A := A6) (c := c6) (ls := ms) (r := r9)) (by show ms.length ≤ 1000; omega)
            go_wp2_with fail
            generalize wr.alloc (.cells #[.int .i64 sk, .int .u32 so, .slice sA sl.length sc, .int .u32 si] 48) = w9 at *
            refine Calls.mono qG ?_
            clear qG
            rintro e wa ⟨Aa, ca, rfl, HMa, Fa⟩
            simp only
            have hsa := Fa.out.size
            have HKa := Lib.hid ((HK9.out.fr (Fr.of_below Fa.out) (fun _ _ _ h => h)).fr ((Fr.refl (fun _ => False) wa).alloc (.cells #[.int .u32 id, .slice Aa ms.length ca] 25)) (fun _ _ _ h => h))
            have HXa := Lib.hid ((HX9.out.below Fa.out HX9.out.lt).alloc (.cells #[.int .u32 id, .slice Aa ms.length ca] 25))
            have HM2a := Lib.hid ((HM9.out.fr (Fr.of_below Fa.out) (fun _ _ h => h)).fr ((Fr.refl (fun _ => False) wa).alloc (.cells #[.int .u32 id, .slice Aa ms.length ca] 25)) (fun _ _ h => h))
            have HMa' := Lib.hid (HMa.out.fr ((Fr.refl (fun _ => False) wa).alloc (.cells #[.int .u32 id, .slice Aa ms.length ca] 25)) (fun _ _ h => h))
            have HNa := Lib.hid (Blk.new wa 25 #[.int .u32 id, .slice Aa ms.length ca])
            have Da := Lib.hid ((D9.out.trans (Fa.out.mono D9.out.size)).alloc (Nat.le_trans D9.out.size hsa) (.cells #[.int .u32 id, .slice Aa ms.length ca] 25))
            clear HK9 HX9 HM9 D9 HMa Fa x0 x1
            have qO := OpenC HKa.out (by simp; omega)
            rw [List.length_cons] at qO
            obtain ⟨N, hN⟩ : ∃ N, N = r9.length + 1 := ⟨_, rfl⟩
            have hN1 : 1 ≤ N := by omega
            have hN2 : N ≤ 16 := by omega
            have hN0 : 0 < N := by omega
            have hN0i : (0 : Int) < (N : Int) := by omega
            have hN1' : (1 : Int) ≤ (N : Int) := by omega
            have hN2' : (N : Int) ≤ 16 := by omega
            rw [← hN] at qO
            clear hN
            go_wp2_with fail
            generalize wa.alloc (.cells #[.int .u32 id, .slice Aa ms.length ca] 25) = Wa at *
            generalize wa.heap.size = pa at *
            refine Calls.mono qO ?_
            clear qO
            rintro e wb ⟨vb, rfl, HOb, Fb⟩
            obtain ⟨gb, cb, rfl, -, hgb⟩ := HOb.out.form (by omega)
            have yb : wb.cell? ⟨gb, 0, none⟩ = some (.int .u32 id) := (HOb.out.cellAt 0 (by omega)).trans (by simp [nums])
            have HKb := Lib.hid (HKa.out.fr (Fr.of_below Fb.out) (fun _ _ _ h => h))
            have hXb := HXa.out.below Fb.out HXa.out.lt
            have u0 := hXb.cell 0
            have u1 := hXb.cell 1
            have hNb := HNa.out.below Fb.out HNa.out.lt
            have t0 := hNb.cell 0
            have t1 := hNb.cell 1
            have HXb := Lib.hid hXb
            have HMb := Lib.hid (HM2a.out.fr (Fr.of_below Fb.out) (fun _ _ h => h))
            have HMb' := Lib.hid (HMa'.out.fr (Fr.of_below Fb.out) (fun _ _ h => h))
            have Db := Lib.hid (Da.out.trans (Fb.out.mono Da.out.size))
            clear HKa HXa HM2a HMa' HNa Da Fb hXb hNb HOb
            have qS := SameC (i := id) (j := id) (c := ca) (d := c2) HMb'.out.2.1 HMb.out.2.1 (by omega)
            rw [show decide (id = id ∧ ms = ms) = true by simp] at qS
            go_wp2_with fail
            refine Calls.mono qS ?_
            clear qS
            rintro e wc ⟨rfl, Fc⟩
            have yc : wc.cell? ⟨gb, 0, none⟩ = some (.int .u32 id) := (Fc.out.cell (p := ⟨gb, 0, none⟩) hgb).trans yb
            have hXc := HXb.out.below Fc.out HXb.out.lt
            have u0 := hXc.cell 0
            have HXc := Lib.hid hXc
            have HKc := Lib.hid (HKb.out.fr (Fr.of_below Fc.out) (fun _ _ _ h => h))
            have HMc := Lib.hid (HMb.out.fr (Fr.of_below Fc.out) (fun _ _ h => h))
            have Dc := Lib.hid (Db.out.trans (Fc.out.mono Db.out.size))
            clear HKb HXb HMb HMb' Db Fc hXc yb u1 t0 t1
            go_wp2_with fail
            go_quiet (fail)
            go_wp2
            go_roundw
            case rel => exact ⟨k + 1, v9, _, ids9, by go_num, by omega, by omega, ⟨A6, c6, r9, rfl, hr9⟩, by omega, HI9.out, HKc.out.fr (((Fr.refl (fun _ => False) _).drewN _)) (fun _ _ _ h => h), HXc.out, HMc.out.fr ((Fr.refl (fun _ => False) _).drewN _) (fun _ _ h => h), below_drewN Dc.out _⟩
            case measure => simp [intOf]; omega
      · rcases (by omega : (¬ k < l.length) ∨ (k < l.length ∧ ¬ k < 60)) with h1 | ⟨h1, h2⟩
        all_goals
          have hx := HBX.out
          have x0 := hx.cell 0
          have x1 := hx.cell 1
          clear hx
          have qA := AddTwice (id := id) HBK.out hid HM.out.2.1 (Nat.le_refl _) (by omega) hcm HOK.out hr HIDM.out
          go_wp2_with fail
          refine Calls.mono qA ?_
          clear qA
          rintro e wa ⟨rfl, Fa⟩
          have HKa := Lib.hid (HBK.out.fr (Fr.of_below Fa.out) (fun _ _ _ h => h))
          have hxa := HBX.out.below Fa.out HBX.out.lt
          have x0 := hxa.cell 0
          have HXa := Lib.hid hxa
          have HMa := Lib.hid (HM.out.fr (Fr.of_below Fa.out) (fun _ _ h => h))
          have Da := Lib.hid (HF.out.trans (Fa.out.mono HF.out.size))
          clear hxa
          have qC := CloseC (k := 0) HKa.out (by simp; omega) idxO_first
          go_wp2_with fail
          refine Calls.mono qC ?_
          clear qC
          rintro e wb ⟨rfl, vb, -, HKb, HFb⟩
          have hfb := Fr.cl (v' := v) (g := g) HFb.out
          have hxb := HKa.out.keepB hfb HXa.out hpB
          have x0 := hxb.cell 0
          have x1 := hxb.cell 1
          have HMb := Lib.hid (HKa.out.keepL hfb HMa.out)
          have Db := Lib.hid (HKa.out.keepD hfb Da.out (by omega) (Nat.le_refl _))
          clear hxb
          have qA := AddTwice (id := id) HKb.out hid HMb.out.2.1 (Nat.le_refl _) (by omega) hcm HOK.out hr HIDM.out
          go_wp2_with fail
          refine Calls.mono qA ?_
          clear qA
          rintro e wd ⟨rfl, Fd⟩
          go_wp2
          go_ret
          exact ⟨rfl, Db.out.trans (Fd.out.mono Db.out.size)⟩
  · have qA := AddNo (p := .pointer (some ⟨b, 0, none⟩)) (id := id) HM5.out.2.1 (Nat.le_refl _) (by omega) hcm HOK.out hr
    have qR := fun w' (h : Below w5.heap.size w5 w') => RightE (id := id) (HM5.out.2.1.now h) rfl (by omega) hcm HOK.out rfl
    generalize rightO ms = rv at *
    have hr1 : (rv == 0) = false := by simpa using hr
    have hr2 : (rv != 0) = true := by simpa using hr
    have HR := Lib.hid qR
    clear qR
    go_wp2_with fail
    refine Calls.mono qA ?_
    clear qA
    rintro e w6 ⟨rfl, F6⟩
    have hb6 := HB5.out.below F6.out HB5.out.lt
    have x0 := hb6.cell 0
    have x1 := hb6.cell 1
    have HB6 := Lib.hid hb6
    have qO := OpenC (HK5.out.fr (Fr.of_below F6.out) (fun _ _ _ h => h)) (by simp)
    clear hb6
    go_wp2_with fail
    refine Calls.mono qO ?_
    clear qO
    rintro e w7 ⟨v7, rfl, HO7, F7⟩
    obtain ⟨A7, c7, rfl, -⟩ := own_form HO7.out
    have hb7 := HB6.out.below F7.out HB6.out.lt
    have x0 := hb7.cell 0
    have x1 := hb7.cell 1
    have D7 := F6.out.trans (F7.out.mono F6.out.size)
    have qR := HR.out w7 D7
    have D7' := Lib.hid (D5.out.trans (D7.mono D5.out.size))
    clear hb7 D7
    go_wp2_with fail
    refine Calls.mono qR ?_
    clear qR
    rintro e w8 ⟨rfl, F8⟩
    go_wp2
    go_ret
    exact ⟨rfl, D7'.out.trans (F8.out.mono D7'.out.size)⟩
end Go.Proofs.YtigknfkkegccgaaDoor.K
