/- The walk of CrcAppends. -/
import Derived.Test.YtimlkmblfjoigaaDoorCw
namespace Go.Proofs.YtimlkmblfjoigaaDoor.K
open Go.RowKit
set_option linter.unusedVariables false
set_option linter.unusedSimpArgs false
attribute [local go_sem] min2_min min_two
attribute [local go_sem ↓] Go.wp_at_zero Go.wp_at_succ
theorem sealed_valid {l m : List Int} {M : Nat} (h : Sealed l m M) (h2 : 2 ≤ M) : valid m = true := by rw [valid_iff h.inB (by rw [h.len]; omega), h.zero]; rfl
theorem own_put3 {base : Nat} {e : TypeId} {w : World} {A : Option Addr} {n c : Nat} {xs : List Value} {i : Nat} (h : w.ownsRow base e 1 (.slice A n c) n xs) (hi : i < n) :
    ∃ g x, A = some ⟨g, 0, none⟩ ∧ base ≤ g ∧ g < w.heap.size ∧ w.cell? ⟨g, i, none⟩ = some x ∧ w.frozen? ⟨g, i, none⟩ = false ∧ ∀ u, (w.setCell ⟨g, i, none⟩ u).ownsRow base e 1 (.slice (some ⟨g, 0, none⟩) n c) n (xs.set i u) := by
  obtain ⟨g, cap, hv, hb, hlt⟩ := h.form (by omega)
  have hA : A = some ⟨g, 0, none⟩ := by injection hv
  subst hA
  have hl : i < xs.length := by have := h.1; omega
  exact ⟨g, xs[i], rfl, hb, hlt, (h.cellAt i (by omega)).trans (List.getElem?_eq_getElem hl), h.frozenAt i, fun u => (h.stored i u).1⟩
set_option maxHeartbeats 8000000 in
set_option maxRecDepth 10000 in
theorem capp_walk (A : Option Addr) (c : Nat) (zs : List Int) (hc : zs.length ≤ c) (hcm : c ≤ 9223372036854775807) (w : World) (hT : Turns w) (h0 : RowOf c8 1 w w.heap.size A zs) (b0 : InB zs) :
    Calls Tryd.prog 6 #[.slice A zs.length c] w fun e w' => e = .returned (.bool true) ∧ Below w.heap.size w w' := by
  obtain ⟨n, hn, hn1, hn2⟩ := min_nat zs.length 3000
  have hcut := fun W => bcut_hi A zs.length c n (by omega) W
  obtain ⟨l, hl⟩ : ∃ l, l = zs.take n := ⟨_, rfl⟩
  have hln : n = l.length := by rw [hl, List.length_take]; omega
  subst hln
  have HR := Lib.hid (hl ▸ h0.take_ l.length : RowOf c8 1 w w.heap.size A l)
  have HI := Lib.hid (hl ▸ b0.take_ l.length : InB l)
  clear h0 b0 hl hc
  have hmin : min (zs.length : Int) 3000 = (l.length : Int) := hn
  have HTB : Hid (∀ w' : World, Below w.heap.size w w' → Turns w') := Lib.hid (fun w' b => hT.below b hT.lt)
  obtain ⟨m, hS⟩ := sealed_of HI.out
  obtain ⟨M, hM⟩ : ∃ M, l.length + 2 = M := ⟨_, rfl⟩
  rw [hM] at hS
  have HS := Lib.hid hS
  obtain ⟨m2, hS2⟩ := sealed_of HS.out.inB
  rw [HS.out.len] at hS2
  have HS2 := Lib.hid hS2
  obtain ⟨X, hX⟩ : ∃ X, crcN l = X := ⟨_, rfl⟩
  have HX := Lib.hid hX
  have hXb := crcN_bound l
  rw [hX] at hXb
  obtain ⟨hX0, hX1⟩ := hXb
  have hbe : m = l ++ [X / 256, X % 256] := by rw [← HS.out.made, hX, be_two _ hX0 hX1]
  have HBE := Lib.hid hbe
  have HM := Lib.hid hM
  have hMi : (l.length : Int) + 2 = (M : Int) := by omega
  have HV := Lib.hid (sealed_valid HS.out (by omega))
  have HV2 := Lib.hid (sealed_valid HS2.out (by omega))
  have hM3 : M ≤ 3002 := by omega
  have HMT : Hid (m.take l.length = l) := Lib.hid (by rw [hbe]; simp)
  have HL0 : Hid (m.getD l.length 0 = X / 256) := Lib.hid (by rw [hbe]; simp)
  have HL1 : Hid (m.getD (l.length + 1) 0 = X % 256) := Lib.hid (by rw [hbe]; simp)
  clear hS hS2 hX hbe hn hn1 hM
  go_enter Tryd.func6, Tryd.ntmps6
  go_wp2_with fail
  refine (shown2_walk hT).mono ?_
  rintro e w1 ⟨rfl, H1⟩
  have HR1 := Lib.hid (HR.out.now H1.out)
  go_wp2_with (at_builtin; refine appR (c := c8) rfl _ _ _ rfl 5 (.int .u8 0) 1 1 Tryd.underlying23 info_u8 rfl (by omega) (by omega) (fun _ => rfl) (fun y u hu => by simp at hu; subst hu; rfl) w1.heap.size w1.heap.size _ [] l _ _ rfl rfl (RowOf.below HR1.out ((Below.refl _ w1).alloc (Nat.le_refl _) _)) (World.ownsRow_lit w1 #[] 0 (Nat.le_refl _) (by decide) rfl) (by simp) (by simp only [List.length_nil]; omega) ?_; intro v2 w2 h3 h4 h5; have F2 := Lib.hid (lit_fr h4 (fun k hk => Nat.le_of_eq (Option.some.inj hk))); obtain ⟨A1, c1, rfl, hm1⟩ := made_of (B := w1.heap.size) (v := v2) (l := l) (by rw [nums_flat]; exact h3); have HM1 := Lib.hid hm1; have hs2 : (convert 23 9 (.slice A1 l.length c1)).run Tryd.prog w2 = .ok (.string (strOfNums l)) w2 := str_n rfl hm1.2.1; clear h3 h4 h5 hm1)
  have B2 := Lib.hid (fr0_below H1.out F2.out (Nat.le_refl _))
  have hw1 := H1.out.size
  have hw2 := F2.out.size
  clear F2
  refine Calls.mono (CAppendE rfl HM.out HS.out.made (Same.refl w2) (HTB.out _ B2.out) HM1.out.2.1 (fun ad e => (made_lt HM1.out ad e).2) HI.out (by have := HM.out; omega)) ?_
  rintro e w3 ⟨A5, c5, rfl, H5, F5⟩
  have HT3 := Lib.hid ((HTB.out _ B2.out).below F5.out (HTB.out _ B2.out).lt)
  go_wp2_with fail
  refine Calls.mono (CBitsM (w := w3) (x := X) (cs := #[.slice A1 l.length c1]) (ps := [(A1, c1, l)]) rfl rfl ⟨rfl, rfl, rfl, rfl⟩ rfl HT3.out (Parts.cons (HM1.out.2.1.now F5.out) HI.out (by omega) (Parts.nil _)) (by decide) (by rw [flat_one]; exact HX.out)) ?_
  rintro e w4 ⟨rfl, H4⟩
  have HP4 := Lib.hid (H5.out.below H4.out (Nat.le_refl _))
  have F4 := Lib.hid (F5.out.trans (H4.out.mono F5.out.size))
  have hT4 := (HTB.out _ B2.out).below F4.out (HTB.out _ B2.out).lt
  have hM5 : M ≤ c5 := by have := H5.out.2.2; rwa [HS.out.len] at this
  have hhi := fun W => bcut_hi A5 M c5 l.length (by omega) W
  have hs4 : (convert 23 9 (.slice A5 l.length c5)).run Tryd.prog w4 = .ok (.string (strOfNums l)) w4 := str_n rfl (HMT.out ▸ HP4.out.2.1.take_ l.length)
  clear H5 F5 H4 hs2 HT3
  go_wp2_with fail
  refine Calls.mono (CValidS (w := w4) HS.out.len HV.out (Same.refl w4) hT4 HP4.out HS.out.inB (by omega)) ?_
  rintro e w5 ⟨rfl, H5⟩
  have HP5 := Lib.hid (HP4.out.below H5.out (Nat.le_refl _))
  have F5 := Lib.hid (F4.out.trans (H5.out.mono F4.out.size))
  obtain ⟨L, hL⟩ : ∃ L, L = l.length := ⟨_, rfl⟩
  obtain ⟨L1, hL1⟩ : ∃ L1, L1 = L + 1 := ⟨_, rfl⟩
  have HLl := Lib.hid hL
  have hLM : L < M := by omega
  have hL1M : L1 < M := by omega
  have hL1i : (L : Int) + 1 = (L1 : Int) := by omega
  obtain ⟨ad, rfl, _, k1⟩ := HP5.out.2.1.num (i := L) (by rw [HS.out.len]; exact hLM)
  obtain ⟨ad', e', _, k2⟩ := HP5.out.2.1.num (i := L1) (by rw [HS.out.len]; exact hL1M)
  injection e' with e'
  subst e'
  rw [hL1, hL, HL1.out, ← hL, ← hL1] at k2
  rw [hL, HL0.out, ← hL] at k1
  rw [← hL] at hMi ⊢
  clear hs4 hhi H5 F4 hT4 HP4 hL hL1
  go_wp2_with fail
  clear k1 k2 hL1i hL1M hLM hMi
  go_loopw [7] (fun i wr => ∃ (k : Nat) (xs : List Value), i = .int .i64 k ∧ k ≤ M ∧ wr.ownsRow w2.heap.size 5 1 (.slice (some ad) M c5) M xs ∧ Below w2.heap.size w2 wr) (fun i _ => M - (intOf i).toNat)
  case atStart => exact ⟨0, _, rfl, by omega, by have := HP5.out.1; rw [HS.out.len] at this; exact this, F5.out⟩
  case round =>
    obtain ⟨k, xs, rfl, hk, hx, hf⟩ := hrel
    have HF := Lib.hid hf
    clear hf
    by_cases hgo : k < M
    · obtain ⟨g, x, e, hbg, hlg, hcx, hfx, hst⟩ := own_put3 hx hgo
      injection e with e
      subst e
      have HST := Lib.hid hst
      clear hst hx
      go_wp2
      go_roundw
      case rel => exact ⟨k + 1, _, by go_num, by omega, HST.out _, set_below HF.out hbg⟩
      case measure => simp [intOf]; omega
    · obtain rfl : M = k := by omega
      have HRr := Lib.hid (HM1.out.2.1.now HF.out)
      have hsr : (convert 23 9 (.slice A1 L c1)).run Tryd.prog wr = .ok (.string (strOfNums l)) wr := str_n HLl.out.symm HRr.out
      have BR := Lib.hid (B2.out.trans (HF.out.mono B2.out.size))
      have hwr := HF.out.size
      clear hx HF
      go_wp2_with fail
      refine Calls.mono (CAppendE HLl.out.symm (by have := HM.out; have := HLl.out; omega : L + 2 = M) HS.out.made (Same.refl wr) (HTB.out _ BR.out) HRr.out (fun ad e => Nat.lt_of_lt_of_le (made_lt HM1.out ad e).2 hwr) HI.out (by have := HM.out; have := HLl.out; omega)) ?_
      rintro e w6 ⟨A6, c6, rfl, H6, F6⟩
      have B6 := Lib.hid (BR.out.trans (F6.out.mono BR.out.size))
      obtain ⟨M2, hM2⟩ : ∃ M2, M + 2 = M2 := ⟨_, rfl⟩
      have HM2 := Lib.hid hM2
      have HS3 : Hid (Sealed m m2 M2) := Lib.hid (hM2 ▸ HS2.out)
      clear hM2 hsr
      go_wp2_with fail
      refine Calls.mono (CAppendE HS.out.len HM2.out HS3.out.made (Same.refl w6) (HTB.out _ B6.out) H6.out.2.1 (fun ad e => (made_lt H6.out ad e).2) HS.out.inB (by omega)) ?_
      rintro e w7 ⟨A7, c7, rfl, H7, F7⟩
      have B7 := Lib.hid (B6.out.trans (F7.out.mono B6.out.size))
      go_wp2_with fail
      refine Calls.mono (CValidS (w := w7) HS3.out.len HV2.out (Same.refl w7) (HTB.out _ B7.out) H7.out HS3.out.inB (by have := HM2.out; omega)) ?_
      rintro e w8 ⟨rfl, H8⟩
      go_wp2
      go_ret
      exact ⟨rfl, B7.out.trans (H8.out.mono B7.out.size)⟩
end Go.Proofs.YtimlkmblfjoigaaDoor.K
