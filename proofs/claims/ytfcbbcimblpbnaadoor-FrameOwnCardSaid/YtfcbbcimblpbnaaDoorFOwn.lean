/- The walk of FrameOwn. -/
import Derived.Test.YtfcbbcimblpbnaaDoorF6
namespace Go.Proofs.YtfcbbcimblpbnaaDoor.K
open Go.RowKit
set_option linter.unusedVariables false
set_option linter.unusedSimpArgs false
attribute [local go_sem] min2_min min_two
set_option maxHeartbeats 2000000 in
set_option maxRecDepth 10000 in
theorem fown_walk (f : Fp) (hf : f.ok) (A : Option Addr) (c : Nat) (hc : f.B.length ≤ c) (w : World) (hT : Turns w) (hR : RowOf c8 1 w w.heap.size A f.B) :
    Calls Tryd.prog 7 #[.agg #[.int .u8 f.addr, .int .u8 f.kind, .int .u8 f.ses, .int .u8 f.seq, .int .u8 f.ack, .slice A f.B.length c]] w fun e w' => e = .returned (.bool true) ∧ Below w.heap.size w w' := by
  have HTB : Hid (∀ w' : World, Below w.heap.size w w' → Turns w') := Lib.hid (fun w' b => hT.below b hT.lt)
  obtain ⟨l, hl⟩ : ∃ l, f.B.take 50 = l := ⟨_, rfl⟩
  have HL := Lib.hid hl
  have HR := Lib.hid hR
  have HOK : Hid ((⟨f.addr, f.kind, f.ses, f.seq, f.ack, l⟩ : Fp).ok) := Lib.hid (hl ▸ ok_few hf)
  have HB0 : Hid (Below w.heap.size w (w.alloc (.cells #[.int .u8 f.addr, .int .u8 f.kind, .int .u8 f.ses, .int .u8 f.seq, .int .u8 f.ack, .slice A f.B.length c] 24))) := Lib.hid ((Below.refl _ w).alloc (Nat.le_refl _) _)
  have HK0 : Hid (Blk (w.alloc (.cells #[.int .u8 f.addr, .int .u8 f.kind, .int .u8 f.ses, .int .u8 f.seq, .int .u8 f.ack, .slice A f.B.length c] 24)) w.heap.size 24 (fvs f A c)) := Lib.hid (Blk.new w _ _)
  clear hl hf hR
  go_enter Tryd.func7, Tryd.ntmps7
  go_wp2_with fail
  refine (shown4_walk (HTB.out _ HB0.out)).mono ?_
  rintro e w1 ⟨rfl, H1⟩
  have hk1 := HK0.out.fr (Fr.of_below H1.out) (fun h => h)
  have B1 := Lib.hid (HB0.out.trans (H1.out.mono HB0.out.size))
  obtain ⟨k0, k1, k2, k3, k4, k5⟩ := fvs_cells hk1
  have HRN := Lib.hid (HR.out.now B1.out)
  have HK1 := Lib.hid hk1
  have hw1 := hk1.lt
  clear HK0 HB0 H1 hk1
  go_wp2_with fail
  refine Calls.mono (few4L f A c l HL.out w1 hc HRN.out) ?_
  rintro e w2 ⟨A2, c2, rfl, M2, D2⟩
  have B2 := Lib.hid (B1.out.trans (D2.out.mono B1.out.size))
  have hk2 := HK1.out.fr (Fr.of_below D2.out) (fun h => h)
  obtain ⟨m0, m1, m2, m3, m4, m5⟩ := fvs_cells hk2
  have mf0 := hk2.frozen 0
  have mf1 := hk2.frozen 1
  have mf2 := hk2.frozen 2
  have mf3 := hk2.frozen 3
  have mf4 := hk2.frozen 4
  have mf5 := hk2.frozen 5
  have FS := Lib.hid (st6_fr w2 w.heap.size ⟨f.addr, f.kind, f.ses, f.seq, f.ack, l⟩ A2 c2)
  have HK2 := Lib.hid (st6_blk (f := ⟨f.addr, f.kind, f.ses, f.seq, f.ack, l⟩) (A := A2) (c := c2) hk2)
  have hs2 := D2.out.size
  have M2' : Hid (Made w1.heap.size A2 c2 l (st6 w2 w.heap.size ⟨f.addr, f.kind, f.ses, f.seq, f.ack, l⟩ A2 c2)) := Lib.hid (M2.out.fr FS.out (fun j e => by have := (M2.out.1.lt j e).1; omega))
  have B2' : Hid (Below w.heap.size w (st6 w2 w.heap.size ⟨f.addr, f.kind, f.ses, f.seq, f.ack, l⟩ A2 c2)) := Lib.hid (below_fr B2.out FS.out B2.out.size (fun j e => by omega))
  have sl : (convert 22 9 (.slice A2 l.length c2)).run Tryd.prog (st6 w2 w.heap.size ⟨f.addr, f.kind, f.ses, f.seq, f.ack, l⟩ A2 c2) = .ok (.string (strOfNums l)) (st6 w2 w.heap.size ⟨f.addr, f.kind, f.ses, f.seq, f.ack, l⟩ A2 c2) := str_row M2'.out.2.1
  obtain ⟨L, e, hL⟩ : ∃ L e, encA ⟨f.addr, f.kind, f.ses, f.seq, f.ack, l⟩ = (L, e) := ⟨_, _, rfl⟩
  obtain ⟨M, hM⟩ : ∃ M, L.length = M := ⟨_, rfl⟩
  have HLA := Lib.hid hL
  have HM := Lib.hid hM
  have hM64 : M ≤ 64 := by
    rw [← hM]
    unfold encA at hL
    split at hL
    · rename_i hr
      obtain ⟨rfl, _⟩ := Prod.mk.inj hL
      exact encL_le hr
    · obtain ⟨rfl, _⟩ := Prod.mk.inj hL; simp
  have hel : InB L := by
    unfold encA at hL
    split at hL
    · rename_i hr
      obtain ⟨rfl, _⟩ := Prod.mk.inj hL
      exact encL_inB HOK.out hr
    · obtain ⟨rfl, _⟩ := Prod.mk.inj hL; intro x hx; cases hx
  have HLI := Lib.hid hel
  clear k0 k1 k2 k3 k4 k5 HRN hk2 FS D2 HK1 M2 B2 hL hM hel
  go_wp2_with fail
  clear m0 m1 m2 m3 m4 m5 mf0 mf1 mf2 mf3 mf4 mf5 sl
  generalize st6 w2 w.heap.size ⟨f.addr, f.kind, f.ses, f.seq, f.ack, l⟩ A2 c2 = W2 at *
  have hwW := HK2.out.lt
  refine Calls.mono (EncodeAny HOK.out HLA.out rfl HM.out W2 (HTB.out _ B2'.out) M2'.out.2.1 (fun ad e => (made_lt M2'.out ad e).2)) ?_
  rintro ee w3 ⟨A3, c3, rfl, M3, D3⟩
  have B3 := Lib.hid (B2'.out.trans (D3.out.mono B2'.out.size))
  have sL : (convert 22 9 (.slice A3 M c3)).run Tryd.prog w3 = .ok (.string (strOfNums L)) w3 := str_n HM.out M3.out.2.1
  have HO3 : Hid (w3.ownsRow W2.heap.size 5 1 (.slice A3 M c3) M (nums .u8 L)) := Lib.hid (by have := M3.out.1; rwa [HM.out] at this)
  have hs3 := D3.out.size
  have FK3 := Lib.hid (HK2.out.fr (Fr.of_below D3.out) (fun h => h))
  have ML3 := Lib.hid (M2'.out.below D3.out (Nat.le_refl _))
  have hl50 : l.length ≤ 50 := by rw [← HL.out, List.length_take]; omega
  have hA2 := made_lt M2'.out
  have HA2 := Lib.hid hA2
  clear M3 D3 hA2
  go_wp2
  clear sL
  go_loopw [8] (fun i wr => ∃ (k : Nat) (xs : List Value), i = .int .i64 k ∧ k ≤ M ∧ wr.ownsRow W2.heap.size 5 1 (.slice A3 M c3) M xs ∧ Fr (fun j => W2.heap.size ≤ j) w3 wr) (fun i _ => M - (intOf i).toNat)
  case atStart => exact ⟨0, _, rfl, by omega, HO3.out, Fr.refl _ _⟩
  case round =>
    obtain ⟨k, xs, rfl, hk, hx, hfr⟩ := hrel
    by_cases hgo : k < M
    · obtain ⟨g, x, rfl, hbg, hlg, hcx, hfx, hst⟩ := own_put4 hx hgo
      have HF := Lib.hid hfr
      have HST := Lib.hid hst
      clear hfr hst hx
      go_wp2
      go_roundw
      case rel => exact ⟨k + 1, _, by go_num, by omega, HST.out _, HF.out.setCell (p := ⟨g, k, none⟩) (fun _ => hbg) _⟩
      case measure => simp [intOf]; omega
    · obtain rfl : M = k := by omega
      have HF := Lib.hid hfr
      have HK4 := FK3.out.fr hfr (by omega)
      obtain ⟨m0, m1, m2, m3, m4, m5⟩ := fvs_cells HK4
      have FK4 := Lib.hid HK4
      have ML4 := Lib.hid (ML3.out.fr hfr (fun j e => by have := HA2.out ⟨j, 0, none⟩; have h5 := (M2'.out.1.lt j e).2; omega))
      have B4 := Lib.hid (below_fr B3.out hfr B3.out.size (fun j e => by have := B2'.out.size; omega))
      have hs4 := hfr.size
      clear hfr hx HK4 FK3 ML3 HO3
      go_wp2_with fail
      refine Calls.mono (EncodeAny HOK.out HLA.out rfl HM.out wr (HTB.out _ B4.out) ML4.out.2.1 (fun ad e => (made_lt ML4.out ad e).2)) ?_
      rintro ee w5 ⟨A5, c5, rfl, M5, D5⟩
      have B5 := Lib.hid (B4.out.trans (D5.out.mono B4.out.size))
      have hs5 := D5.out.size
      have hk5 := FK4.out.fr (Fr.of_below D5.out) (fun h => h)
      have ML5 := Lib.hid (ML4.out.below D5.out (Nat.le_refl _))
      have s1 : (convert 22 9 (.slice A5 M c5)).run Tryd.prog w5 = .ok (.string (strOfNums L)) w5 := str_n HM.out M5.out.2.1
      have s2 : (convert 22 9 (.slice A2 l.length c2)).run Tryd.prog w5 = .ok (.string (strOfNums l)) w5 := str_row ML5.out.2.1
      obtain ⟨n0, n1, n2, n3, n4, n5⟩ := fvs_cells hk5
      clear m0 m1 m2 m3 m4 m5 D5 hk5 FK4 ML4 HF
      cases hr : rightF ⟨f.addr, f.kind, f.ses, f.seq, f.ack, l⟩ with
      | false =>
        obtain ⟨_, rfl⟩ : L = [] ∧ e = 1 := by have := HLA.out; unfold encA at this; rw [hr] at this; simp at this; exact ⟨this.1, this.2.symm⟩
        clear hr
        go_wp2
        go_ret
        exact ⟨rfl, B5.out⟩
      | true =>
        obtain ⟨hL, rfl⟩ : encL ⟨f.addr, f.kind, f.ses, f.seq, f.ack, l⟩ = L ∧ e = 0 := by have := HLA.out; unfold encA at this; rw [hr] at this; simp at this; exact ⟨this.1, this.2.symm⟩
        obtain ⟨X, hX⟩ : ∃ X, stf (innerL ⟨f.addr, f.kind, f.ses, f.seq, f.ack, l⟩) = X := ⟨_, rfl⟩
        have hge := encL_ge ⟨f.addr, f.kind, f.ses, f.seq, f.ack, l⟩
        have hin := encL_in ⟨f.addr, f.kind, f.ses, f.seq, f.ack, l⟩
        have hel := encL_len ⟨f.addr, f.kind, f.ses, f.seq, f.ack, l⟩
        have hde := dec_enc HOK.out hr
        rw [hL] at hge hin hel
        rw [hX] at hin hel hde
        obtain ⟨Q, hQ⟩ : ∃ Q, X.length = Q := ⟨_, rfl⟩
        obtain ⟨M1, hM1⟩ : ∃ M1, M1 = Q + 1 := ⟨_, rfl⟩
        rw [HM.out] at hge hin hel
        rw [hQ] at hel
        have hMM : M - 1 = M1 := by omega
        rw [hMM] at hin
        have HIN := Lib.hid hin
        have HQ := Lib.hid hQ
        have HDE := Lib.hid hde
        have hM9 : (9 : Int) ≤ (M : Int) := by omega
        have hQ64 : Q ≤ 64 := by omega
        have hM165 : M1 ≤ 65 := by omega
        have HXI : Hid (InB X) := Lib.hid (fun x hx => HLI.out x (List.mem_of_mem_take (i := M1) (List.mem_of_mem_drop (i := 1) (by rw [HIN.out]; exact hx))))
        obtain ⟨g, rfl, hg0, hg1⟩ := M5.out.at0 (by rw [HM.out]; omega)
        have hc5 : M ≤ c5 := by have := M5.out.2.2; rwa [HM.out] at this
        have hm1 : (M : Int) - 1 = (M1 : Int) := by omega
        have hlh : ∀ W, (Instr.slice 22 (.slice (some ⟨g, 0, none⟩) M c5) (some (.int .i64 1)) (some (.int .i64 M1)) none).run Tryd.prog W = .ok (.slice (some ⟨g, 1, none⟩) Q (c5 - 1)) W := fun W => by
          have := bcut_lh_lit g M c5 1 M1 (by omega) (by omega) (by omega) W
          rwa [show M1 - 1 = Q by omega] at this
        have RX : Hid (RowOf c8 1 w5 w5.heap.size (some ⟨g, 1, none⟩) X) := Lib.hid (HIN.out ▸ ((M5.out.2.1.take_ M1).cut_lit (c := c5) 1 (by rw [List.length_take, HM.out]; omega) (by omega)))
        have HO5 : Hid (w5.ownsRow wr.heap.size 5 1 (.slice (some ⟨g, 0, none⟩) M c5) M (nums .u8 L)) := Lib.hid (by have := M5.out.1; rwa [HM.out] at this)
        clear hr hL hX hge hin hel hde hQ hM1 hMM M5
        go_wp2_with fail
        clear n0 n1 n2 n3 n4 n5 s1 s2 hlh
        refine Calls.mono (DecodeE HDE.out rfl HQ.out (by omega) HXI.out w5 (HTB.out _ B5.out) RX.out) ?_
        rintro ee w6 ⟨A6, c6, rfl, M6, D6⟩
        have hs6 := D6.out.size
        obtain ⟨W6, hW6⟩ : ∃ W6, W6 = w6.alloc (.cells #[.int .u8 f.addr, .int .u8 f.kind, .int .u8 f.ses, .int .u8 f.seq, .int .u8 f.ack, .slice A6 l.length c6] 24) := ⟨_, rfl⟩
        have D6' : Hid (Below w5.heap.size w5 W6) := Lib.hid (hW6 ▸ D6.out.alloc hs6 _)
        have K6 : Hid (Blk W6 w6.heap.size 24 (fvs ⟨f.addr, f.kind, f.ses, f.seq, f.ack, l⟩ A6 c6)) := Lib.hid (hW6 ▸ Blk.new w6 _ _)
        have ML6 : Hid (Made w5.heap.size A6 c6 l W6) := Lib.hid (hW6 ▸ M6.out.fr ((Fr.refl (fun _ => False) w6).alloc _) (fun _ _ h => h))
        have HO6 : Hid (W6.ownsRow wr.heap.size 5 1 (.slice (some ⟨g, 0, none⟩) M c5) M (nums .u8 L)) := Lib.hid (own_fr HO5.out (Fr.of_below D6'.out) (fun _ _ h => h))
        have B6 := Lib.hid (B5.out.trans (D6'.out.mono B5.out.size))
        have HW6 := Lib.hid hW6.symm
        have hw6 : w5.heap.size ≤ w6.heap.size := hs6
        clear hW6 M6 D6 HO5 RX
        go_wp2
        rw [HW6.out]
        clear HW6
        go_loopw [13] (fun i wz => ∃ (k : Nat) (xs : List Value), i = .int .i64 k ∧ k ≤ M ∧ wz.ownsRow wr.heap.size 5 1 (.slice (some ⟨g, 0, none⟩) M c5) M xs ∧ Fr1 g W6 wz) (fun i _ => M - (intOf i).toNat)
        case atStart => exact ⟨0, _, rfl, by omega, HO6.out, Fr.refl _ _⟩
        case round =>
          obtain ⟨k, xs, rfl, hk, hx, hfr⟩ := hrel
          by_cases hgo : k < M
          · obtain ⟨g', x, e, hbg, hlg, hcx, hfx, hst⟩ := own_put4 hx hgo
            injection e with e
            injection e with e
            subst e
            have HF := Lib.hid hfr
            have HST := Lib.hid hst
            clear hfr hst hx
            go_wp2
            go_roundw
            case rel => exact ⟨k + 1, _, by go_num, by omega, HST.out _, HF.out.setCell (p := ⟨g, k, none⟩) (fun _ => rfl) _⟩
            case measure => simp [intOf]; omega
          · obtain rfl : M = k := by omega
            have hk7 := K6.out.fr hfr (by omega)
            obtain ⟨q0, q1, q2, q3, q4, q5⟩ := fvs_cells hk7
            have ML7 := ML6.out.fr hfr (fun j e => by have := (ML6.out.1.lt j e).1; omega)
            have s7 := str_row (c := c6) ML7.2.1
            have B7 := Lib.hid (below_fr B6.out hfr B6.out.size (fun j e => by have := B4.out.size; omega))
            clear hfr hx hk7 ML7
            go_wp2
            go_ret
            exact ⟨rfl, B7.out⟩
end Go.Proofs.YtfcbbcimblpbnaaDoor.K
