/- The walk of FrameBursts. -/
import Derived.Test.YtfcbbcimblpbnaaDoorF6
namespace Go.Proofs.YtfcbbcimblpbnaaDoor.K
open Go.RowKit
set_option linter.unusedVariables false
set_option linter.unusedSimpArgs false
attribute [local go_sem] min2_min min_two
theorem inner_crc (f : Fp) : crc (innerL f) = 0#16 := cf_sealed (hdF f)
set_option maxHeartbeats 1500000 in
set_option maxRecDepth 10000 in
theorem fbursts_walk (f : Fp) (hf : f.ok) (A : Option Addr) (c : Nat) (a1 by_ : Int) (hby : 0 ≤ by_ ∧ by_ < 65536) (hc : f.B.length ≤ c) (w : World) (hT : Turns w) (hR : RowOf c8 1 w w.heap.size A f.B) :
    Calls Tryd.prog 3 #[.agg #[.int .u8 f.addr, .int .u8 f.kind, .int .u8 f.ses, .int .u8 f.seq, .int .u8 f.ack, .slice A f.B.length c], .int .i64 a1, .int .u16 by_] w fun e w' => e = .returned (.bool true) ∧ Below w.heap.size w w' := by
  have HTB : Hid (∀ w' : World, Below w.heap.size w w' → Turns w') := Lib.hid (fun w' b => hT.below b hT.lt)
  obtain ⟨l, hl⟩ : ∃ l, f.B.take 50 = l := ⟨_, rfl⟩
  have HL := Lib.hid hl
  have HR := Lib.hid hR
  have HOK : Hid ((⟨f.addr, f.kind, f.ses, f.seq, f.ack, l⟩ : Fp).ok) := Lib.hid (hl ▸ ok_few hf)
  obtain ⟨mk, hmk, hbits⟩ := and_mask a1 65535 (by omega)
  have hbits : bits .and .i64 a1 65535 = (mk : Int) := hbits
  have HB0 : Hid (Below w.heap.size w (w.alloc (.cells #[.int .u8 f.addr, .int .u8 f.kind, .int .u8 f.ses, .int .u8 f.seq, .int .u8 f.ack, .slice A f.B.length c] 24))) := Lib.hid ((Below.refl _ w).alloc (Nat.le_refl _) _)
  have HK0 : Hid (Blk (w.alloc (.cells #[.int .u8 f.addr, .int .u8 f.kind, .int .u8 f.ses, .int .u8 f.seq, .int .u8 f.ack, .slice A f.B.length c] 24)) w.heap.size 24 (fvs f A c)) := Lib.hid (Blk.new w _ _)
  clear hl hf hR hmk
  go_enter Tryd.func3, Tryd.ntmps3
  go_wp2_with fail
  refine (shown4_walk (HTB.out _ HB0.out)).mono ?_
  rintro e w1 ⟨rfl, H1⟩
  have hk1 := HK0.out.fr (Fr.of_below H1.out) (fun h => h)
  have B1 := Lib.hid (HB0.out.trans (H1.out.mono HB0.out.size))
  obtain ⟨k0, k1, k2, k3, k4, k5⟩ := fvs_cells hk1
  have HRN := Lib.hid (HR.out.now B1.out)
  clear HK0 HB0 H1 hk1
  go_wp2_with fail
  refine Calls.mono (few4L f A c l HL.out w1 hc HRN.out) ?_
  rintro e w2 ⟨A2, c2, rfl, M2, D2⟩
  have B2 := Lib.hid (B1.out.trans (D2.out.mono B1.out.size))
  clear k0 k1 k2 k3 k4 k5 HRN
  go_wp2_with fail
  cases hr : rightF ⟨f.addr, f.kind, f.ses, f.seq, f.ack, l⟩ with
  | false =>
    refine Calls.mono (EncodeN hr rfl w2) ?_
    rintro e w3 ⟨rfl, D3⟩
    have B3 := B2.out.trans (D3.out.mono B2.out.size)
    clear hr hbits D3
    go_wp2
    go_ret
    exact ⟨rfl, B3⟩
  | true =>
    obtain ⟨L, hL⟩ : ∃ L, encL ⟨f.addr, f.kind, f.ses, f.seq, f.ack, l⟩ = L := ⟨_, rfl⟩
    obtain ⟨m, hm⟩ : ∃ m, innerL ⟨f.addr, f.kind, f.ses, f.seq, f.ack, l⟩ = m := ⟨_, rfl⟩
    obtain ⟨X, hX⟩ : ∃ X, stf m = X := ⟨_, rfl⟩
    have hge := encL_ge ⟨f.addr, f.kind, f.ses, f.seq, f.ack, l⟩
    have hle := encL_le hr
    have hin := encL_in ⟨f.addr, f.kind, f.ses, f.seq, f.ack, l⟩
    have hel := encL_len ⟨f.addr, f.kind, f.ses, f.seq, f.ack, l⟩
    have hml := innerL_len ⟨f.addr, f.kind, f.ses, f.seq, f.ack, l⟩
    have hl24 := (right_of hr).2.2.2.2.2.2
    have hmi := innerL_inB HOK.out hr
    have hmv := inner_valid HOK.out hr
    have hm0 := inner_crc ⟨f.addr, f.kind, f.ses, f.seq, f.ack, l⟩
    rw [hL] at hge hle hin hel
    rw [hm] at hin hel hml hmi hmv hm0
    rw [hX] at hin hel
    simp only at hml hl24
    obtain ⟨Q, hQ⟩ : ∃ Q, X.length = Q := ⟨_, rfl⟩
    obtain ⟨M1, hM1⟩ : ∃ M1, M1 = Q + 1 := ⟨_, rfl⟩
    obtain ⟨M, hM⟩ : ∃ M, L.length = M := ⟨_, rfl⟩
    obtain ⟨K, hK⟩ : ∃ K, m.length = K := ⟨_, rfl⟩
    rw [hM] at hge hle hin hel
    rw [hQ] at hel
    rw [hK] at hml
    have hMM : M - 1 = M1 := by omega
    rw [hMM] at hin
    have hu : unst false X [] = (m, 0) := by rw [← hX]; exact unst_back m
    have HU := Lib.hid hu
    have HIN := Lib.hid hin
    have HM := Lib.hid hM
    have HQ := Lib.hid hQ
    have HK := Lib.hid hK
    have HMI := Lib.hid hmi
    have HMV := Lib.hid hmv
    have HM0 := Lib.hid hm0
    have hQ64 : Q ≤ 64 := by omega
    have hM70 : M ≤ 70 := by omega
    have hM170 : M1 ≤ 70 := by omega
    have hM9 : (9 : Int) ≤ (M : Int) := by omega
    have hK31 : K ≤ 31 := by omega
    have hK7 : 7 ≤ K := by omega
    refine Calls.mono (EncodeE HOK.out hr hL rfl hM w2 (HTB.out _ B2.out) M2.out.2.1 (fun ad e => (made_lt M2.out ad e).2)) ?_
    rintro e w3 ⟨A3, c3, rfl, M3, D3⟩
    obtain ⟨g, rfl, hg0, hg1⟩ := M3.out.at0 (by rw [hM]; omega)
    have hc3 : M ≤ c3 := by have := M3.out.2.2; rwa [hM] at this
    have R3 := Lib.hid M3.out.2.1
    have B3 := Lib.hid (B2.out.trans (D3.out.mono B2.out.size))
    have hm1 : (M : Int) - 1 = (M1 : Int) := by omega
    have hlh : ∀ W, (Instr.slice 22 (.slice (some ⟨g, 0, none⟩) M c3) (some (.int .i64 1)) (some (.int .i64 M1)) none).run Tryd.prog W = .ok (.slice (some ⟨g, 1, none⟩) Q (c3 - 1)) W := fun W => by
      have := bcut_lh_lit g M c3 1 M1 (by omega) (by omega) (by omega) W
      rwa [show M1 - 1 = Q by omega] at this
    have hs3 := D3.out.size
    have RX : Hid (RowOf c8 1 w3 w3.heap.size (some ⟨g, 1, none⟩) X) := Lib.hid (HIN.out ▸ ((R3.out.take_ M1).cut_lit (c := c3) 1 (by rw [List.length_take, HM.out]; omega) (by omega)))
    obtain ⟨N, hN⟩ : ∃ N, N = 8 * K := ⟨_, rfl⟩
    obtain ⟨N15, hN15⟩ : ∃ N15, N15 = N - 15 := ⟨_, rfl⟩
    obtain ⟨j, hj⟩ : ∃ j : Nat, j = mk % N15 := ⟨_, rfl⟩
    have hjN : j + 16 ≤ N := by have := Nat.mod_lt mk (show 0 < N15 by omega); omega
    have hmod : (mk : Int) % (N15 : Int) = (j : Int) := by rw [hj]; simp
    have hN0 : (N15 : Int) ≠ 0 := by omega
    have t15 : (N : Int) - 15 = (N15 : Int) := by omega
    have t8 : IntKind.i64.wrap (8 * (K : Int)) = (N : Int) := by rw [IntKind.wrap_i64]; omega
    have t8b : 8 * (K : Int) = (N : Int) := by omega
    have HNN := Lib.hid hN
    have HJN := Lib.hid hjN
    clear hL hX hge hle hin hel hQ hM hMM hr hM1 M3 D3 M2 D2 hm hml hmi hmv hm0 hu hK hN hN15 hj
    go_wp2_with fail
    refine Calls.mono (UnstuffE HQ.out HK.out (by omega) HU.out w3 RX.out) ?_
    rintro e w4 ⟨A4, c4, rfl, M4, D4⟩
    have B4 := Lib.hid (B3.out.trans (D4.out.mono B3.out.size))
    clear hlh hm1 RX D4
    have hw3 := B3.out.size
    go_wp2_with fail
    refine Calls.mono (CValidS (w := w4) HK.out HMV.out (Same.refl w4) (HTB.out _ B4.out) M4.out HMI.out (by omega)) ?_
    rintro e w5 ⟨rfl, H5⟩
    have HP5 := Lib.hid (M4.out.below H5.out (Nat.le_refl _))
    have HB5 := Lib.hid (B4.out.trans (H5.out.mono B4.out.size))
    clear H5 M4
    by_cases hz : by_ = 0
    · subst hz
      clear hmod hbits t15 t8 t8b hN0 hby
      go_wp2_with fail
      refine Calls.mono (CValidS (w := w5) HK.out HMV.out (Same.refl w5) (HTB.out _ HB5.out) HP5.out HMI.out (by omega)) ?_
      rintro e w6 ⟨rfl, H6⟩
      go_wp2
      go_ret
      exact ⟨rfl, HB5.out.trans (H6.out.mono HB5.out.size)⟩
    · obtain ⟨nb, rfl⟩ : ∃ nb : Nat, by_ = (nb : Int) := ⟨by_.toNat, by omega⟩
      have HNB : Hid (nb ≠ 0 ∧ nb < 65536) := Lib.hid ⟨by omega, by omega⟩
      have hnz : ((nb : Int) == 0) = false := by simpa using hz
      have HBV := Lib.hid (burst_valid (m := m) (a := j) HMI.out HM0.out (by rw [HK.out, ← HNN.out]; exact HJN.out) HNB.out.1 HNB.out.2)
      have HBI : Hid (∀ i, i ≤ 16 → InB (burst m j nb i)) := Lib.hid (burst_inB HMI.out (by rw [HK.out, ← HNN.out]; exact HJN.out))
      go_wp2
      simp only [hmod]
      clear hmod hbits t15 t8 t8b hN0 hnz hz hby
      go_loopw [13] (fun i wr => ∃ (k : Nat) (A' : Option Addr), i = .int .i64 k ∧ k ≤ 16 ∧ A' = A4 ∧ Made w3.heap.size A' c4 (burst m j nb k) wr ∧ Below w.heap.size w wr) (fun i _ => 16 - (intOf i).toNat)
      case atStart => exact ⟨0, _, rfl, by omega, rfl, HP5.out, HB5.out⟩
      case round =>
        obtain ⟨k, A', rfl, hk, rfl, hmd, hbl⟩ := hrel
        have HMD := Lib.hid hmd
        have HBL := Lib.hid hbl
        clear hmd hbl
        by_cases hlt : k < 16
        · have hbs : burst m j nb (k + 1) = if tb nb k then turn (burst m j nb k) (j + k) else burst m j nb k := rfl
          have hand : bits .and .u16 ((nb : Int) / 2 ^ k) 1 = ((nb / 2 ^ k % 2 : Nat) : Int) := by
            have hd : nb / 2 ^ k < 65536 := Nat.lt_of_le_of_lt (Nat.div_le_self _ _) HNB.out.2
            have h1 : ((nb : Int) / 2 ^ k) = ((nb / 2 ^ k : Nat) : Int) := by rw [Int.natCast_ediv]; simp
            rw [h1, show (1 : Int) = ((1 : Nat) : Int) from rfl, u16_and_nat _ _ hd (by omega), Nat.and_one_is_mod]
          have hk0 : (0 : Int) ≤ (k : Int) := by omega
          have hk16 : (k : Int) ≤ 16 := by omega
          cases htb : tb nb k with
          | false =>
            have hm0 : ((nb / 2 ^ k % 2 : Nat) : Int) = 0 := by unfold tb at htb; have : nb / 2 ^ k % 2 ≠ 1 := by simpa using htb
                                                                omega
            rw [hm0] at hand
            rw [htb] at hbs
            have HBS := Lib.hid hbs
            clear hbs hm0 htb
            go_wp2
            go_roundw
            case rel => exact ⟨k + 1, _, by go_num, by omega, rfl, by rw [HBS.out]; exact HMD.out, HBL.out⟩
            case measure => simp [intOf]; omega
          | true =>
            have hm1 : ((nb / 2 ^ k % 2 : Nat) : Int) = 1 := by unfold tb at htb; have : nb / 2 ^ k % 2 = 1 := by simpa using htb
                                                                omega
            rw [hm1] at hand
            rw [htb] at hbs
            obtain ⟨b, hb⟩ : ∃ b, b = j + k := ⟨_, rfl⟩
            rw [← hb] at hbs
            have HBS := Lib.hid hbs
            obtain ⟨b1, hb1⟩ : ∃ b1, b1 = b / 8 := ⟨_, rfl⟩
            have hNN := HNN.out
            have hb1M : b1 < K := by omega
            have hbl2 : b / 8 < (burst m j nb k).length := by rw [burst_len, HK.out]; omega
            obtain ⟨g', e, hg1, hg2, hcell, hfroz, hput⟩ := HMD.out.turn hbl2
            subst e
            rw [← hb1] at hcell hfroz hput
            obtain ⟨y, hy⟩ : ∃ y, y = bits .xor .u8 ((burst m j nb k).getD b1 0) ((128 : Int) / 2 ^ (b % 8)) := ⟨_, rfl⟩
            rw [← hy] at hput
            have HP := Lib.hid hput
            have HB := Lib.hid (set_below (i := b1) (v := .int .u8 y) HBL.out (by omega : w.heap.size ≤ g'))
            have hjk : (j : Int) + (k : Int) = (b : Int) := by omega
            have db : (b : Int) / 8 = (b1 : Int) := by omega
            have rb : (b : Int) % 8 = ((b % 8 : Nat) : Int) := by omega
            have rb8 : b % 8 < 8 := Nat.mod_lt _ (by omega)
            generalize (burst m j nb k).getD b1 0 = x at *
            generalize b % 8 = r at *
            have hy' := hy.symm
            clear hput hbs hm1 htb hy hbl2 hNN hb hb1
            go_wp2
            go_region
            go_wp2
            go_roundw
            case rel => exact ⟨k + 1, _, by go_num, by omega, rfl, by rw [HBS.out]; exact HP.out, below_dr HB.out⟩
            case measure => simp [intOf]; omega
        · obtain rfl : k = 16 := by omega
          obtain ⟨Y, hY⟩ : ∃ Y, burst m j nb 16 = Y := ⟨_, rfl⟩
          have hYl : Y.length = K := by rw [← hY, burst_len, HK.out]
          have hYi : InB Y := hY ▸ HBI.out 16 (by omega)
          rw [hY] at HMD HBV
          obtain ⟨Z, hZ⟩ : ∃ Z, (stf Y).length = Z := ⟨_, rfl⟩
          have hd : decL (stf Y) = (⟨0, 0, 0, 0, 0, []⟩, 4) := by rw [dec_stf, if_neg (by omega), if_pos HBV.out]
          have hZ2 := (stf_len Y).2
          rw [hZ, hYl] at hZ2
          have HD := Lib.hid hd
          have HZ := Lib.hid hZ
          have HYL := Lib.hid hYl
          have HYI := Lib.hid hYi
          clear hd hZ hYl hYi hY HBV HBI
          go_wp2_with fail
          refine Calls.mono (StuffM HYL.out (by omega) wr HMD.out.2.1) ?_
          rintro e w6 ⟨A6, c6, rfl, H6, D6⟩
          rw [HZ.out]
          have B6 := Lib.hid (HBL.out.trans (D6.out.mono HBL.out.size))
          go_wp2_with fail
          refine Calls.mono (DecodeE HD.out rfl HZ.out (by omega) (stf_inB HYI.out) w6 (HTB.out _ B6.out) H6.out.2.1) ?_
          rintro e w7 ⟨A7, c7, rfl, M7, D7⟩
          have hs7 := D7.out.size
          have D7' := Lib.hid (D7.out.alloc hs7 (.cells #[.int .u8 0, .int .u8 0, .int .u8 0, .int .u8 0, .int .u8 0, .slice A7 0 c7] 24))
          have B7 := Lib.hid (B6.out.trans (D7'.out.mono B6.out.size))
          clear M7 D7
          go_wp2
          go_ret
          exact ⟨rfl, B7.out⟩
end Go.Proofs.YtfcbbcimblpbnaaDoor.K
