/- The walk of FrameCuts. -/
import Derived.Test.YtfcbbcimblpbnaaDoorF6
namespace Go.Proofs.YtfcbbcimblpbnaaDoor.K
open Go.RowKit
set_option linter.unusedVariables false
set_option linter.unusedSimpArgs false
attribute [local go_sem] min2_min min_two
set_option maxHeartbeats 2000000 in
set_option maxRecDepth 10000 in
theorem fcuts_walk (f : Fp) (hf : f.ok) (A : Option Addr) (c : Nat) (a1 : Int) (hc : f.B.length ≤ c) (w : World) (hT : Turns w) (hR : RowOf c8 1 w w.heap.size A f.B) :
    Calls Tryd.prog 4 #[.agg #[.int .u8 f.addr, .int .u8 f.kind, .int .u8 f.ses, .int .u8 f.seq, .int .u8 f.ack, .slice A f.B.length c], .int .i64 a1] w fun e w' => e = .returned (.bool true) ∧ Below w.heap.size w w' := by
  have HTB : Hid (∀ w' : World, Below w.heap.size w w' → Turns w') := Lib.hid (fun w' b => hT.below b hT.lt)
  obtain ⟨l, hl⟩ : ∃ l, f.B.take 50 = l := ⟨_, rfl⟩
  have HL := Lib.hid hl
  have HR := Lib.hid hR
  have HOK : Hid ((⟨f.addr, f.kind, f.ses, f.seq, f.ack, l⟩ : Fp).ok) := Lib.hid (hl ▸ ok_few hf)
  obtain ⟨mk, hmk, hbits⟩ := and_mask a1 65535 (by omega)
  have hbits : bits .and .i64 a1 65535 = (mk : Int) := hbits
  obtain ⟨p, hp⟩ : ∃ p : Nat, p = mk % 7 := ⟨_, rfl⟩
  have hp6 : p ≤ 6 := by omega
  have hmod : (mk : Int) % 7 = (p : Int) := by rw [hp]; simp
  have HB0 : Hid (Below w.heap.size w (w.alloc (.cells #[.int .u8 f.addr, .int .u8 f.kind, .int .u8 f.ses, .int .u8 f.seq, .int .u8 f.ack, .slice A f.B.length c] 24))) := Lib.hid ((Below.refl _ w).alloc (Nat.le_refl _) _)
  have HK0 : Hid (Blk (w.alloc (.cells #[.int .u8 f.addr, .int .u8 f.kind, .int .u8 f.ses, .int .u8 f.seq, .int .u8 f.ack, .slice A f.B.length c] 24)) w.heap.size 24 (fvs f A c)) := Lib.hid (Blk.new w _ _)
  clear hl hf hR hp hmk
  go_enter Tryd.func4, Tryd.ntmps4
  go_wp2_with fail
  refine (shown4_walk (HTB.out _ HB0.out)).mono ?_
  rintro e w1 ⟨rfl, H1⟩
  have hk1 := HK0.out.fr (Fr.of_below H1.out) (fun h => h)
  have B1 := Lib.hid (HB0.out.trans (H1.out.mono HB0.out.size))
  obtain ⟨k0, k1, k2, k3, k4, k5⟩ := fvs_cells hk1
  have HRN := Lib.hid (HR.out.now B1.out)
  clear HK0 HB0 H1 hk1
  go_wp2_with fail
  refine Calls.mono (few4L f A c l HL.out w1 hc HRN.out) ?_
  rintro e w2 ⟨A2, c2, rfl, M2, D2⟩
  have B2 := Lib.hid (B1.out.trans (D2.out.mono B1.out.size))
  clear k0 k1 k2 k3 k4 k5 HRN
  go_wp2_with fail
  cases hr : rightF ⟨f.addr, f.kind, f.ses, f.seq, f.ack, l⟩ with
  | false =>
    refine Calls.mono (EncodeN hr rfl w2) ?_
    rintro e w3 ⟨rfl, D3⟩
    have B3 := B2.out.trans (D3.out.mono B2.out.size)
    clear hr hbits hmod D3
    go_wp2
    go_ret
    exact ⟨rfl, B3⟩
  | true =>
    obtain ⟨L, hL⟩ : ∃ L, encL ⟨f.addr, f.kind, f.ses, f.seq, f.ack, l⟩ = L := ⟨_, rfl⟩
    obtain ⟨X, hX⟩ : ∃ X, stf (innerL ⟨f.addr, f.kind, f.ses, f.seq, f.ack, l⟩) = X := ⟨_, rfl⟩
    have hge := encL_ge ⟨f.addr, f.kind, f.ses, f.seq, f.ack, l⟩
    have hle := encL_le hr
    have hin := encL_in ⟨f.addr, f.kind, f.ses, f.seq, f.ack, l⟩
    have htl := encL_tail ⟨f.addr, f.kind, f.ses, f.seq, f.ack, l⟩
    have hLI := encL_inB HOK.out hr
    have hel := encL_len ⟨f.addr, f.kind, f.ses, f.seq, f.ack, l⟩
    rw [hL] at hge hle hin htl hLI hel
    rw [hX] at hin htl hel
    obtain ⟨N, hN⟩ : ∃ N, X.length = N := ⟨_, rfl⟩
    obtain ⟨M1, hM1⟩ : ∃ M1, M1 = N + 1 := ⟨_, rfl⟩
    obtain ⟨M, hM⟩ : ∃ M, L.length = M := ⟨_, rfl⟩
    rw [hM] at hge hle hin hel
    rw [hN] at hel
    have hMM : M - 1 = M1 := by omega
    rw [hMM] at hin
    have hd1 : decL (X.take p) = (⟨0, 0, 0, 0, 0, []⟩, 2) := by rw [← hX]; exact dec_cut _ p (by rw [hX]; omega) hp6
    have hd2 : decL (X ++ [126]) = (⟨0, 0, 0, 0, 0, []⟩, 3) := by rw [← hX]; exact dec_flag _
    have HD1 := Lib.hid hd1
    have HD2 := Lib.hid hd2
    have HIN := Lib.hid hin
    have HTL := Lib.hid htl
    have HLI := Lib.hid hLI
    have HM := Lib.hid hM
    have HN := Lib.hid hN
    have HXI : Hid (InB X) := Lib.hid (fun x hx => HLI.out x (List.mem_of_mem_drop (by rw [HTL.out]; exact List.mem_append_left _ hx)))
    have hN7 : 7 ≤ N := by omega
    have hN64 : N ≤ 64 := by omega
    have hM65 : M ≤ 65 := by omega
    have hmin : min (N : Int) 7 = 7 := by omega
    have hM9 : (9 : Int) ≤ (M : Int) := by omega
    refine Calls.mono (EncodeE HOK.out hr hL rfl hM w2 (HTB.out _ B2.out) M2.out.2.1 (fun ad e => (made_lt M2.out ad e).2)) ?_
    rintro e w3 ⟨A3, c3, rfl, M3, D3⟩
    obtain ⟨g, rfl, hg0, hg1⟩ := M3.out.at0 (by rw [hM]; omega)
    have hc3 : M ≤ c3 := by have := M3.out.2.2; rwa [hM] at this
    have hcm3 := made_cap M3.out
    have R3 := Lib.hid M3.out.2.1
    have B3 := Lib.hid (B2.out.trans (D3.out.mono B2.out.size))
    have hm1 : (M : Int) - 1 = (M1 : Int) := by omega
    have hlh : ∀ W, (Instr.slice 22 (.slice (some ⟨g, 0, none⟩) M c3) (some (.int .i64 1)) (some (.int .i64 M1)) none).run Tryd.prog W = .ok (.slice (some ⟨g, 1, none⟩) N (c3 - 1)) W := fun W => by
      have := bcut_lh_lit g M c3 1 M1 (by omega) (by omega) (by omega) W
      rwa [show M1 - 1 = N by omega] at this
    have hh : ∀ W, (Instr.slice 22 (.slice (some ⟨g, 1, none⟩) N (c3 - 1)) none (some (.int .i64 p)) none).run Tryd.prog W = .ok (.slice (some ⟨g, 1, none⟩) p (c3 - 1)) W := fun W => bcut_hi _ N (c3 - 1) p (by omega) W
    obtain ⟨N1, hN1⟩ : ∃ N1, N1 = M - 1 := ⟨_, rfl⟩
    have hl1 : ∀ W, (Instr.slice 22 (.slice (some ⟨g, 0, none⟩) M c3) (some (.int .i64 1)) none none).run Tryd.prog W = .ok (.slice (some ⟨g, 1, none⟩) N1 (c3 - 1)) W := fun W => by
      have := bcut_lo_lit g M c3 1 (by omega) hc3 (by omega) hcm3 W
      rwa [← hN1] at this
    have hs3 := D3.out.size
    have RX : Hid (RowOf c8 1 w3 w3.heap.size (some ⟨g, 1, none⟩) X) := Lib.hid (HIN.out ▸ ((R3.out.take_ M1).cut_lit (c := c3) 1 (by rw [List.length_take, HM.out]; omega) (by omega)))
    have HPL : Hid ((X.take p).length = p) := Lib.hid (by rw [List.length_take, HN.out]; omega)
    have HTLn : Hid ((X ++ [126]).length = N1) := Lib.hid (by rw [List.length_append, HN.out]; simp; omega)
    have hN1' : N1 ≤ 65 := by omega
    clear hL hX hge hle hin htl hLI hel hN hM hMM hd1 hd2 hr hM1 hN1 M3 D3 M2 D2
    go_wp2_with fail
    refine Calls.mono (DecodeE HD1.out rfl HPL.out (by omega) (HXI.out.take_ p) w3 (HTB.out _ B3.out) (RX.out.take_ p)) ?_
    rintro e w4 ⟨A4, c4, rfl, M4, D4⟩
    have hs4 := D4.out.size
    have D4' := Lib.hid (D4.out.alloc hs4 (.cells #[.int .u8 0, .int .u8 0, .int .u8 0, .int .u8 0, .int .u8 0, .slice A4 0 c4] 24))
    have B4 := Lib.hid (B3.out.trans (D4'.out.mono B3.out.size))
    have R4 : Hid (RowOf c8 1 (w4.alloc (.cells #[.int .u8 0, .int .u8 0, .int .u8 0, .int .u8 0, .int .u8 0, .slice A4 0 c4] 24)) (w4.alloc (.cells #[.int .u8 0, .int .u8 0, .int .u8 0, .int .u8 0, .int .u8 0, .slice A4 0 c4] 24)).heap.size (some ⟨g, 1, none⟩) (X ++ [126])) := Lib.hid (HTL.out ▸ ((R3.out.now D4'.out).cut_lit (c := c3) 1 (by rw [HM.out]; exact hc3) (by omega)))
    clear M4 D4
    go_wp2_with fail
    refine Calls.mono (DecodeE HD2.out rfl HTLn.out (by omega) (HTL.out ▸ fun x hx => HLI.out x (List.mem_of_mem_drop hx)) _ (HTB.out _ B4.out) R4.out) ?_
    rintro e w5 ⟨A5, c5, rfl, M5, D5⟩
    have hs5 := D5.out.size
    have D5' := Lib.hid (D5.out.alloc hs5 (.cells #[.int .u8 0, .int .u8 0, .int .u8 0, .int .u8 0, .int .u8 0, .slice A5 0 c5] 24))
    have B5 := Lib.hid (B4.out.trans (D5'.out.mono B4.out.size))
    clear M5 D5
    go_wp2
    go_ret
    exact ⟨rfl, B5.out⟩
end Go.Proofs.YtfcbbcimblpbnaaDoor.K
