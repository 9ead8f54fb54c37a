/- The walk of CrcSame. -/
import Derived.Test.YtimlkmblfjoigaaDoorCl
namespace Go.Proofs.YtimlkmblfjoigaaDoor.K
open Go.RowKit
set_option linter.unusedVariables false
set_option linter.unusedSimpArgs false
attribute [local go_sem] min2_min min_two
theorem be_two (n : Int) (h0 : 0 ≤ n) (h1 : n < 65536) : be n 2 = [n / 256, n % 256] := by
  have : be n 2 = [n / 256 ^ 1 % 256, n / 256 ^ 0 % 256] := rfl
  rw [this]
  congr 1
  · omega
  · congr 1; omega
/-- What is sealed sums to 0. -/
theorem cf_sealed (l : List Int) : crc (l ++ be (crcN l) 2) = 0#16 := by
  have hb := crcN_bound l
  rw [be_two _ hb.1 hb.2]
  unfold crc
  rw [cf_app]
  show sb (sb (cf 0xFFFF#16 l) (crcN l / 256)) (crcN l % 256) = 0#16
  rw [two_zero _ _ _ (by omega) (by omega)]
  show crcN l = _
  omega
theorem crcN_sealed (l : List Int) : crcN (l ++ be (crcN l) 2) = 0 := by
  unfold crcN
  rw [show crc (l ++ be ((crc l).toNat : Int) 2) = 0#16 from cf_sealed l]
  rfl
set_option maxHeartbeats 8000000 in
set_option maxRecDepth 10000 in
theorem csame_walk (A : Option Addr) (c : Nat) (zs : List Int) (hc : zs.length ≤ c) (hcm : c ≤ 9223372036854775807) (w : World) (hT : Turns w) (h0 : RowOf c8 1 w w.heap.size A zs) (ha : ∀ ad, A = some ad → ad.block < w.heap.size) (b0 : InB zs) :
    Calls Tryd.prog 9 #[.slice A zs.length c] w fun e w' => e = .returned (.bool true) ∧ Below w.heap.size w w' := by
  obtain ⟨n, hn, hn1, hn2⟩ := min_nat zs.length 300
  have hcut := fun W => bcut_hi A zs.length c n (by omega) W
  obtain ⟨l, hl⟩ : ∃ l, l = zs.take n := ⟨_, rfl⟩
  have hln : n = l.length := by rw [hl, List.length_take]; omega
  subst hln
  have HR := Lib.hid (hl ▸ h0.take_ l.length : RowOf c8 1 w w.heap.size A l)
  have HI := Lib.hid (hl ▸ b0.take_ l.length : InB l)
  have HA := Lib.hid ha
  have hcc : l.length ≤ c := by omega
  clear h0 b0 hl hc ha
  have hmin : min (zs.length : Int) 300 = (l.length : Int) := hn
  have HTB : Hid (∀ w' : World, Below w.heap.size w w' → Turns w') := Lib.hid (fun w' b => hT.below b hT.lt)
  go_enter Tryd.func9, Tryd.ntmps9
  go_wp2_with fail
  refine (shown2_walk hT).mono ?_
  rintro e w1 ⟨rfl, H1⟩
  go_wp2_with fail
  obtain ⟨m, hm⟩ : ∃ m, l ++ be (crcN l) 2 = m := ⟨_, rfl⟩
  have HM0 : Hid (crcN m = 0) := Lib.hid (by rw [← hm]; exact crcN_sealed l)
  have HML : Hid (m.length = l.length + 2) := Lib.hid (by rw [← hm, List.length_append, be_length])
  have HMD : Hid (l ++ m.drop l.length = m) := Lib.hid (by rw [← hm]; simp)
  have HMI : Hid (InB m) := Lib.hid (fun x hx => by rw [← hm] at hx; exact (List.mem_append.1 hx).elim (HI.out x) (be_inB _ _ x))
  refine Calls.mono (CAppendE rfl rfl hm (Same.refl w1) (HTB.out _ H1.out) (HR.out.now H1.out) (fun ad e => Nat.lt_of_lt_of_le (HA.out ad e) H1.out.size) HI.out (by omega)) ?_
  rintro e w2 ⟨A2, c2, rfl, H2, F2⟩
  have B2 := Lib.hid (H1.out.trans (F2.out.mono H1.out.size))
  have hT2 := HTB.out _ B2.out
  have hc2 : l.length + 2 ≤ c2 := by have := H2.out.2.2; rwa [HML.out] at this
  have hcm2 := made_cap H2.out
  have HR2 := Lib.hid H2.out.2.1
  have HRa2 := Lib.hid (HR.out.now B2.out)
  have hlo := fun W => bcut_lo A2 (l.length + 2) c2 l.length (by omega) hc2 hcm2 W
  rw [show l.length + 2 - l.length = 2 by omega] at hlo
  have HRd := Lib.hid (HR2.out.drop_ (cap := c2) l.length (by rw [HML.out]; exact hc2))
  generalize (if c2 = l.length then A2 else A2.map (·.add l.length)) = A3 at *
  have HP1 : Hid (Parts w2 [(A2, c2, m)]) := Lib.hid (Parts.cons HR2.out HMI.out (by rw [HML.out]; omega) (Parts.nil _))
  have HP2 : Hid (Parts w2 [(A, c, l), (A3, c2 - l.length, m.drop l.length)]) := Lib.hid (Parts.cons HRa2.out HI.out (by omega) (Parts.cons HRd.out (HMI.out.drop_ _) (by rw [List.length_drop, HML.out]; omega) (Parts.nil _)))
  have HC1 : Hid (([(A2, c2, m)] : List Part).map pv = [.slice A2 (l.length + 2) c2]) := Lib.hid (by simp only [List.map_cons, List.map_nil, pv, HML.out])
  have HC2 : Hid (([(A, c, l), (A3, c2 - l.length, m.drop l.length)] : List Part).map pv = [.slice A l.length c, .slice A3 2 (c2 - l.length)]) := Lib.hid (by simp only [List.map_cons, List.map_nil, pv, List.length_drop, HML.out, show l.length + 2 - l.length = 2 by omega])
  have hsub : (l.length : Int) + 2 - 2 = (l.length : Int) := by omega
  clear hm H2 F2 hc2
  go_wp2_with fail
  refine Calls.mono (CTableM (x := 0) (ps := [(A2, c2, m)]) rfl rfl ⟨rfl, rfl, rfl, rfl⟩ (by rw [HC1.out]) hT2 HP1.out (by decide) (by rw [flat_one]; exact HM0.out)) ?_
  rintro e w3 ⟨rfl, H3⟩
  have hT3 := hT2.below H3.out hT2.lt
  go_wp2_with fail
  refine Calls.mono (CBitsM (x := 0) (ps := [(A2, c2, m)]) rfl rfl ⟨rfl, rfl, rfl, rfl⟩ (by rw [HC1.out]) hT3 (HP1.out.below H3.out) (by decide) (by rw [flat_one]; exact HM0.out)) ?_
  rintro e w4 ⟨rfl, H4⟩
  have b4 := H3.out.trans (H4.out.mono H3.out.size)
  have B4 := Lib.hid b4
  have hT4 := hT2.below b4 hT2.lt
  clear H3 H4 b4
  go_wp2_with fail
  refine Calls.mono (CTableM (x := 0) (ps := [(A, c, l), (A3, c2 - l.length, m.drop l.length)]) rfl rfl ⟨rfl, rfl, rfl, rfl⟩ (by rw [HC2.out]) hT4 (HP2.out.below B4.out) (by decide) (by simp only [flat, List.flatMap_cons, List.flatMap_nil, List.append_nil]; rw [HMD.out]; exact HM0.out)) ?_
  rintro e w5 ⟨rfl, H5⟩
  go_wp2
  go_ret
  exact ⟨rfl, B2.out.trans ((B4.out.trans (H5.out.mono B4.out.size)).mono B2.out.size)⟩
end Go.Proofs.YtimlkmblfjoigaaDoor.K
