/- The module's bytes: parse. -/
import Derived.Test.YtdhfinpmcikimaaDoorM7
namespace Go.Proofs.YtdhfinpmcikimaaDoor.K
open Go.RowKit
set_option linter.unusedVariables false
set_option linter.unusedSimpArgs false
set_option maxHeartbeats 4000000 in
theorem MparseFull {A K : Option Addr} {c : Nat} {l : List Int} {w : World} (hr : RowOf c8 1 w w.heap.size A l) (hb : InB l) (hl : 5 ≤ l.length) (hl2 : l.length ≤ 1000) (hK : RowOf c8 1 w w.heap.size K [1, 2]) :
    Calls Tryd.prog 34 #[.slice A l.length c, .slice K 2 2] w (PPost l w) := by
  have HB := Lib.hid hb
  have HK := Lib.hid hK
  have qR := ReadC (c := c) (by omega) hr
  have hyes : ∀ kk tt qq, num (l.take 1) = kk → num ((l.drop 1).take 2) = tt → num ((l.drop 3).take 2) = qq → l.length = 5 → (kk = 1 ∨ kk = 2) → parseM l = (kk, tt, qq, 0) := fun kk tt qq h1 h2 h3 h4 h5 => by
    unfold parseM; rw [if_neg (by omega), if_pos ⟨h4, by rw [h1]; exact h5⟩, h1, h2, h3]
  have hno : ∀ kk, num (l.take 1) = kk → ¬ (l.length = 5 ∧ (kk = 1 ∨ kk = 2)) → parseM l = (0, 0, 0, 3) := fun kk h1 h => by
    unfold parseM; rw [if_neg (by omega), if_neg (by rw [h1]; exact h)]
  have HY := Lib.hid hyes
  have HNO := Lib.hid hno
  clear hr hb hK hyes hno
  go_enter Tryd.func34, Tryd.ntmps34
  go_wp2_with fail
  refine Calls.mono qR ?_
  clear qR
  rintro e w1 ⟨r, G, rfl, hr1, hG1, HR1, F1⟩
  clear hG1
  have q1 := RU8_ok HR1.out (by omega) HB.out
  go_wp2_with fail
  refine Calls.mono q1 ?_
  clear q1
  rintro e w2 ⟨rfl, HR2, F2⟩
  have q2 := RU16_ok HR2.out (by rw [List.length_drop]; omega) (HB.out.drop_ 1)
  have HF2 := Lib.hid (F1.out.trans F2.out (fun j hj e => by omega))
  have HKK : Hid (num (l.take 1) = num (l.take 1)) := Lib.hid rfl
  have HT0 : Hid (∀ x, num ((l.drop 1).take 2) = x → num ((l.drop 1).take 2) = x) := Lib.hid (fun _ h => h)
  obtain ⟨kk, hkk⟩ : ∃ kk, num (l.take 1) = kk := ⟨_, rfl⟩
  rw [hkk]
  have HKE := Lib.hid hkk
  clear F1 F2 HR1 hkk HKK HT0
  go_wp2_with fail
  refine Calls.mono q2 ?_
  clear q2
  rintro e w3 ⟨rfl, HR3, F3⟩
  have q3 := RU16_ok HR3.out (by rw [List.length_drop, List.length_drop]; omega) ((HB.out.drop_ 1).drop_ 2)
  have HF3 := Lib.hid (HF2.out.trans F3.out (fun j hj e => by omega))
  obtain ⟨tt, htt⟩ : ∃ tt, num ((l.drop 1).take 2) = tt := ⟨_, rfl⟩
  rw [htt]
  have HTE := Lib.hid htt
  clear HF2 F3 HR2 htt
  go_wp2_with fail
  refine Calls.mono q3 ?_
  clear q3
  rintro e w4 ⟨rfl, HR4, F4⟩
  have HF4 := Lib.hid (HF3.out.trans F4.out (fun j hj e => by omega))
  obtain ⟨qq, hqq⟩ : ∃ qq, num (((l.drop 1).drop 2).take 2) = qq := ⟨_, rfl⟩
  rw [hqq]
  have HQE : Hid (num ((l.drop 3).take 2) = qq) := Lib.hid (by rw [List.drop_drop] at hqq; exact hqq)
  clear HF3 F4 HR3 hqq
  have hll : (((l.drop 1).drop 2).drop 2).length = l.length - 5 := by simp only [List.length_drop]; omega
  have HLL := Lib.hid hll
  generalize ((l.drop 1).drop 2).drop 2 = ld at *
  clear hll
  go_wp2_with fail
  go_loopw [4, 5, 6, 7, 10, 32] (fun a4 a5 a6 a7 _ i wr => ∃ j : Nat, a4 = .int .u8 kk ∧ a5 = .int .u16 tt ∧ a6 = .int .u16 qq ∧ a7 = .int .i64 0 ∧ i = .int .i64 j ∧ j ≤ 2 ∧ (∀ m : Nat, m < j → ¬ (l.length = 5 ∧ (m : Int) + 1 = kk)) ∧ Rd r G ld wr ∧ Fr0 w wr) (fun _ _ _ _ _ i _ => 2 - (intOf i).toNat)
  case atStart => exact ⟨0, rfl, rfl, rfl, rfl, rfl, by omega, fun m hm => by omega, HR4.out, HF4.out⟩
  case round =>
    clear HR4 HF4
    obtain ⟨j, rfl, rfl, rfl, rfl, rfl, hj, hnm, hrd, hf⟩ := hrel
    have HNM := Lib.hid hnm
    have HRD := Lib.hid hrd
    have HF := Lib.hid hf
    clear hnm hrd hf
    by_cases hlt : j < 2
    · obtain ⟨ad, rfl, _, c0⟩ := (RowOf.now HK.out HF.out.below0).num (i := j) hlt
      have hv : ([1, 2] : List Int).getD j 0 = (j : Int) + 1 := by
        rcases (by omega : j = 0 ∨ j = 1) with rfl | rfl <;> rfl
      rw [hv] at c0
      have hjI : (j : Int) < 2 := by omega
      have qL := LeftC HRD.out
      obtain ⟨kv, hkv⟩ : ∃ kv, kv = (j : Int) + 1 := ⟨_, rfl⟩
      rw [← hkv] at c0
      have HKV := Lib.hid hkv
      clear hv hkv
      by_cases hk : kv = kk
      · have bk : (kv == kk) = true := by simp [hk]
        have HKQ := Lib.hid hk
        clear hk
        by_cases h0 : ld.length = 0
        · have b0 : ((ld.length : Int) == 0) = true := by rw [h0]; rfl
          have HP := Lib.hid (HY.out kk tt qq HKE.out HTE.out HQE.out (by have := HLL.out; omega) (by have := HKV.out; have := HKQ.out; omega))
          clear h0
          go_wp2_with fail
          refine Calls.mono qL ?_
          clear qL
          rintro e w5 ⟨rfl, rfl⟩
          go_wp2
          refine bodyPost_ret (results_parse rfl rfl rfl rfl) rfl ?_
          unfold PPost
          rw [HP.out]
          exact ⟨rfl, HF⟩
        · have b0 : ((ld.length : Int) == 0) = false := beq_eq_false_iff_ne.2 (by omega)
          have HN2 : Hid (∀ m : Nat, m < j + 1 → ¬ (l.length = 5 ∧ (m : Int) + 1 = kk)) := Lib.hid (fun m hm h => by have := HLL.out; omega)
          clear h0
          go_wp2_with fail
          refine Calls.mono qL ?_
          clear qL
          rintro e w5 ⟨rfl, rfl⟩
          go_wp2
          go_roundw
          case rel => exact ⟨j + 1, rfl, rfl, rfl, rfl, by go_num, by omega, HN2.out, HRD.out, HF.out⟩
          case measure => simp [intOf]; omega
      · have bk : (kv == kk) = false := by simp [hk]
        have HN2 : Hid (∀ m : Nat, m < j + 1 → ¬ (l.length = 5 ∧ (m : Int) + 1 = kk)) := Lib.hid (fun m hm h => by
          by_cases e : m = j
          · subst e; have := HKV.out; omega
          · exact HNM.out m (by omega) h)
        clear hk qL
        go_wp2
        go_roundw
        case rel => exact ⟨j + 1, rfl, rfl, rfl, rfl, by go_num, by omega, HN2.out, HRD.out, HF.out⟩
        case measure => simp [intOf]; omega
    · obtain rfl : j = 2 := by omega
      have HP := Lib.hid (HNO.out kk HKE.out (fun h => by
        rcases h.2 with e | e
        · exact HNM.out 0 (by omega) ⟨h.1, by omega⟩
        · exact HNM.out 1 (by omega) ⟨h.1, by omega⟩))
      go_wp2
      refine bodyPost_ret (results_parse rfl rfl rfl rfl) rfl ?_
      unfold PPost
      rw [HP.out]
      exact ⟨rfl, HF⟩
theorem MparseC {A K : Option Addr} {c : Nat} {l : List Int} {w : World} (hr : RowOf c8 1 w w.heap.size A l) (hb : InB l) (hl2 : l.length ≤ 1000) (hK : RowOf c8 1 w w.heap.size K [1, 2]) :
    Calls Tryd.prog 34 #[.slice A l.length c, .slice K 2 2] w (PPost l w) := by
  by_cases h : l.length < 5
  · exact MparseShort hr hb h
  · exact MparseFull hr hb (by omega) hl2 hK
end Go.Proofs.YtdhfinpmcikimaaDoor.K
