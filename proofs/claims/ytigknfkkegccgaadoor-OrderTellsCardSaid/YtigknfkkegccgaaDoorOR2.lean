/- The document's Text of an order. -/
import Derived.Test.YtigknfkkegccgaaDoorOR1
namespace Go.Proofs.YtigknfkkegccgaaDoor.K
open Go.RowKit
set_option linter.unusedVariables false
set_option linter.unusedSimpArgs false
attribute [local go_sem ↓] Go.wp_at_zero Go.wp_at_succ
theorem TextD (n : Int) (size : Nat) (w : World) (i : Int) (hi : i = size) (hn0 : 0 ≤ n) (hn1 : n < 4294967296) (hs : size ≤ 100) :
    Calls Tryd.prog 33 #[.int .u32 n, .int .i64 i] w fun e w' => e = .returned (.string (strOfNums (be n size))) ∧ Hid (Below w.heap.size w w') := by
  subst hi
  exact TextC n size w hn0 hn1 hs
set_option maxHeartbeats 4000000 in
set_option maxRecDepth 10000 in
theorem TextO {A : Option Addr} {c : Nat} {id : Int} {ls : List Ln} {w : World} (hr : RowOf cL 3 w w.heap.size A ls) (hid : 0 ≤ id ∧ id < 4294967296) (ho : ∀ l ∈ ls, l.ok) (hn : rightO ls = 0) :
    Calls Tryd.prog 14 #[.agg #[.int .u32 id, .slice A ls.length c]] w fun e w' => e = .returned (.string (strOfNums (bytesO id ls))) ∧ Hid (Below w.heap.size w w') := by
  obtain ⟨hl1, hl2, hlb⟩ := right_lines hn
  have HR := Lib.hid hr
  have HO := Lib.hid ho
  have HLB := Lib.hid hlb
  obtain ⟨id0, id1⟩ := hid
  clear hr ho hlb hn
  have hnI : (ls.length : Int) ≤ 8 := by omega
  have hw8 : IntKind.u32.wrap (ls.length : Int) = (ls.length : Int) := by rw [IntKind.wrap_u32]; omega
  have hbk := Blk.new w 25 #[.int .u32 id, .slice A ls.length c]
  have HBK := Lib.hid hbk
  have HB := Lib.hid ((Below.refl _ w).alloc (Nat.le_refl _) (.cells #[.int .u32 id, .slice A ls.length c] 25))
  clear hbk
  have t0 : Hid True := Lib.hid trivial
  go_enter Tryd.func14, Tryd.ntmps14
  go_wp2_with fail
  go_region_held (fun w' => w'.cell? ⟨w.heap.size, 0, none⟩ = some (.int .u32 id) ∧ w'.cell? ⟨w.heap.size, 1, none⟩ = some (.slice A ls.length c)) ((have h9 := And.intro (HBK.out.cell 0) (HBK.out.cell 1); exact h9)) (first
    | (go_at_call 33; have _t := t0; refine Calls.mono (TextD id 4 _ 4 rfl id0 id1 (by decide)) ?_; rintro e wq ⟨rfl, FQ⟩; have HBK1 := Lib.hid (HBK.out.drew.below FQ.out HBK.out.lt); have HB1 := Lib.hid ((below_dr HB.out).trans (FQ.out.mono HB.out.size)); have t1 := t0; clear t0 HBK HB; have HBK := HBK1; have HB := HB1; clear HBK1 HB1)
    | (go_at_call 33; have _t := t1; refine Calls.mono (TextD (ls.length : Int) 1 _ 1 rfl (by omega) (by omega) (by decide)) ?_; rintro e wq ⟨rfl, FQ⟩; have HBK1 := Lib.hid (HBK.out.below FQ.out HBK.out.lt); have HB1 := Lib.hid (HB.out.trans (FQ.out.mono HB.out.size)); clear t1 HBK HB; have HBK := HBK1; have HB := HB1; clear HBK1 HB1))
  rw [str_append]
  go_wp2
  go_loopw [3, 4] (fun s i wr => ∃ k : Nat, i = .int .i64 k ∧ s = .string (strOfNums (be id 4 ++ be ls.length 1 ++ (ls.take k).flatMap lineB)) ∧ k ≤ ls.length ∧ Blk wr w.heap.size 25 #[.int .u32 id, .slice A ls.length c] ∧ Below w.heap.size w wr) (fun _ i _ => ls.length - (intOf i).toNat)
  case atStart => exact ⟨0, rfl, by simp, by omega, HBK.out, HB.out⟩
  case round =>
    clear HBK HB
    obtain ⟨k, rfl, rfl, hk, hbk, hf⟩ := hrel
    have y1 := hbk.cell 1
    have HBK := Lib.hid hbk
    have HF := Lib.hid hf
    clear hbk hf
    have hpl : (be id 4 ++ be ls.length 1 ++ (ls.take k).flatMap lineB).length ≤ 100 := by rw [List.length_append, List.length_append, be_length, be_length, linesB_len, List.length_take]; omega
    by_cases hlt : k < ls.length
    · obtain ⟨ad, rfl, hb', c0, c1, c2⟩ := (RowOf.below HR.out HF.out).ln hlt
      have hft : be id 4 ++ be ls.length 1 ++ (ls.take (k + 1)).flatMap lineB = (be id 4 ++ be ls.length 1 ++ (ls.take k).flatMap lineB) ++ lineB ls[k] := by rw [flat_take_line ls k hlt, ← List.append_assoc]
      obtain ⟨⟨oi0, oi1⟩, ⟨ol0, ol1⟩, _⟩ := HO.out _ (List.getElem_mem hlt)
      obtain ⟨_, q0, q1⟩ := HLB.out _ (List.getElem_mem hlt)
      have HFT := Lib.hid hft
      clear hft hb'
      generalize be id 4 ++ be ls.length 1 ++ (ls.take k).flatMap lineB = pre at *
      generalize ls[k] = x at *
      obtain ⟨xi, xl, xq⟩ := x
      simp only at oi0 oi1 ol0 ol1 q0 q1 c0 c1 c2
      have hwi : IntKind.u32.wrap xi = xi := by rw [IntKind.wrap_u32]; omega
      have hwl : IntKind.u32.wrap xl = xl := by rw [IntKind.wrap_u32]; omega
      have hwq : IntKind.u32.wrap xq = xq := by rw [IntKind.wrap_u32]; omega
      have s0 : (strOfNums pre).size ≤ 100 := by rw [str_size]; exact hpl
      have s1 : (strOfNums (be xi 2)).size = 2 := by rw [str_size, be_length]
      have s2 : (strOfNums (be xl 2)).size = 2 := by rw [str_size, be_length]
      have s3 : (strOfNums (be xq 2)).size = 2 := by rw [str_size, be_length]
      have hnb := Blk.new wr 51 #[.int .u16 xi, .int .u16 xl, .int .i64 xq]
      have HNB := Lib.hid hnb
      have HBK2 := Lib.hid (HBK.out.alloc (.cells #[.int .u16 xi, .int .u16 xl, .int .i64 xq] 51))
      have HF2 := Lib.hid (HF.out.alloc HF.out.size (.cells #[.int .u16 xi, .int .u16 xl, .int .i64 xq] 51))
      have t0 : Hid True := Lib.hid trivial
      clear hnb hpl HBK HF
      go_wp2_with fail
      go_region_held (fun w' => w'.cell? ⟨wr.heap.size, 0, none⟩ = some (.int .u16 xi) ∧ w'.cell? ⟨wr.heap.size, 1, none⟩ = some (.int .u16 xl) ∧ w'.cell? ⟨wr.heap.size, 2, none⟩ = some (.int .i64 xq)) ((have h9 := And.intro (HNB.out.cell 0) (And.intro (HNB.out.cell 1) (HNB.out.cell 2)); exact h9)) (first
        | (go_at_call 33; have _t := t0; refine Calls.mono (TextD xi 2 _ 2 rfl (by omega) (by omega) (by decide)) ?_; rintro e wq ⟨rfl, FQ⟩; have HNB1 := Lib.hid (HNB.out.drew.below FQ.out HNB.out.lt); have HBK1 := Lib.hid (HBK2.out.drew.below FQ.out HBK2.out.lt); have HF1 := Lib.hid ((below_dr HF2.out).trans (FQ.out.mono HF2.out.size)); have t1 := t0; clear t0 HNB HBK2 HF2; have HNB := HNB1; have HBK2 := HBK1; have HF2 := HF1; clear HNB1 HBK1 HF1)
        | (go_at_call 33; have _t := t1; refine Calls.mono (TextD xl 2 _ 2 rfl (by omega) (by omega) (by decide)) ?_; rintro e wq ⟨rfl, FQ⟩; have HNB1 := Lib.hid (HNB.out.below FQ.out HNB.out.lt); have HBK1 := Lib.hid (HBK2.out.below FQ.out HBK2.out.lt); have HF1 := Lib.hid (HF2.out.trans (FQ.out.mono HF2.out.size)); have t2 := t1; clear t1 HNB HBK2 HF2; have HNB := HNB1; have HBK2 := HBK1; have HF2 := HF1; clear HNB1 HBK1 HF1)
        | (go_at_call 33; have _t := t2; refine Calls.mono (TextD xq 2 _ 2 rfl (by omega) (by omega) (by decide)) ?_; rintro e wq ⟨rfl, FQ⟩; have HNB1 := Lib.hid (HNB.out.below FQ.out HNB.out.lt); have HBK1 := Lib.hid (HBK2.out.below FQ.out HBK2.out.lt); have HF1 := Lib.hid (HF2.out.trans (FQ.out.mono HF2.out.size)); clear t2 HNB HBK2 HF2; have HNB := HNB1; have HBK2 := HBK1; have HF2 := HF1; clear HNB1 HBK1 HF1))
      all_goals
        go_wp2
        go_roundw
        case rel => exact ⟨k + 1, by go_num, by rw [HFT.out]; simp only [str_append, lineB, List.append_assoc], by omega, HBK2.out, HF2.out⟩
        case measure => simp [intOf]; omega
    · obtain rfl : k = ls.length := by omega
      have HBO : Hid (be id 4 ++ be ls.length 1 ++ (ls.take ls.length).flatMap lineB = bytesO id ls) := Lib.hid (by rw [List.take_length]; rfl)
      rw [HBO.out]
      go_wp2
      go_ret
      exact ⟨rfl, HF⟩
end Go.Proofs.YtigknfkkegccgaaDoor.K
