/- Orders: a book's places, and its open orders. -/
import Derived.Test.YtigknfkkegccgaaDoorOB3
namespace Go.Proofs.YtigknfkkegccgaaDoor.K
open Go.RowKit
set_option linter.unusedVariables false
set_option linter.unusedSimpArgs false
attribute [local go_sem ↓] Go.wp_at_zero Go.wp_at_succ
set_option maxHeartbeats 1000000 in
set_option maxRecDepth 10000 in
theorem placeC {B b g : Nat} {v : Value} {os : List So} {ids : List Int} {id : Int} {w : World} (h : Bk B b g v os ids w) (hl : os.length ≤ 1000) :
    Calls Tryd.prog 48 #[.pointer (some ⟨b, 0, none⟩), .int .u32 id] w fun e w' => e = .returned (.int .i64 (idxI id os)) ∧ Hid (Below w.heap.size w w') := by
  have hmf : ∀ (fn : Fn) (first cap : Array Value) (w : World), (Instr.makeFunc fn first cap).run Tryd.prog w = .ok (.func fn first cap) w := fun _ _ _ _ => rfl
  obtain ⟨A, c, rfl, hc⟩ := own_form h.row
  have hr := row_own (c := cO) (fun _ => rfl) h.row
  have hbl : Below w.heap.size w (w.alloc (.cells #[.int .u32 id] 22)) := (Below.refl _ w).alloc (Nat.le_refl _) _
  have hnb := Blk.new w 22 #[.int .u32 id]
  have HC := Lib.hid (IndexOC (c := c) (id := id) (hnb.cell 0) hnb.lt (RowOf.below hr hbl) (by simp) hl)
  have HBL := Lib.hid hbl
  have c0 := (h.blk.alloc (.cells #[.int .u32 id] 22)).cell 0
  clear h hr hbl hnb
  go_enter Tryd.func48, Tryd.ntmps48
  go_wp2_with fail
  refine Calls.mono HC.out ?_
  rintro e w1 ⟨rfl, F1⟩
  go_wp2
  go_ret
  exact ⟨rfl, Lib.hid (HBL.out.trans (F1.out.mono HBL.out.size))⟩
theorem info_u32x : (Tryd.prog.info? 22).map (fun i => (i.zero, i.size, i.bytes)) = some (some (.int .u32 0), 1, 4) := by kernel_rfl
set_option maxHeartbeats 2000000 in
set_option maxRecDepth 10000 in
theorem OpenC {B b g : Nat} {v : Value} {os : List So} {ids : List Int} {w : World} (h : Bk B b g v os ids w) (hl : os.length ≤ 1000) :
    Calls Tryd.prog 26 #[.pointer (some ⟨b, 0, none⟩)] w fun e w' => ∃ v', e = .returned v' ∧ Hid (w'.ownsRow w.heap.size 22 1 v' os.length (nums .u32 (os.map So.id))) ∧ Hid (Below w.heap.size w w') := by
  obtain ⟨A, c, rfl, hc⟩ := own_form h.row
  have hr := row_own (c := cO) (fun _ => rfl) h.row
  have c0 := h.blk.cell 0
  have HR := Lib.hid hr
  clear h hr
  go_enter Tryd.func26, Tryd.ntmps26
  go_wp2
  go_loopw [2, 10] (fun a i wr => ∃ k : Nat, i = .int .i64 k ∧ k ≤ os.length ∧ wr.ownsRow w.heap.size 22 1 a k (nums .u32 ((os.take k).map So.id)) ∧ Below w.heap.size w wr) (fun _ i _ => os.length - (intOf i).toNat)
  case atStart => exact ⟨0, rfl, by omega, by simpa [nums] using own_nil _ _ _ _, Below.refl _ _⟩
  case round =>
    obtain ⟨k, rfl, hk, hown, hf⟩ := hrel
    have HF := Lib.hid hf
    obtain ⟨OA, oc, rfl, hoc⟩ := own_form hown
    have HO := Lib.hid hown
    clear hown hf
    by_cases hlt : k < os.length
    · obtain ⟨ad, rfl, hb', d0, d1⟩ := (RowOf.below HR.out HF.out).so hlt
      have HT : Hid ((os.take (k + 1)).map So.id = (os.take k).map So.id ++ [(os[k]).id]) := Lib.hid (by rw [List.take_succ_eq_append_getElem hlt, List.map_append]; rfl)
      clear hb'
      generalize (os[k]).id = x at *
      generalize (os[k]).A = xa at *
      generalize (os[k]).c = xc at *
      generalize (os[k]).ls.length = xn at *
      have n0 := (Blk.new wr 25 #[.int .u32 x, .slice xa xn xc]).cell 0
      have n1 := (Blk.new wr 25 #[.int .u32 x, .slice xa xn xc]).cell 1
      have HO1 := Lib.hid (own_fr HO.out ((Fr.refl (fun _ => False) wr).alloc (.cells #[.int .u32 x, .slice xa xn xc] 25)) (fun _ _ h => h))
      have HF1 := Lib.hid (HF.out.alloc HF.out.size (.cells #[.int .u32 x, .slice xa xn xc] 25))
      go_wp2_with (at_builtin; go_loud (refine app1g rfl _ _ _ rfl 22 (.int .u32 0) 1 4 Tryd.underlying55 info_u32x rfl (by omega) (by omega) w.heap.size (wr.heap.size + 1) (by simp) (.slice OA k oc) k _ [.int .u32 x] rfl rfl rfl (fun u hu => by simp at hu; subst hu; rfl) HO1.out HF1.out.size (by omega) ?_; intro v2 w2 h3 h4 h5; have H3 := Lib.hid h3; have H4 := Lib.hid h4; clear h3 h4 h5))
      go_wp2
      go_roundw
      case rel =>
        refine ⟨k + 1, by go_num, by omega, by rw [HT.out, nums_append]; exact H3.out, below_fr HF1.out H4.out HF1.out.size (fun j e => (HO1.out.lt j e).1)⟩
      case measure => simp [intOf]; omega
    · obtain rfl : k = os.length := by omega
      rw [List.take_length] at HO
      go_wp2
      go_ret
      exact ⟨_, rfl, HO, Lib.hid HF.out⟩
end Go.Proofs.YtigknfkkegccgaaDoor.K
