/- The document's Right. -/
import Derived.Test.YtigknfkkegccgaaDoorOLp
import Derived.Test.YtigknfkkegccgaaDoorOBd
import Derived.BigQuiet
namespace Go.Proofs.YtigknfkkegccgaaDoor.K
open Go.RowKit
set_option linter.unusedVariables false
set_option linter.unusedSimpArgs false
attribute [local go_sem ↓] Go.wp_at_zero Go.wp_at_succ
set_option maxHeartbeats 4000000 in
set_option maxRecDepth 10000 in
theorem RightRC {A : Option Addr} {c : Nat} {id : Int} {ls : List Ln} {w : World} (hr : RowOf cL 3 w w.heap.size A ls) (hl : ls.length ≤ 140737488355328) (ho : ∀ l ∈ ls, l.ok) :
    Calls Tryd.prog 11 #[.agg #[.int .u32 id, .slice A ls.length c]] w fun e w' => e = .returned (.int .i64 (rightO ls)) ∧ Hid (Below w.heap.size w w') := by
  unfold rightO
  rcases (by omega : ls.length = 0 ∨ 8 < ls.length ∨ 1 ≤ ls.length ∧ ls.length ≤ 8) with h0 | h8 | ⟨h1, h8⟩
  · rw [if_pos h0]
    clear hr ho
    rw [h0]
    go_enter Tryd.func11, Tryd.ntmps11
    go_wp2
    go_ret
    exact ⟨rfl, Lib.hid ((Below.refl _ w).alloc (Nat.le_refl _) _)⟩
  · rw [if_neg (by omega), if_pos h8]
    clear hr ho
    go_enter Tryd.func11, Tryd.ntmps11
    go_wp2
    go_ret
    exact ⟨rfl, Lib.hid ((Below.refl _ w).alloc (Nat.le_refl _) _)⟩
  · rw [if_neg (by omega), if_neg (by omega)]
    have HR := Lib.hid hr
    have HO := Lib.hid ho
    clear hr ho
    go_enter Tryd.func11, Tryd.ntmps11
    go_wp2
    go_loopw [3] (fun i wr => ∃ k : Nat, i = .int .i64 k ∧ k ≤ ls.length ∧ rightL [] ls = rightL (ls.take k) (ls.drop k) ∧ Below w.heap.size w wr ∧ Blk wr w.heap.size 25 #[.int .u32 id, .slice A ls.length c]) (fun i _ => ls.length - (intOf i).toNat)
    case atStart => exact ⟨0, rfl, by omega, by simp, (Below.refl _ w).alloc (Nat.le_refl _) _, Blk.new _ _ _⟩
    case round =>
      obtain ⟨k, rfl, hk, hno, hf, hblk⟩ := hrel
      rename ((ls.length : Int) == 0) = false => hz
      clear hz
      have HN := Lib.hid hno
      have HF := Lib.hid hf
      have HBK := Lib.hid hblk
      have b1 := hblk.cell 1
      clear hno hf hblk
      by_cases hlt : k < ls.length
      · obtain ⟨ad, rfl, hb', c0, c1, c2⟩ := (RowOf.below HR.out HF.out).ln hlt
        have hsz := HF.out.size
        have HT := Lib.hid (rightL_take ls k hlt)
        have hok := HO.out _ (List.getElem_mem hlt)
        have HLT := Lib.hid hlt
        have HXE : Hid (∃ x, x = ls[k]) := Lib.hid ⟨_, rfl⟩
        generalize ls[k] = x at *
        obtain ⟨⟨o1, o2⟩, ⟨o3, o4⟩, o5, o6⟩ := hok
        obtain ⟨xi, xl, xq⟩ := x
        simp only at o1 o2 o3 o4 o5 o6 c0 c1 c2
        have hB : Below w.heap.size w (wr.alloc (.cells #[.int .u16 xi, .int .u16 xl, .int .i64 xq] 51)) := HF.out.alloc hsz _
        have hnb := Blk.new wr 51 #[.int .u16 xi, .int .u16 xl, .int .i64 xq]
        have n0 := hnb.cell 0
        have n1 := hnb.cell 1
        have n2 := hnb.cell 2
        have hbk' := HBK.out.alloc (.cells #[.int .u16 xi, .int .u16 xl, .int .i64 xq] 51)
        have HB := Lib.hid hB
        have HNB := Lib.hid hnb
        have HBK' := Lib.hid hbk'
        clear hB hnb hbk' hb'
        by_cases g1 : 64 ≤ xl
        · have hv : lineF (ls.take k) ⟨xi, xl, xq⟩ = 1 := by unfold lineF; rw [if_pos g1]
          rw [hv] at HT
          have hres : rightL [] ls = 1 := by rw [HN.out, HT.out]; rfl
          have HRES := Lib.hid hres
          clear hres hv
          go_wp2
          go_ret
          exact ⟨ret_int HRES.out.symm, HB⟩
        · rcases (by omega : xq < 1 ∨ 1 ≤ xq ∧ 9999 < xq ∨ 1 ≤ xq ∧ xq ≤ 9999) with g2 | ⟨g2, g3⟩ | ⟨g2, g3⟩
          · have hv : lineF (ls.take k) ⟨xi, xl, xq⟩ = 10 := by unfold lineF; rw [if_neg g1, if_pos (.inl g2)]
            rw [hv] at HT
            have hres : rightL [] ls = 10 := by rw [HN.out, HT.out]; rfl
            have HRES := Lib.hid hres
            clear hres hv
            go_wp2
            go_ret
            exact ⟨ret_int HRES.out.symm, HB⟩
          · have hv : lineF (ls.take k) ⟨xi, xl, xq⟩ = 10 := by unfold lineF; rw [if_neg g1, if_pos (.inr g3)]
            rw [hv] at HT
            have hres : rightL [] ls = 10 := by rw [HN.out, HT.out]; rfl
            have HRES := Lib.hid hres
            clear hres hv
            go_wp2
            go_ret
            exact ⟨ret_int HRES.out.symm, HB⟩
          · have hv : Hid (lineF (ls.take k) ⟨xi, xl, xq⟩ = if (ls.take k).any (sameL ⟨xi, xl, xq⟩) then 8 else 0) := Lib.hid (by unfold lineF; rw [if_neg g1, if_neg (by simp only; omega)])
            go_wp2
            go_loopw [5] (fun j wx => ∃ m : Nat, j = .int .i64 m ∧ m ≤ k ∧ (ls.take m).any (sameL ⟨xi, xl, xq⟩) = false ∧ Below w.heap.size w wx ∧ Blk wx wr.heap.size 51 #[.int .u16 xi, .int .u16 xl, .int .i64 xq] ∧ Blk wx w.heap.size 25 #[.int .u32 id, .slice (some ad) ls.length c]) (fun j _ => k - (intOf j).toNat)
            case atStart => exact ⟨0, rfl, by omega, by simp, HB.out, HNB.out, HBK'.out⟩
            case round =>
              clear HNB HBK' n0 n1 n2 HB
              obtain ⟨m, rfl, hm, hany, hfx, hnx, hbx⟩ := hrel
              have HANY := Lib.hid hany
              have HFX := Lib.hid hfx
              have HNX := Lib.hid hnx
              have HBX := Lib.hid hbx
              have n0 := hnx.cell 0
              have n1 := hnx.cell 1
              have y1 := hbx.cell 1
              clear hany hfx hnx hbx
              by_cases hmk : m < k
              · have hml : m < ls.length := by omega
                obtain ⟨bd, e, _, d0, d1, d2⟩ := (RowOf.below HR.out HFX.out).ln hml
                obtain rfl := Option.some.inj e
                have HTM : Hid (ls.take (m + 1) = ls.take m ++ [ls[m]]) := Lib.hid (List.take_succ_eq_append_getElem hml)
                have HMEM : Hid (ls[m] ∈ ls.take k) := Lib.hid (by
                  have h : m < (ls.take k).length := by rw [List.length_take]; omega
                  have := List.getElem_mem h
                  rwa [List.getElem_take] at this)
                have hyok := HO.out _ (List.getElem_mem hml)
                generalize ls[m] = y at *
                obtain ⟨yi, yl, yq⟩ := y
                simp only at d0 d1 d2
                clear hyok
                by_cases hi : yi = xi
                · subst hi
                  have hres : rightL [] ls = 8 := by
                    rw [HN.out, HT.out, hv.out, if_pos (List.any_eq_true.2 ⟨_, HMEM.out, by simp [sameL]⟩)]; rfl
                  have HRES := Lib.hid hres
                  clear hres
                  go_wp2_with fail
                  go_quiet (fail)
                  go_wp2
                  go_ret
                  exact ⟨ret_int HRES.out.symm, Lib.hid (below_drewN HFX.out _)⟩
                · have hib : (yi == xi) = false := by simpa using hi
                  have hid2 : decide (yi = xi) = false := by simpa using hi
                  by_cases hj : yl = xl
                  · subst hj
                    have hres : rightL [] ls = 8 := by
                      rw [HN.out, HT.out, hv.out, if_pos (List.any_eq_true.2 ⟨_, HMEM.out, by simp [sameL]⟩)]; rfl
                    have HRES := Lib.hid hres
                    clear hres hi
                    go_wp2_with fail
                    go_quiet (fail)
                    go_wp2
                    go_ret
                    exact ⟨ret_int HRES.out.symm, Lib.hid (below_drewN HFX.out _)⟩
                  · have hjb : (yl == xl) = false := by simpa using hj
                    have hjd : decide (yl = xl) = false := by simpa using hj
                    have HST : Hid (sameL ⟨xi, xl, xq⟩ ⟨yi, yl, yq⟩ = false) := Lib.hid (by simp [sameL, hi, hj])
                    clear hi hj
                    go_wp2_with fail
                    go_quiet (fail)
                    go_wp2
                    go_roundw
                    case rel => exact ⟨m + 1, by go_num, by omega, by rw [HTM.out, List.any_append, HANY.out]; simp [HST.out], below_drewN HFX.out _, HNX.out.drewN _, HBX.out.drewN _⟩
                    case measure => simp [intOf]; omega
              · obtain rfl : k = m := by omega
                go_wp2
                go_roundw
                case rel => exact ⟨k + 1, by go_num, by omega, by rw [HN.out, HT.out, hv.out, HANY.out]; rfl, HFX.out, HBX.out⟩
                case measure => simp [intOf]; omega
      · obtain rfl : k = ls.length := by omega
        have hend : rightL [] ls = 0 := by rw [HN.out, List.drop_length]; rfl
        go_wp2
        go_ret
        exact ⟨ret_int hend.symm, Lib.hid HF.out⟩
end Go.Proofs.YtigknfkkegccgaaDoor.K
