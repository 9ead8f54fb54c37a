/- Orders: the document's Same. -/
import Derived.Test.YtigknfkkegccgaaDoorOBd
import Derived.BigQuiet
namespace Go.Proofs.YtigknfkkegccgaaDoor.K
open Go.RowKit
set_option linter.unusedVariables false
set_option linter.unusedSimpArgs false
attribute [local go_sem ↓] Go.wp_at_zero Go.wp_at_succ
theorem neqL (x y : Ln) (W : World) : (binOp .neq 51 (.agg #[.int .u16 x.item, .int .u16 x.loc, .int .i64 x.qty]) (.agg #[.int .u16 y.item, .int .u16 y.loc, .int .i64 y.qty])).run Tryd.prog W = .ok (.bool (decide (x ≠ y))) W := by
  have hp : Tryd.prog.stoodInHeld 51 = false := by kernel_rfl
  have hu := Tryd.underlying51
  obtain ⟨xi, xl, xq⟩ := x
  obtain ⟨yi, yl, yq⟩ := y
  rw [run_neq_struct]
  simp only
  generalize hF : (#[.int .u16 xi, .int .u16 xl, .int .i64 xq] : Array Value) = xs
  generalize hG : (#[.int .u16 yi, .int .u16 yl, .int .i64 yq] : Array Value) = ys
  rw [run_equalIn_agg _ _ _ _ _ (by unfold Program.fieldsOf; rw [hu]) hp]
  unfold Program.fieldsOf
  rw [hu]
  subst hF
  subst hG
  by_cases h1 : xi = yi
  · by_cases h2 : xl = yl
    · by_cases h3 : xq = yq
      · subst h1 h2 h3
        simp [go_sem, Tryd.underlying49, Tryd.underlying3]
      · subst h1 h2
        have : decide (xq = yq) = false := by simp [h3]
        simp [go_sem, Tryd.underlying49, Tryd.underlying3, h3]
    · subst h1
      simp [go_sem, Tryd.underlying49, Tryd.underlying3, h2]
  · simp [go_sem, Tryd.underlying49, Tryd.underlying3, h1]
theorem cell_lt {w : World} {p : Addr} {u : Value} (h : w.cell? p = some u) : p.block < w.heap.size := by
  rcases Nat.lt_or_ge p.block w.heap.size with h' | h'
  · exact h'
  · simp [World.cell?, Array.getElem?_eq_none h'] at h
set_option maxHeartbeats 2000000 in
set_option maxRecDepth 10000 in
theorem SameC {A B : Option Addr} {c d : Nat} {i j : Int} {ls ms : List Ln} {w : World} (hA : RowOf cL 3 w w.heap.size A ls) (hB : RowOf cL 3 w w.heap.size B ms) (hl : ls.length ≤ 1000) :
    Calls Tryd.prog 17 #[.agg #[.int .u32 i, .slice A ls.length c], .agg #[.int .u32 j, .slice B ms.length d]] w fun e w' => e = .returned (.bool (decide (i = j ∧ ls = ms))) ∧ Hid (Below w.heap.size w w') := by
  have hp : Blk ((w.alloc (.cells #[.int .u32 i, .slice A ls.length c] 25)).alloc (.cells #[.int .u32 j, .slice B ms.length d] 25)) w.heap.size 25 #[.int .u32 i, .slice A ls.length c] := (Blk.new w _ _).alloc _
  have hq : Blk ((w.alloc (.cells #[.int .u32 i, .slice A ls.length c] 25)).alloc (.cells #[.int .u32 j, .slice B ms.length d] 25)) (w.heap.size + 1) 25 #[.int .u32 j, .slice B ms.length d] := Blk.new_at (by simp)
  have hb : Below w.heap.size w ((w.alloc (.cells #[.int .u32 i, .slice A ls.length c] 25)).alloc (.cells #[.int .u32 j, .slice B ms.length d] 25)) := ((Below.refl _ w).alloc (Nat.le_refl _) _).alloc (by simp) _
  have p0 := hp.cell 0
  have p1 := hp.cell 1
  have q0 := hq.cell 0
  have q1 := hq.cell 1
  have HA := Lib.hid hA
  have HB := Lib.hid hB
  have HP := Lib.hid hp
  have HQ := Lib.hid hq
  have HW := Lib.hid hb
  clear hp hq hb hA hB
  by_cases hij : i = j
  · subst hij
    by_cases hlm : ls.length = ms.length
    · rw [hlm] at p0 p1 q0 q1 HP HQ HW hl ⊢
      have HLM := Lib.hid hlm
      clear hlm
      go_enter Tryd.func17, Tryd.ntmps17
      go_wp2
      go_loopw [5] (fun s wr => ∃ k : Nat, s = .int .i64 k ∧ k ≤ ms.length ∧ ls.take k = ms.take k ∧ Below w.heap.size w wr ∧ Blk wr w.heap.size 25 #[.int .u32 i, .slice A ms.length c] ∧ Blk wr (w.heap.size + 1) 25 #[.int .u32 i, .slice B ms.length d]) (fun i _ => ms.length - (intOf i).toNat)
      case atStart => exact ⟨0, rfl, by omega, rfl, HW.out, HP.out, HQ.out⟩
      case round =>
        clear p0 p1 q0 q1 HP HQ HW
        obtain ⟨k, rfl, hk, ht, hf, hp, hq⟩ := hrel
        have HT := Lib.hid ht
        have HF := Lib.hid hf
        have p1 := hp.cell 1
        have q1 := hq.cell 1
        have HP := Lib.hid hp
        have HQ := Lib.hid hq
        clear hf ht hp hq
        by_cases hlt2 : k < ms.length
        · have hlt : k < ls.length := by rw [HLM.out]; exact hlt2
          obtain ⟨ad, rfl, _, a0, a1, a2⟩ := (RowOf.below HA.out HF.out).ln hlt
          obtain ⟨bd, rfl, _, b0, b1, b2⟩ := (RowOf.below HB.out HF.out).ln hlt2
          have hs1 : Hid (ls.take (k + 1) = ls.take k ++ [ls[k]]) := Lib.hid (List.take_succ_eq_append_getElem hlt)
          have hs2 : Hid (ms.take (k + 1) = ms.take k ++ [ms[k]]) := Lib.hid (List.take_succ_eq_append_getElem hlt2)
          have hd1 : Hid (ls = ms → ls[k] = ms[k]) := Lib.hid (fun h => by subst h; rfl)
          have hneq := fun W => neqL ls[k] ms[k] W
          generalize ls[k] = x at *
          generalize ms[k] = y at *
          clear hlt
          by_cases hxy : x = y
          · rw [show decide (x ≠ y) = false by simp [hxy]] at hneq
            have HXY := Lib.hid hxy
            clear hxy
            go_wp2_with fail
            go_region
            go_wp2
            go_roundw
            case rel => exact ⟨k + 1, by go_num, by omega, by rw [hs1.out, hs2.out, HT.out, HXY.out], below_dr HF.out, HP.out, HQ.out⟩
            case measure => simp [intOf]; omega
          · rw [show decide (x ≠ y) = true by simp [hxy]] at hneq
            have HRES : Hid (decide (ls = ms) = false) := Lib.hid (by simp; exact fun h => hxy (hd1.out h))
            clear hxy
            go_wp2_with fail
            go_region
            go_wp2
            go_ret
            exact ⟨ret_bool (by simpa using HRES.out), Lib.hid (below_dr HF.out)⟩
        · have hkl : k = ms.length := by omega
          have HRES : Hid (decide (ls = ms) = true) := Lib.hid (by
            have := HT.out
            rw [hkl, List.take_length, ← HLM.out, List.take_length] at this
            simp [this])
          subst hkl
          go_wp2
          go_ret
          exact ⟨ret_bool (by simpa using HRES.out), HF⟩
    · have hne : decide (ls = ms) = false := by simp; intro h; exact hlm (by rw [h])
      have hlI2 : (ls.length : Int) ≠ (ms.length : Int) := by omega
      have HNE := Lib.hid hne
      clear hne hlm
      go_enter Tryd.func17, Tryd.ntmps17
      go_wp2
      go_ret
      exact ⟨ret_bool (by simpa using HNE.out), HW⟩
  · have hne : decide (i = j ∧ ls = ms) = false := by simp [hij]
    have HNE := Lib.hid hne
    have hijb : (i == j) = false := by simpa using hij
    clear hne
    go_enter Tryd.func17, Tryd.ntmps17
    go_wp2
    go_ret
    exact ⟨ret_bool HNE.out.symm, HW⟩
end Go.Proofs.YtigknfkkegccgaaDoor.K
