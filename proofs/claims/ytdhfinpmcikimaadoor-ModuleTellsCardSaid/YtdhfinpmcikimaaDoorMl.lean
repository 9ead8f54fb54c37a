/- The document's Parse of a command or event; commands and events compared. -/
import Derived.Test.YtdhfinpmcikimaaDoorMk
namespace Go.Proofs.YtdhfinpmcikimaaDoor.K
open Go.RowKit
set_option linter.unusedVariables false
set_option linter.unusedSimpArgs false
theorem idx_str (l : List Int) (hi : InB l) (k : Nat) (hk : k < l.length) (W : World) : (Instr.index 9 (.string (strOfNums l)) (.int .i64 k)).run Tryd.prog W = .ok (.int .u8 (l.getD k 0)) W := by
  have hsz := str_size l
  rw [run_index_string _ 9 _ _ _ Tryd.underlying9, dif_pos ⟨by omega, by omega⟩, List.getD_eq_getElem?_getD, List.getElem?_eq_getElem hk]
  simp only [Option.getD_some]
  rw [← str_at l k hk hi (by omega)]
  simp
theorem results_rparse {w : World} {v4 v5 v6 v7 : Value} {tm : Array Value} (h4 : tm.getD 2 undef = v4) (h5 : tm.getD 3 undef = v5) (h6 : tm.getD 4 undef = v6) (h7 : tm.getD 5 undef = v7) :
    (results Tryd.f15 tm).run Tryd.prog w = .ok (.tuple #[v4, v5, v6, v7]) w := by
  rw [Array.getD_eq_getD_getElem?] at h4 h5 h6 h7
  simp [results, Tryd.results15, go_sem, h4, h5, h6, h7]
def RPPost (l : List Int) (w : World) (e : Ending) (w' : World) : Prop := e = .returned (.tuple #[.int .u8 (parseM l).1, .int .u16 (parseM l).2.1, .int .u16 (parseM l).2.2.1, .int .i64 (parseM l).2.2.2]) ∧ Hid (Fr0 w w')
set_option maxHeartbeats 1000000 in
set_option maxRecDepth 20000 in
theorem RParseC11 {l : List Int} (w : World) (hi : InB l) (hl : l.length ≤ 1000) : Calls Tryd.prog 15 #[.string (strOfNums l)] w (RPPost l w) := by
  have hsz := str_size l
  have HI := Lib.hid hi
  have HF0 : Hid (Fr0 w w) := Lib.hid (Fr.refl _ w)
  clear hi
  by_cases h5 : l.length < 5
  · have hp : parseM l = (0, 0, 0, 2) := by unfold parseM; rw [if_pos h5]
    have HP := Lib.hid hp
    clear hp
    have hs : ((strOfNums l).size : Int) < 5 := by omega
    go_enter Tryd.func15, Tryd.ntmps15
    go_wp2
    refine bodyPost_ret (results_rparse rfl rfl rfl rfl) rfl ?_
    unfold RPPost
    rw [HP.out]
    exact ⟨rfl, HF0⟩
  · by_cases h6 : 5 < l.length
    · have hp : parseM l = (0, 0, 0, 3) := by unfold parseM; rw [if_neg h5, if_neg (by omega)]
      have HP := Lib.hid hp
      clear hp
      have hs : ¬ ((strOfNums l).size : Int) < 5 := by omega
      have hs2 : (5 : Int) < ((strOfNums l).size : Int) := by omega
      go_enter Tryd.func15, Tryd.ntmps15
      go_wp2
      refine bodyPost_ret (results_rparse rfl rfl rfl rfl) rfl ?_
      unfold RPPost
      rw [HP.out]
      exact ⟨rfl, HF0⟩
    · have hs : ((strOfNums l).size : Int) = 5 := by omega
      match l, h5, h6, hsz, HI, hl, hs with
      | [b0, b1, b2, b3, b4], _, _, _, HI, _, hs =>
        have i0 : ∀ W, (Instr.index 9 (.string (strOfNums [b0, b1, b2, b3, b4])) (.int .i64 0)).run Tryd.prog W = .ok (.int .u8 b0) W := fun W => idx_str _ HI.out 0 (by simp) W
        have i1 : ∀ W, (Instr.index 9 (.string (strOfNums [b0, b1, b2, b3, b4])) (.int .i64 1)).run Tryd.prog W = .ok (.int .u8 b1) W := fun W => idx_str _ HI.out 1 (by simp) W
        have i2 : ∀ W, (Instr.index 9 (.string (strOfNums [b0, b1, b2, b3, b4])) (.int .i64 2)).run Tryd.prog W = .ok (.int .u8 b2) W := fun W => idx_str _ HI.out 2 (by simp) W
        have i3 : ∀ W, (Instr.index 9 (.string (strOfNums [b0, b1, b2, b3, b4])) (.int .i64 3)).run Tryd.prog W = .ok (.int .u8 b3) W := fun W => idx_str _ HI.out 3 (by simp) W
        have i4 : ∀ W, (Instr.index 9 (.string (strOfNums [b0, b1, b2, b3, b4])) (.int .i64 4)).run Tryd.prog W = .ok (.int .u8 b4) W := fun W => idx_str _ HI.out 4 (by simp) W
        have hb : ∀ x ∈ [b0, b1, b2, b3, b4], 0 ≤ x ∧ x < 256 := HI.out
        have q0 := hb b0 (by simp)
        have q1 := hb b1 (by simp)
        have q2 := hb b2 (by simp)
        have q3 := hb b3 (by simp)
        have q4 := hb b4 (by simp)
        clear hb
        have hp : parseM [b0, b1, b2, b3, b4] = if b0 = 1 ∨ b0 = 2 then (b0, b1 * 256 + b2, b3 * 256 + b4, 0) else (0, 0, 0, 3) := by
          have h1 : num ([b0, b1, b2, b3, b4].take 1) = b0 := by simp [num]
          have h2 : num (([b0, b1, b2, b3, b4].drop 1).take 2) = b1 * 256 + b2 := by simp [num]
          have h3 : num (([b0, b1, b2, b3, b4].drop 3).take 2) = b3 * 256 + b4 := by simp [num]
          unfold parseM
          rw [if_neg (by simp), h1, h2, h3]
          by_cases h : b0 = 1 ∨ b0 = 2
          · rw [if_pos ⟨rfl, h⟩, if_pos h]
          · rw [if_neg (fun e => h e.2), if_neg h]
        have HP := Lib.hid hp
        clear hp
        generalize strOfNums [b0, b1, b2, b3, b4] = st at *
        by_cases hk : b0 = 1 ∨ b0 = 2
        · have HP2 : Hid (parseM [b0, b1, b2, b3, b4] = (b0, b1 * 256 + b2, b3 * 256 + b4, 0)) := Lib.hid (by rw [HP.out, if_pos hk])
          have k1 : ¬ b0 < 1 := by omega
          have k2 : ¬ 2 < b0 := by omega
          have w1 : IntKind.u16.wrap b1 = b1 := by rw [IntKind.wrap_u16]; omega
          have w2 : IntKind.u16.wrap b2 = b2 := by rw [IntKind.wrap_u16]; omega
          have w3 : IntKind.u16.wrap b3 = b3 := by rw [IntKind.wrap_u16]; omega
          have w4 : IntKind.u16.wrap b4 = b4 := by rw [IntKind.wrap_u16]; omega
          have w5 : IntKind.u16.wrap (b1 * 256) = b1 * 256 := by rw [IntKind.wrap_u16]; omega
          have w6 : IntKind.u16.wrap (b3 * 256) = b3 * 256 := by rw [IntKind.wrap_u16]; omega
          have w7 : IntKind.u16.wrap (b1 * 256 + b2) = b1 * 256 + b2 := by rw [IntKind.wrap_u16]; omega
          have w8 : IntKind.u16.wrap (b3 * 256 + b4) = b3 * 256 + b4 := by rw [IntKind.wrap_u16]; omega
          clear hk HP
          go_enter Tryd.func15, Tryd.ntmps15
          go_wp2
          go_region
          go_wp2
          refine bodyPost_ret (results_rparse rfl rfl rfl rfl) rfl ?_
          unfold RPPost
          rw [HP2.out]
          exact ⟨rfl, Lib.hid HF0.out.drew⟩
        · have HP2 : Hid (parseM [b0, b1, b2, b3, b4] = (0, 0, 0, 3)) := Lib.hid (by rw [HP.out, if_neg hk])
          clear HP
          by_cases k1 : b0 < 1
          · go_enter Tryd.func15, Tryd.ntmps15
            go_wp2
            refine bodyPost_ret (results_rparse rfl rfl rfl rfl) rfl ?_
            unfold RPPost
            rw [HP2.out]
            exact ⟨rfl, HF0⟩
          · have k2 : 2 < b0 := by omega
            go_enter Tryd.func15, Tryd.ntmps15
            go_wp2
            refine bodyPost_ret (results_rparse rfl rfl rfl rfl) rfl ?_
            unfold RPPost
            rw [HP2.out]
            exact ⟨rfl, HF0⟩
section
variable (k t q : Int)
set_option maxHeartbeats 1000000 in
theorem neqC (W : World) : (binOp .neq 24 (.agg #[.int .u8 k, .int .u16 t, .int .u16 q]) (.agg #[.int .u8 k, .int .u16 t, .int .u16 q])).run Tryd.prog W = .ok (.bool false) W := by
  have hp : Tryd.prog.stoodInHeld 24 = false := by kernel_rfl
  have hu := Tryd.underlying24
  rw [run_neq_struct]
  generalize hF : (#[.int .u8 k, .int .u16 t, .int .u16 q] : Array Value) = xs
  rw [run_equalIn_agg _ _ _ _ _ (by unfold Program.fieldsOf; rw [hu]) hp]
  unfold Program.fieldsOf
  rw [hu]
  subst hF
  simp [go_sem, Tryd.underlying22, Tryd.underlying5]
set_option maxHeartbeats 1000000 in
theorem eqlC (W : World) : (binOp .eql 24 (.agg #[.int .u8 k, .int .u16 t, .int .u16 q]) (.agg #[.int .u8 k, .int .u16 t, .int .u16 q])).run Tryd.prog W = .ok (.bool true) W := by
  have hp : Tryd.prog.stoodInHeld 24 = false := by kernel_rfl
  have hu := Tryd.underlying24
  rw [run_eql_struct]
  generalize hF : (#[.int .u8 k, .int .u16 t, .int .u16 q] : Array Value) = xs
  rw [run_equalIn_agg _ _ _ _ _ (by unfold Program.fieldsOf; rw [hu]) hp]
  unfold Program.fieldsOf
  rw [hu]
  subst hF
  simp [go_sem, Tryd.underlying22, Tryd.underlying5]
set_option maxHeartbeats 1000000 in
theorem neqE (W : World) : (binOp .neq 25 (.agg #[.int .u8 k, .int .u16 t, .int .u16 q]) (.agg #[.int .u8 k, .int .u16 t, .int .u16 q])).run Tryd.prog W = .ok (.bool false) W := by
  have hp : Tryd.prog.stoodInHeld 25 = false := by kernel_rfl
  have hu := Tryd.underlying25
  rw [run_neq_struct]
  generalize hF : (#[.int .u8 k, .int .u16 t, .int .u16 q] : Array Value) = xs
  rw [run_equalIn_agg _ _ _ _ _ (by unfold Program.fieldsOf; rw [hu]) hp]
  unfold Program.fieldsOf
  rw [hu]
  subst hF
  simp [go_sem, Tryd.underlying22, Tryd.underlying5]
set_option maxHeartbeats 1000000 in
theorem eqlE (W : World) : (binOp .eql 25 (.agg #[.int .u8 k, .int .u16 t, .int .u16 q]) (.agg #[.int .u8 k, .int .u16 t, .int .u16 q])).run Tryd.prog W = .ok (.bool true) W := by
  have hp : Tryd.prog.stoodInHeld 25 = false := by kernel_rfl
  have hu := Tryd.underlying25
  rw [run_eql_struct]
  generalize hF : (#[.int .u8 k, .int .u16 t, .int .u16 q] : Array Value) = xs
  rw [run_equalIn_agg _ _ _ _ _ (by unfold Program.fieldsOf; rw [hu]) hp]
  unfold Program.fieldsOf
  rw [hu]
  subst hF
  simp [go_sem, Tryd.underlying22, Tryd.underlying5]
end
end Go.Proofs.YtdhfinpmcikimaaDoor.K
