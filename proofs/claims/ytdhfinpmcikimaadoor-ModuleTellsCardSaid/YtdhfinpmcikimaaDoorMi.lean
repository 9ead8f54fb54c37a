/- Module's laws: what a line tells, in plain Lean; displays compared. -/
import Derived.Test.YtdhfinpmcikimaaDoorMh
import Derived.Test.YtdhfinpmcikimaaDoorPl
namespace Go.Proofs.YtdhfinpmcikimaaDoor.K
open Go.RowKit
set_option linter.unusedVariables false
set_option linter.unusedSimpArgs false
theorem parse_bytes {k t q : Int} (hk : 0 ≤ k ∧ k < 256) (ht : 0 ≤ t ∧ t < 65536) (hq : 0 ≤ q ∧ q < 65536) : parseM (bytesM k t q) = if k = 1 ∨ k = 2 then (k, t, q, 0) else (0, 0, 0, 3) := by
  have h1 : num ((bytesM k t q).take 1) = k := by
    have : (bytesM k t q).take 1 = be k 1 := by unfold bytesM; rw [List.append_assoc, List.take_left' (be_length _ _)]
    rw [this, num_be, show (256 : Int) ^ 1 = 256 by decide]; omega
  have h2 : num (((bytesM k t q).drop 1).take 2) = t := by
    have : ((bytesM k t q).drop 1).take 2 = be t 2 := by unfold bytesM; rw [List.append_assoc, List.drop_left' (be_length _ _), List.take_left' (be_length _ _)]
    rw [this, num_be, show (256 : Int) ^ 2 = 65536 by decide]; omega
  have h3 : num (((bytesM k t q).drop 3).take 2) = q := by
    have : ((bytesM k t q).drop 3).take 2 = be q 2 := by
      unfold bytesM
      rw [List.drop_left' (by rw [List.length_append, be_length, be_length]), List.take_of_length_le (by rw [be_length]; omega)]
    rw [this, num_be, show (256 : Int) ^ 2 = 65536 by decide]; omega
  unfold parseM
  rw [if_neg (by rw [bytesM_len]; omega), h1, h2, h3, bytesM_len]
  by_cases h : k = 1 ∨ k = 2
  · rw [if_pos ⟨rfl, h⟩, if_pos h]
  · rw [if_neg (fun e => h e.2), if_neg h]
theorem tells_cmd {tl nx ack k t q : Int} {d : Dp} (hk : k = 1 ∨ k = 2) (ht : 0 ≤ t ∧ t < 65536) (hq : 0 ≤ q ∧ q < 65536) : tellsL ⟨1, tl, nx, 3, []⟩ d nx ack (bytesM k t q) = ⟨[], ⟨1, tl, 1 - nx, 3, []⟩, doesS d false k t q, 1 - nx, ack⟩ := by
  have hl : 0 < (bytesM k t q).length := by rw [bytesM_len]; omega
  have hf : tellF nx ack (bytesM k t q) = ⟨3, 2, 1, nx, ack, bytesM k t q⟩ := by unfold tellF; rw [if_pos hl]
  have hp := parse_bytes (k := k) (t := t) (q := q) (by omega) ht hq
  rw [if_pos hk] at hp
  unfold tellsL
  rw [hf]
  simp [takeS, hearS, nextS, cmdS, ansS, mtakeD, hp, hl]
theorem tells_none {tl nx sq ack : Int} {d : Dp} : tellsL ⟨1, tl, nx, 3, []⟩ d sq ack [] = ⟨[], ⟨1, tl, nx, 3, []⟩, d, sq, ack⟩ := by
  simp [tellsL, tellF, takeS, hearS, nextS, cmdS, ansS, mtakeD_nil]
theorem tells_some {tl nx sq : Int} {d : Dp} {ev : List Int} (he : 0 < ev.length) : tellsL ⟨1, tl, nx, 3, ev⟩ d sq tl [] = ⟨ev, ⟨1, tl, nx, 3, ev⟩, d, sq, 1 - tl⟩ := by
  have : ev ≠ [] := fun e => by rw [e] at he; simp at he
  simp [tellsL, tellF, takeS, hearS, nextS, cmdS, ansS, mtakeD_nil, this]
theorem tells_heard {tl nx sq ack : Int} {d : Dp} {ev : List Int} (he : 0 < ev.length) (h : ack ≠ tl) : tellsL ⟨1, tl, nx, 3, ev⟩ d sq ack [] = ⟨[], ⟨1, 1 - tl, nx, 3, []⟩, d, sq, ack⟩ := by
  simp [tellsL, tellF, takeS, hearS, nextS, cmdS, ansS, mtakeD_nil, he, h]
set_option maxHeartbeats 1000000 in
theorem neqD (d : Dp) (W : World) : (binOp .neq 44 (.agg #[.bool d.lit, .bool d.latched, .int .u16 d.tok, .int .u16 d.qty, .int .u16 d.most]) (.agg #[.bool d.lit, .bool d.latched, .int .u16 d.tok, .int .u16 d.qty, .int .u16 d.most])).run Tryd.prog W = .ok (.bool false) W := by
  have hp : Tryd.prog.stoodInHeld 44 = false := by kernel_rfl
  have hu := Tryd.underlying44
  obtain ⟨a, b, c, x, e⟩ := d
  rw [run_neq_struct]
  simp only
  generalize hF : (#[.bool a, .bool b, .int .u16 c, .int .u16 x, .int .u16 e] : Array Value) = xs
  rw [run_equalIn_agg _ _ _ _ _ (by unfold Program.fieldsOf; rw [hu]) hp]
  unfold Program.fieldsOf
  rw [hu]
  subst hF
  simp [go_sem, Tryd.underlying22, Tryd.underlying4]
set_option maxHeartbeats 1000000 in
theorem eqlD (d : Dp) (W : World) : (binOp .eql 44 (.agg #[.bool d.lit, .bool d.latched, .int .u16 d.tok, .int .u16 d.qty, .int .u16 d.most]) (.agg #[.bool d.lit, .bool d.latched, .int .u16 d.tok, .int .u16 d.qty, .int .u16 d.most])).run Tryd.prog W = .ok (.bool true) W := by
  have hp : Tryd.prog.stoodInHeld 44 = false := by kernel_rfl
  have hu := Tryd.underlying44
  obtain ⟨a, b, c, x, e⟩ := d
  rw [run_eql_struct]
  generalize hF : (#[.bool a, .bool b, .int .u16 c, .int .u16 x, .int .u16 e] : Array Value) = xs
  rw [run_equalIn_agg _ _ _ _ _ (by unfold Program.fieldsOf; rw [hu]) hp]
  unfold Program.fieldsOf
  rw [hu]
  subst hF
  simp [go_sem, Tryd.underlying22, Tryd.underlying4]
end Go.Proofs.YtdhfinpmcikimaaDoor.K
