/- The document's Text of a command or event. -/
import Derived.Test.YtdhfinpmcikimaaDoorMi
namespace Go.Proofs.YtdhfinpmcikimaaDoor.K
open Go.RowKit
set_option linter.unusedVariables false
set_option linter.unusedSimpArgs false
theorem bytesM_five (k t q : Int) (hk : 0 ≤ k ∧ k < 256) (ht : 0 ≤ t ∧ t < 65536) (hq : 0 ≤ q ∧ q < 65536) : bytesM k t q = [k, t / 256, t % 256, q / 256, q % 256] := by
  simp only [bytesM, be, List.nil_append, List.cons_append, List.append_nil, List.append_assoc]
  rw [show (256 : Int) ^ 1 = 256 by decide, show (256 : Int) ^ 0 = 1 by decide, Int.ediv_one, Int.ediv_one, Int.ediv_one, show k % 256 = k by omega, show t / 256 % 256 = t / 256 by omega, show q / 256 % 256 = q / 256 by omega]
set_option maxHeartbeats 1000000 in
set_option maxRecDepth 20000 in
theorem RTextC11 {k t q : Int} (w : World) (hk : 0 ≤ k ∧ k < 256) (ht : 0 ≤ t ∧ t < 65536) (hq : 0 ≤ q ∧ q < 65536) :
    Calls Tryd.prog 14 #[.int .u8 k, .int .u16 t, .int .u16 q] w fun e w' => e = .returned (.string (strOfNums (bytesM k t q))) ∧ Hid (Fr0 w w') := by
  have hL := bytesM_five k t q hk ht hq
  have HL := Lib.hid hL
  have a1 : IntKind.u16.wrap (t.tdiv 256) = t / 256 := by rw [IntKind.wrap_u16, Int.tdiv_eq_ediv_of_nonneg ht.1]; omega
  have a2 : IntKind.u16.wrap (q.tdiv 256) = q / 256 := by rw [IntKind.wrap_u16, Int.tdiv_eq_ediv_of_nonneg hq.1]; omega
  have b1 : t.tmod 256 = t % 256 := Int.tmod_eq_emod_of_nonneg ht.1
  have b2 : q.tmod 256 = q % 256 := Int.tmod_eq_emod_of_nonneg hq.1
  have e1 : t % 256 % 256 = t % 256 := by omega
  have e2 : q % 256 % 256 = q % 256 := by omega
  have c1 : IntKind.u8.wrap (t / 256) = t / 256 := by rw [IntKind.wrap_u8]; omega
  have c2 : IntKind.u8.wrap (q / 256) = q / 256 := by rw [IntKind.wrap_u8]; omega
  have d1 : IntKind.u8.wrap (t % 256) = t % 256 := by rw [IntKind.wrap_u8]; omega
  have d2 : IntKind.u8.wrap (q % 256) = q % 256 := by rw [IntKind.wrap_u8]; omega
  have hS : (convert 26 9 (.slice (some ⟨w.heap.size, 0, none⟩) 5 5)).run Tryd.prog (w.alloc (.cells #[.int .u8 k, .int .u8 (t / 256), .int .u8 (t % 256), .int .u8 (q / 256), .int .u8 (q % 256)] 5)) = .ok (.string (strOfNums (bytesM k t q))) (w.alloc (.cells #[.int .u8 k, .int .u8 (t / 256), .int .u8 (t % 256), .int .u8 (q / 256), .int .u8 (q % 256)] 5)) := by
    rw [hL]
    exact str_row (l := [k, t / 256, t % 256, q / 256, q % 256]) (row_blk (B := w.heap.size + 1) (by exact Blk.new w 5 #[.int .u8 k, .int .u8 (t / 256), .int .u8 (t % 256), .int .u8 (q / 256), .int .u8 (q % 256)]) (by omega))
  have HF : Hid (Fr0 w (w.alloc (.cells #[.int .u8 k, .int .u8 (t / 256), .int .u8 (t % 256), .int .u8 (q / 256), .int .u8 (q % 256)] 5))) := Lib.hid ((Fr.refl (fun _ => False) w).alloc _)
  clear hL hk ht hq
  go_enter Tryd.func14, Tryd.ntmps14
  go_wp2
  go_ret
  exact ⟨rfl, HF⟩
end Go.Proofs.YtdhfinpmcikimaaDoor.K
