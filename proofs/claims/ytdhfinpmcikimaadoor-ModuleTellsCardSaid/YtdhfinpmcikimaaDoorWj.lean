/- A Writer: what it holds is told; Join. -/
import Derived.Test.YtdhfinpmcikimaaDoorWd
namespace Go.Proofs.YtdhfinpmcikimaaDoor.K
open Go.RowKit
set_option linter.unusedVariables false
set_option linter.unusedSimpArgs false
theorem cut0n (W : World) : (Instr.slice 26 (.slice none 0 0) (some (.int .i64 0)) none none).run Tryd.prog W = .ok (.slice none 0 0) W := by
  obtain ⟨i0, hi, hz0, hz1, hz2⟩ := info_parts info_u8
  have hel : Tryd.prog.elem 26 = 5 := by simp [Program.elem, Tryd.underlying26]
  have hu : Tryd.prog.underlying 26 = some (.slice (Tryd.prog.elem 26)) := by rw [hel]; exact Tryd.underlying26
  rw [run_slice_l W 26 none 0 0 hu .i64 0 (by omega) (by omega), hel]
  simp [sizeOf, typeInfo, hi, sliced, Result.andThen]
set_option maxRecDepth 10000 in
theorem wrt_open {b : Nat} {v : Value} {l : List Int} {w : World} (h : Wrt b v l w) : ∃ A c, v = .slice A l.length c ∧ RowOf c8 1 w w.heap.size A l ∧ w.cell? ⟨b, 0, none⟩ = some (.slice A l.length c) ∧ w.cell? ⟨b, 1, none⟩ = some (.int .i64 0) ∧
    ∀ W, (Instr.slice 26 (.slice A l.length c) (some (.int .i64 0)) none none).run Tryd.prog W = .ok (.slice A l.length c) W := by
  obtain ⟨⟨lr, hb⟩, hown, hv⟩ := h
  rw [nums_length] at hown
  obtain ⟨A, c, rfl, hc⟩ := own_form hown
  refine ⟨A, c, rfl, row_own (c := c8) (fun _ => rfl) (by rw [← nums_flat]; exact hown), hb.cell 0, hb.cell 1, fun W => ?_⟩
  rcases hown.2 with ⟨hv0, h0⟩ | ⟨g, cap, cur, hv0, _, _, hnc, _⟩
  · injection hv0 with h1 h2 h3
    subst h1 h3; rw [h2]; exact cut0n W
  · injection hv0 with h1 h2 h3
    subst h1 h3; exact cut0 g _ _ W hc
set_option maxHeartbeats 4000000 in
set_option maxRecDepth 10000 in
theorem BufBytesC {b : Nat} {v : Value} {l : List Int} {w : World} (h : Wrt b v l w) :
    Calls Tryd.prog 60 #[.pointer (some ⟨b, 0, none⟩)] w fun e w' => ∃ A c, e = .returned (.slice A l.length c) ∧ Hid (RowOf c8 1 w w.heap.size A l) ∧ ∃ n, w' = w.drewN n := by
  obtain ⟨A, c, _, hr, c0, c1, hcut⟩ := wrt_open h
  have HR := Lib.hid hr
  clear h hr
  go_enter Tryd.func60, Tryd.ntmps60
  go_wp2_with fail
  go_quiet (fail)
  go_wp2
  go_ret
  exact ⟨A, c, rfl, HR, _, rfl⟩
theorem RowOf.drewN_ {α : Type} {c : α → List Value} {size B : Nat} {w : World} {A : Option Addr} {l : List α} (h : RowOf c size w B A l) (n : Nat) : RowOf c size (w.drewN n) B A l := h
theorem Fr.undrew {S : Nat → Prop} {w w' : World} (h : Fr S w.drew w') : Fr S w w' := ⟨h.os, h.tape, h.output, h.size, h.block⟩
theorem Fr.undrewN {S : Nat → Prop} {w w' : World} {n : Nat} (h : Fr S (w.drewN n) w') : Fr S w w' := ⟨h.os, h.tape, h.output, h.size, h.block⟩
set_option maxRecDepth 10000 in
theorem WDoneC {b : Nat} {v : Value} {l : List Int} {w : World} (h : Wrt b v l w) (hl : l.length ≤ 140737488355328) :
    Calls Tryd.prog 47 #[.pointer (some ⟨b, 0, none⟩)] w fun e w' => ∃ A' c', e = .returned (.slice A' l.length c') ∧ Hid (Made w.heap.size A' c' l w') ∧ Hid (Fr0 w w') := by
  have H := Lib.hid h
  clear h
  go_enter Tryd.func47, Tryd.ntmps47
  go_wp2_with fail
  (with_reducible refine (BufBytesC H.out).mono ?_)
  rintro e w1 ⟨A, c, rfl, HR, n, rfl⟩
  go_wp2_with fail
  (with_reducible refine (CloneC hl (HR.out.drewN_ n)).mono ?_)
  rintro e w2 ⟨A2, c2, rfl, H2, F2⟩
  go_wp2
  go_ret
  exact ⟨A2, c2, rfl, H2, Lib.hid F2.out.undrewN⟩
theorem wrt_new (w : World) : Wrt w.heap.size (.slice none 0 0) [] (w.alloc (.cells #[.slice none 0 0, .int .i64 0, .int .i8 0] 107)) :=
  ⟨⟨0, Blk.new w _ _⟩, own_nil _ _ _ _, by simp [Value.ownBlock]⟩
end Go.Proofs.YtdhfinpmcikimaaDoor.K
