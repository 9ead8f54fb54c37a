/- The document's frame of a frame. -/
import Derived.Test.YtkihoonjekccgaaDoorF6
import Derived.Deep.RegionHeld
import Derived.Laws.StructEq
namespace Go.Proofs.YtkihoonjekccgaaDoor.K
open Go.RowKit
set_option linter.unusedVariables false
set_option linter.unusedSimpArgs false
theorem results_of {w : World} {g : Nat} {a k s q x : Int} {t : ByteArray} {tm : Array Value} (h : Blk w g 45 #[.int .u8 a, .int .u8 k, .int .u8 s, .int .u8 q, .int .u8 x, .string t]) (h2 : tm.getD 2 undef = .pointer (some ⟨g, 0, none⟩)) :
    (results Tryd.f15 tm).run Tryd.prog w = .ok (.agg #[.int .u8 a, .int .u8 k, .int .u8 s, .int .u8 q, .int .u8 x, .string t]) w := by
  have k0 : w.cell? ⟨g, 0, none⟩ = some (.int .u8 a) := h.cell 0
  have k1 : w.cell? ⟨g, 1, none⟩ = some (.int .u8 k) := h.cell 1
  have k2 : w.cell? ⟨g, 2, none⟩ = some (.int .u8 s) := h.cell 2
  have k3 : w.cell? ⟨g, 3, none⟩ = some (.int .u8 q) := h.cell 3
  have k4 : w.cell? ⟨g, 4, none⟩ = some (.int .u8 x) := h.cell 4
  have k5 : w.cell? ⟨g, 5, none⟩ = some (.string t) := h.cell 5
  rw [Array.getD_eq_getD_getElem?] at h2
  simp [results, Tryd.results15, go_sem, h2, k0, k1, k2, k3, k4, k5]
set_option maxHeartbeats 1000000 in
set_option maxRecDepth 10000 in
theorem OfC {A : Option Addr} {c nb : Nat} {a k s q x : Int} {m : List Int} (hn : m.length = nb) (w : World) (h : RowOf c8 1 w w.heap.size A m) :
    Calls Tryd.prog 15 #[.agg #[.int .u8 a, .int .u8 k, .int .u8 s, .int .u8 q, .int .u8 x, .slice A nb c]] w fun e w' => e = .returned (.agg #[.int .u8 a, .int .u8 k, .int .u8 s, .int .u8 q, .int .u8 x, .string (strOfNums m)]) ∧ Hid (Below w.heap.size w w') := by
  have hb : Below w.heap.size w ((w.alloc (.cells #[.int .u8 a, .int .u8 k, .int .u8 s, .int .u8 q, .int .u8 x, .slice A nb c] 35)).alloc (.cells #[.int .u8 0, .int .u8 0, .int .u8 0, .int .u8 0, .int .u8 0, .string ⟨#[]⟩] 45)) := ((Below.refl _ w).alloc (Nat.le_refl _) _).alloc (by simp) _
  have s1 : (convert 32 9 (.slice A nb c)).run Tryd.prog ((w.alloc (.cells #[.int .u8 a, .int .u8 k, .int .u8 s, .int .u8 q, .int .u8 x, .slice A nb c] 35)).alloc (.cells #[.int .u8 0, .int .u8 0, .int .u8 0, .int .u8 0, .int .u8 0, .string ⟨#[]⟩] 45)) = .ok (.string (strOfNums m)) _ := str_n hn (h.below hb)
  have HB := Lib.hid hb
  clear hb h
  go_enter Tryd.func15, Tryd.ntmps15
  go_wp2
  refine bodyPost_ret (results_of (Blk.new_at (by simp)) rfl) rfl ⟨rfl, Lib.hid (((Below.refl _ w).alloc (Nat.le_refl _) _).alloc (by simp) _)⟩
theorem eqlF (a k s q x : Int) (t : ByteArray) (W : World) : (binOp .eql 45 (.agg #[.int .u8 a, .int .u8 k, .int .u8 s, .int .u8 q, .int .u8 x, .string t]) (.agg #[.int .u8 a, .int .u8 k, .int .u8 s, .int .u8 q, .int .u8 x, .string t])).run Tryd.prog W = .ok (.bool true) W := by
  have hp : Tryd.prog.stoodInHeld 45 = false := by kernel_rfl
  have hu := Tryd.underlying45
  rw [run_eql_struct]
  generalize hF : (#[.int .u8 a, .int .u8 k, .int .u8 s, .int .u8 q, .int .u8 x, .string t] : Array Value) = xs
  rw [run_equalIn_agg _ _ _ _ _ (by unfold Program.fieldsOf; rw [hu]) hp]
  unfold Program.fieldsOf
  rw [hu]
  subst hF
  simp [go_sem, Tryd.underlying5, Tryd.underlying9]
end Go.Proofs.YtkihoonjekccgaaDoor.K
