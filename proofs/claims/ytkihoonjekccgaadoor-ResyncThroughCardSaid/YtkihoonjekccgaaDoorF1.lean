/- Frames: whether one is right; its bits. -/
import Derived.Test.YtkihoonjekccgaaDoorCa
import Derived.Test.YtkihoonjekccgaaDoorCl
import Derived.Test.YtkihoonjekccgaaDoorPt1
import Derived.Test.YtkihoonjekccgaaDoorUns
namespace Go.Proofs.YtkihoonjekccgaaDoor.K
open Go.RowKit
set_option linter.unusedVariables false
set_option linter.unusedSimpArgs false
attribute [local go_sem ↓] Go.wp_at_zero Go.wp_at_succ
/-- A frame, plain. -/
structure Fp where
  addr : Int
  kind : Int
  ses : Int
  seq : Int
  ack : Int
  B : List Int
/-- Its numbers are bytes. -/
structure Fp.ok (f : Fp) : Prop where
  a : 0 ≤ f.addr ∧ f.addr < 256
  k : 0 ≤ f.kind ∧ f.kind < 256
  s : 0 ≤ f.ses ∧ f.ses < 256
  q : 0 ≤ f.seq ∧ f.seq < 256
  x : 0 ≤ f.ack ∧ f.ack < 256
  b : InB f.B
def rightF (f : Fp) : Bool := decide (1 ≤ f.addr ∧ f.addr ≤ 31 ∧ 1 ≤ f.kind ∧ f.kind ≤ 5 ∧ f.seq ≤ 1 ∧ f.ack ≤ 1 ∧ f.B.length ≤ 24)
abbrev fvs (f : Fp) (A : Option Addr) (c : Nat) : Array Value := #[.int .u8 f.addr, .int .u8 f.kind, .int .u8 f.ses, .int .u8 f.seq, .int .u8 f.ack, .slice A f.B.length c]
set_option maxHeartbeats 1000000 in
set_option maxRecDepth 10000 in
theorem rightC (f : Fp) (A : Option Addr) (c : Nat) (w : World) : Calls Tryd.prog 22 #[.agg #[.int .u8 f.addr, .int .u8 f.kind, .int .u8 f.ses, .int .u8 f.seq, .int .u8 f.ack, .slice A f.B.length c]] w fun e w' => e = .returned (.bool (rightF f)) ∧ Hid (Below w.heap.size w w') := by
  obtain ⟨addr, kind, ses, seq, ack, B⟩ := f
  simp only
  rcases (by omega : addr < 1 ∨ (1 ≤ addr ∧ 31 < addr) ∨ (1 ≤ addr ∧ addr ≤ 31 ∧ kind < 1) ∨ (1 ≤ addr ∧ addr ≤ 31 ∧ 1 ≤ kind ∧ 5 < kind) ∨ (1 ≤ addr ∧ addr ≤ 31 ∧ 1 ≤ kind ∧ kind ≤ 5 ∧ 1 < seq) ∨ (1 ≤ addr ∧ addr ≤ 31 ∧ 1 ≤ kind ∧ kind ≤ 5 ∧ seq ≤ 1 ∧ 1 < ack) ∨ (1 ≤ addr ∧ addr ≤ 31 ∧ 1 ≤ kind ∧ kind ≤ 5 ∧ seq ≤ 1 ∧ ack ≤ 1 ∧ 24 < (B.length : Int)) ∨ (1 ≤ addr ∧ addr ≤ 31 ∧ 1 ≤ kind ∧ kind ≤ 5 ∧ seq ≤ 1 ∧ ack ≤ 1 ∧ (B.length : Int) ≤ 24)) with h | ⟨h1, h⟩ | ⟨h1, h2, h⟩ | ⟨h1, h2, h3, h⟩ | ⟨h1, h2, h3, h4, h⟩ | ⟨h1, h2, h3, h4, h5, h⟩ | ⟨h1, h2, h3, h4, h5, h6, h⟩ | ⟨h1, h2, h3, h4, h5, h6, h⟩
  all_goals
    go_enter Tryd.func22, Tryd.ntmps22
    go_wp2
    go_ret
    exact ⟨ret_bool (by unfold rightF; simp; first | omega | (rw [Bool.eq_iff_iff]; simp; omega)), Lib.hid ((Below.refl _ w).alloc (Nat.le_refl _) _)⟩
set_option maxHeartbeats 1000000 in
set_option maxRecDepth 10000 in
theorem bitsFC (f : Fp) (A : Option Addr) (c : Nat) (w : World) (hq : 0 ≤ f.seq ∧ f.seq ≤ 1) (hx : 0 ≤ f.ack ∧ f.ack ≤ 1) : Calls Tryd.prog 39 #[.agg #[.int .u8 f.addr, .int .u8 f.kind, .int .u8 f.ses, .int .u8 f.seq, .int .u8 f.ack, .slice A f.B.length c]] w fun e w' => e = .returned (.int .u8 (f.seq + 2 * f.ack)) ∧ Hid (Below w.heap.size w w') := by
  obtain ⟨addr, kind, ses, seq, ack, B⟩ := f
  simp only at hq hx ⊢
  have hb00 : bits .or .u8 0 0 = 0 := by decide
  have hb01 : bits .or .u8 0 2 = 2 := by decide
  have hb10 : bits .or .u8 1 0 = 1 := by decide
  have hb11 : bits .or .u8 1 2 = 3 := by decide
  rcases (by omega : (seq = 0 ∧ ack = 0) ∨ (seq = 0 ∧ ack = 1) ∨ (seq = 1 ∧ ack = 0) ∨ (seq = 1 ∧ ack = 1)) with ⟨rfl, rfl⟩ | ⟨rfl, rfl⟩ | ⟨rfl, rfl⟩ | ⟨rfl, rfl⟩
  all_goals
    clear hq hx
    go_enter Tryd.func39, Tryd.ntmps39
    go_wp2
    go_ret
    exact ⟨rfl, Lib.hid ((Below.refl _ w).alloc (Nat.le_refl _) _)⟩
set_option maxHeartbeats 1000000 in
set_option maxRecDepth 10000 in
theorem RightFC (f : Fp) (A : Option Addr) (c : Nat) (w : World) : Calls Tryd.prog 16 #[.agg #[.int .u8 f.addr, .int .u8 f.kind, .int .u8 f.ses, .int .u8 f.seq, .int .u8 f.ack, .slice A f.B.length c]] w fun e w' => e = .returned (.int .i64 (if rightF f then 0 else 1)) ∧ Hid (Below w.heap.size w w') := by
  have HC := fun W => Lib.hid (rightC f A c W)
  cases hr : rightF f with
  | true =>
    simp only [hr] at HC
    clear hr
    go_enter Tryd.func16, Tryd.ntmps16
    go_wp2_with fail
    refine Calls.mono (HC _).out ?_
    rintro e w1 ⟨rfl, H1⟩
    go_wp2
    go_ret
    exact ⟨rfl, Lib.hid (((Below.refl _ w).alloc (Nat.le_refl _) _).trans (H1.out.mono (by simp)))⟩
  | false =>
    simp only [hr] at HC
    clear hr
    go_enter Tryd.func16, Tryd.ntmps16
    go_wp2_with fail
    refine Calls.mono (HC _).out ?_
    rintro e w1 ⟨rfl, H1⟩
    go_wp2
    go_ret
    exact ⟨rfl, Lib.hid (((Below.refl _ w).alloc (Nat.le_refl _) _).trans (H1.out.mono (by simp)))⟩
end Go.Proofs.YtkihoonjekccgaaDoor.K
