/- Orders: check, must; what is deferred where they are parsed. -/
import Derived.Test.YtigknfkkegccgaaDoorO2
import Derived.WalkLawsBesides
import Derived.Defers
import Derived.Recover
import Derived.Laws.Pointers
namespace Go.Proofs.YtigknfkkegccgaaDoor.K
open Go.RowKit
set_option linter.unusedVariables false
set_option linter.unusedSimpArgs false
attribute [local go_sem ↓] Go.wp_at_zero Go.wp_at_succ
/-- The panic with an error. -/
abbrev errP (e : Int) : List PanicEntry := [{ v := .iface 29 (.int .i64 e), recovered := false }]
set_option maxRecDepth 10000 in
theorem checkC (w : World) : Calls Tryd.prog 42 #[.int .i64 0] w fun e w' => e = .returned (.tuple #[]) ∧ w' = w := by
  go_enter Tryd.func42, Tryd.ntmps42
  go_wp2
  go_end0
  exact ⟨rfl, rfl⟩
set_option maxRecDepth 10000 in
theorem checkP (e0 : Int) (h : e0 ≠ 0) (w : World) : Calls Tryd.prog 42 #[.int .i64 e0] w fun e w' => e = .panicked (errP e0) ∧ w' = w := by
  go_enter Tryd.func42, Tryd.ntmps42
  go_wp2
  exact ⟨rfl, rfl, rfl⟩
set_option maxRecDepth 10000 in
theorem must32C (x : Int) (w : World) : Calls Tryd.prog 36 #[.int .u32 x, .int .i64 0] w fun e w' => e = .returned (.int .u32 x) ∧ w' = w := by
  go_enter Tryd.func36, Tryd.ntmps36
  go_wp2_with fail
  refine Calls.mono (checkC _) ?_
  rintro e w1 ⟨rfl, rfl⟩
  go_wp2
  go_ret
  exact ⟨rfl, rfl⟩
set_option maxRecDepth 10000 in
theorem must32P (x e0 : Int) (h : e0 ≠ 0) (w : World) : Calls Tryd.prog 36 #[.int .u32 x, .int .i64 e0] w fun e w' => e = .panicked (errP e0) ∧ w' = w := by
  go_enter Tryd.func36, Tryd.ntmps36
  go_wp2_with fail
  refine Calls.mono (checkP e0 h _) ?_
  rintro e w1 ⟨rfl, rfl⟩
  go_wp2
  exact ⟨rfl, rfl, rfl⟩
set_option maxRecDepth 10000 in
theorem must8C (x : Int) (w : World) : Calls Tryd.prog 38 #[.int .u8 x, .int .i64 0] w fun e w' => e = .returned (.int .u8 x) ∧ w' = w := by
  go_enter Tryd.func38, Tryd.ntmps38
  go_wp2_with fail
  refine Calls.mono (checkC _) ?_
  rintro e w1 ⟨rfl, rfl⟩
  go_wp2
  go_ret
  exact ⟨rfl, rfl⟩
set_option maxRecDepth 10000 in
theorem must8P (x e0 : Int) (h : e0 ≠ 0) (w : World) : Calls Tryd.prog 38 #[.int .u8 x, .int .i64 e0] w fun e w' => e = .panicked (errP e0) ∧ w' = w := by
  go_enter Tryd.func38, Tryd.ntmps38
  go_wp2_with fail
  refine Calls.mono (checkP e0 h _) ?_
  rintro e w1 ⟨rfl, rfl⟩
  go_wp2
  exact ⟨rfl, rfl, rfl⟩
set_option maxRecDepth 10000 in
theorem must16C (x : Int) (w : World) : Calls Tryd.prog 40 #[.int .u16 x, .int .i64 0] w fun e w' => e = .returned (.int .u16 x) ∧ w' = w := by
  go_enter Tryd.func40, Tryd.ntmps40
  go_wp2_with fail
  refine Calls.mono (checkC _) ?_
  rintro e w1 ⟨rfl, rfl⟩
  go_wp2
  go_ret
  exact ⟨rfl, rfl⟩
set_option maxRecDepth 10000 in
theorem must16P (x e0 : Int) (h : e0 ≠ 0) (w : World) : Calls Tryd.prog 40 #[.int .u16 x, .int .i64 e0] w fun e w' => e = .panicked (errP e0) ∧ w' = w := by
  go_enter Tryd.func40, Tryd.ntmps40
  go_wp2_with fail
  refine Calls.mono (checkP e0 h _) ?_
  rintro e w1 ⟨rfl, rfl⟩
  go_wp2
  exact ⟨rfl, rfl, rfl⟩
set_option maxHeartbeats 1000000 in
set_option maxRecDepth 10000 in
theorem parse1P {p q : Nat} {x y z : Value} (e0 : Int) (w : World) (hp : Blk w p 25 #[x, y]) (hq : Blk w q 29 #[z]) :
    CallsD Tryd.prog 34 #[.pointer (some ⟨p, 0, none⟩), .pointer (some ⟨q, 0, none⟩)] (.panicking (errP e0)) w fun e u' w' =>
      e = .returned (.tuple #[]) ∧ u' = .panicking [{ v := .iface 29 (.int .i64 e0), recovered := true }] ∧ w' = ((w.setCell ⟨p, 0, none⟩ (.int .u32 0)).setCell ⟨p, 1, none⟩ (.slice none 0 0)).setCell ⟨q, 0, none⟩ (.int .i64 e0) := by
  have c0 := hp.cell 0
  have c1 := hp.cell 1
  have f0 := hp.frozen 0
  have f1 := hp.frozen 1
  have hqp : q ≠ p := hq.ne_ hp (by decide)
  have hq2 : Blk ((w.setCell ⟨p, 0, none⟩ (.int .u32 0)).setCell ⟨p, 1, none⟩ (.slice none 0 0)) q 29 #[z] := (hq.far (p := ⟨p, 0, none⟩) hqp _).far (p := ⟨p, 1, none⟩) hqp _
  have hp2 : Blk (w.setCell ⟨p, 0, none⟩ (.int .u32 0)) p 25 #[.int .u32 0, y] := by simpa using hp.set_ 0 (.int .u32 0)
  have c2 := hp2.cell 1
  have f2 := hp2.frozen 1
  have d0 := hq2.cell 0
  have g0 := hq2.frozen 0
  clear hqp hq2 hp2
  refine callsD_of_wpS Tryd.func34 rfl fun c₀ cs hu => ?_
  apply wpS_seq
  apply wpS_region
  simp [wpOpsS, go_sem, recoverD, hu, Tryd.ntmps34, Exit.thenS]
  refine wpS_of_wp ?_
  have hc0 := hu
  clear hp hq hu
  generalize hQ : (fun (e : Exit) (a' : Act) (w' : World) => bodyPostS _ _ _ _ _ e a' _ w') = Q
  have HQ := Lib.hid hQ
  clear hQ
  have ht : (#[Value.pointer (some ⟨p, 0, none⟩), Value.pointer (some ⟨q, 0, none⟩)] ++ ((Array.replicate 16 undef).setIfInBounds 3 (Value.iface 29 (Value.int IntKind.i64 e0))).setIfInBounds 0 (Value.iface 29 (Value.int IntKind.i64 e0))) =
    #[Value.pointer (some ⟨p, 0, none⟩), Value.pointer (some ⟨q, 0, none⟩), Value.iface 29 (Value.int IntKind.i64 e0), undef, undef, Value.iface 29 (Value.int IntKind.i64 e0), undef, undef, undef, undef, undef, undef, undef, undef, undef, undef, undef, undef] := rfl
  rw [ht]
  clear ht
  have hta : ∀ W, (Instr.typeAssert (.iface 29 (.int .i64 e0)) 20 29 true).run Tryd.prog W = .ok (.tuple #[.int .i64 e0, .bool true]) W := fun W => by kernel_rfl
  go_wp2
  have := HQ.out
  subst this
  simp [bodyPostS, results, Tryd.results34]
set_option maxHeartbeats 1000000 in
set_option maxRecDepth 10000 in
theorem parse1I (p q : Addr) (w : World) :
    CallsD Tryd.prog 34 #[.pointer (some p), .pointer (some q)] .returning w fun e u' w' => e = .returned (.tuple #[]) ∧ u' = .returning ∧ w' = w := by
  refine callsD_of_wpS Tryd.func34 rfl fun c₀ cs hu => ?_
  apply wpS_seq
  apply wpS_region
  simp [wpOpsS, go_sem, recoverD, hu, Tryd.ntmps34, Exit.thenS]
  apply wpS_seq
  apply wpS_region
  simp [wpOpsS, go_sem, Exit.thenS]
  refine wpS_cond (t := false) (by simp [Act.eval, Array.replicate]) ?_
  simp only [Bool.false_eq_true, if_false]
  refine wpS_of_wp (wp_skip ?_)
  cases c₀
  simp_all [bodyPostS, results, Tryd.results34]
end Go.Proofs.YtigknfkkegccgaaDoor.K
