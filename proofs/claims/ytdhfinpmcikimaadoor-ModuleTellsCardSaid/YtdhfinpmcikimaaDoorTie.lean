/-
  DERIVED. GIVEN WITH THE SEED: THE PROGRAM's TIES (one call each: nine closed facts by the kernel) AND EACH ROW's TIE, after the 31st guide's Derived/Test/Toyas{Tie, Card}.lean. No idea stands in it: it is a product of the set-up. Laid BY PROGRAM, IN A SANDBOX (cutbox-door.mjs). By AI agents, Wed Nov 11 2026. No macro, syntax, notation, axiom, sorry.
-/
import Derived.Test.YtdhfinpmcikimaaDoorRows
import Derived.LaidByTextLater
import Derived.SevenTiedAt
import Derived.LaidSub
import Derived.LaidOnce
namespace Go.Proofs.YtdhfinpmcikimaaDoor
open Go
set_option maxRecDepth 100000
theorem seatTie1 : Tryd.prog.laidByTextLater [("bytes.ErrTooLarge", Rows.laid_bytes_ErrTooLarge), ("lamplight/module.tells", Rows.laid_lamplight_module_tells)] [.sentinel, .mapped] true :=
  Program.laidByTextLater_by_one 43 8 2 (by kernel_rfl) (by kernel_rfl) (by kernel_rfl) (by kernel_rfl) (by kernel_rfl) (by kernel_rfl) (fun _ _ => by kernel_rfl)
theorem noOwnUnsafe : Tryd.pinned.checked.prog.headLifts.contains "ownunsafe" = false := by kernel_rfl
theorem tie : Tryd.prog.laidByTextLater [("bytes.ErrTooLarge", Rows.laid_bytes_ErrTooLarge), ("lamplight/module.tells", Rows.laid_lamplight_module_tells)] [.sentinel, .mapped] true :=
  Program.laidByTextLater.sub seatTie1 ["bytes.ErrTooLarge", "lamplight/module.tells"] (by kernel_rfl) (by kernel_rfl)
theorem moduleBytes_row_tie : Rows.moduleBytesRow.laidByTextAt .later Tryd.pinned [.sentinel, .mapped] true :=
  OpenClaim.laidByTextAt_later rfl rfl tie noOwnUnsafe
theorem moduleOnce_row_tie : Rows.moduleOnceRow.laidByTextAt .later Tryd.pinned [.sentinel, .mapped] true :=
  OpenClaim.laidByTextAt_later rfl rfl tie noOwnUnsafe
theorem moduleSame_row_tie : Rows.moduleSameRow.laidByTextAt .later Tryd.pinned [.sentinel, .mapped] true :=
  OpenClaim.laidByTextAt_later rfl rfl tie noOwnUnsafe
theorem moduleDark_row_tie : Rows.moduleDarkRow.laidByTextAt .later Tryd.pinned [.sentinel, .mapped] true :=
  OpenClaim.laidByTextAt_later rfl rfl tie noOwnUnsafe
theorem moduleReset_row_tie : Rows.moduleResetRow.laidByTextAt .later Tryd.pinned [.sentinel, .mapped] true :=
  OpenClaim.laidByTextAt_later rfl rfl tie noOwnUnsafe
theorem moduleTells_row_tie : Rows.moduleTellsRow.laidByTextAt .later Tryd.pinned [.sentinel, .mapped] true :=
  OpenClaim.laidByTextAt_later rfl rfl tie noOwnUnsafe
theorem moduleBytesUpto_row_tie : Rows.moduleBytesUptoRow.laidByTextAt .later Tryd.pinned [.sentinel, .mapped] true :=
  OpenClaim.laidByTextAt_later rfl rfl tie noOwnUnsafe
theorem moduleOnceUpto_row_tie : Rows.moduleOnceUptoRow.laidByTextAt .later Tryd.pinned [.sentinel, .mapped] true :=
  OpenClaim.laidByTextAt_later rfl rfl tie noOwnUnsafe
theorem moduleSameUpto_row_tie : Rows.moduleSameUptoRow.laidByTextAt .later Tryd.pinned [.sentinel, .mapped] true :=
  OpenClaim.laidByTextAt_later rfl rfl tie noOwnUnsafe
theorem moduleDarkUpto_row_tie : Rows.moduleDarkUptoRow.laidByTextAt .later Tryd.pinned [.sentinel, .mapped] true :=
  OpenClaim.laidByTextAt_later rfl rfl tie noOwnUnsafe
theorem moduleResetUpto_row_tie : Rows.moduleResetUptoRow.laidByTextAt .later Tryd.pinned [.sentinel, .mapped] true :=
  OpenClaim.laidByTextAt_later rfl rfl tie noOwnUnsafe
theorem moduleTellsUpto_row_tie : Rows.moduleTellsUptoRow.laidByTextAt .later Tryd.pinned [.sentinel, .mapped] true :=
  OpenClaim.laidByTextAt_later rfl rfl tie noOwnUnsafe
end Go.Proofs.YtdhfinpmcikimaaDoor
