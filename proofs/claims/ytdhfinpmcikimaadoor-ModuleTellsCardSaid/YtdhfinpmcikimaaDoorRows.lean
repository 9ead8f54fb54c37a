/-
  NARROWER THAN 'FOR EVERY INPUT', by the rows' own cells (each row's printed sentence says how): ModuleBytes: laid · ModuleOnce: laid · ModuleSame: laid · ModuleDark: laid · ModuleReset: laid · ModuleTells: laid.
  DERIVED. THE GIVEN ROWS OF THIS SEAT. 6 by the template 'for every input the law returns true; each argument reads behind the call as it read before'; 0 by the template 'total and deterministic' (their statements: YtdhfinpmcikimaaDoorTotals.lean).
  GIVEN WITH THE SEED: the statements are not yours to turn. If you find one false, say at which input.
  Laid BY PROGRAM, IN A SANDBOX (cutbox-rows.mjs): the forced cells as the released guide's own fill.sh prints them over the translation 825ba6854c78b09c… (all of the seat's roots in one cut). By AI agents, Wed Nov 11 2026. No macro, syntax, notation, axiom, sorry.
-/
import Derived.Test.YtdhfinpmcikimaaDoorChecked
import GoSem.Claim
import GoSem.ClaimJoined
import GoSem.ClaimMapViews
import Derived.JoinedTies
import Derived.KernelRfl
namespace Go.Proofs.YtdhfinpmcikimaaDoor
/- THE CELL 'sum', in the pinned program and in every row, IS THE sha256 OF THE DUMP (.gsa) THAT YtdhfinpmcikimaaDoorProg.lean LOADS. Nothing in Lean hashes anything: it is a label: what it is worth is what the hold of that sum in a sandbox is worth. -/
noncomputable def Tryd.pinned : Pinned := { name := "ytdhfinpmcikimaadoor", sum := "825ba6854c78b09cccbd9a7b41172643d06eb11393ec0e99e38a06b4dd45e3a9", checked := Tryd.checked }
namespace Rows
def none {H : Type} : Left H := { results := [], args := [] }

/- WHAT THE LISTED PACKAGE-LEVEL VARIABLES READ AS WHEN THE CALL BEGINS. Each datum BY PROGRAM (the guide's laid-datum.mjs) off the statement by which the dump's own 'gosem.cut.vars' lays the variable. In a bare row this is a premise. The card (YtdhfinpmcikimaaDoorCards.lean) ties it to the program's text. -/
def laid_bytes_ErrTooLarge {H : Type} : DataW H := .iface "*errors.errorString" (.ptr (.agg [.lit (.string [98, 121, 116, 101, 115, 46, 66, 117, 102, 102, 101, 114, 58, 32, 116, 111, 111, 32, 108, 97, 114, 103, 101])]))
def laid_lamplight_module_tells {H : Type} : DataW H := .map [(.int .i64 0, .lit (.int .u8 1)), (.int .i64 3, .lit (.int .u8 2))]

/-- 'lamplightlaw11.ModuleBytes': WHATEVER THE INPUT: true; the input reads as it did. -/
def moduleBytesSpec : ChangeSpec := { name := "moduleBytes", fn := fun _ => fun
  | [d1, d2, d3] => { results := [.lit (.bool true)], args := [d1, d2, d3] }
  | _ => none }
def moduleBytesRow : OpenClaim := { program := "ytdhfinpmcikimaadoor", sum := "825ba6854c78b09cccbd9a7b41172643d06eb11393ec0e99e38a06b4dd45e3a9", func := "lamplight/lamplightlaw11.ModuleBytes", spec := "moduleBytes", named := ["bytes.ErrTooLarge", "lamplight/module.tells"], apart := false, laid := [("bytes.ErrTooLarge", laid_bytes_ErrTooLarge), ("lamplight/module.tells", laid_lamplight_module_tells)] }
def ModuleBytesSaid : Prop := moduleBytesRow.holds Tryd.pinned (OpenSpec.ofChange moduleBytesSpec)

/-- ITS FALSE NEIGHBOUR: 'it returns false'. Refute it at one input. -/
def moduleBytesWrong : ChangeSpec := { name := "moduleBytes", fn := fun _ => fun
  | [d1, d2, d3] => { results := [.lit (.bool false)], args := [d1, d2, d3] }
  | _ => none }
def ModuleBytesWrongFalsely : Prop := moduleBytesRow.holds Tryd.pinned (OpenSpec.ofChange moduleBytesWrong)

/-- 'lamplightlaw11.ModuleOnce': WHATEVER THE INPUT: true; the input reads as it did. -/
def moduleOnceSpec : ChangeSpec := { name := "moduleOnce", fn := fun _ => fun
  | [d1, d2, d3] => { results := [.lit (.bool true)], args := [d1, d2, d3] }
  | _ => none }
def moduleOnceRow : OpenClaim := { program := "ytdhfinpmcikimaadoor", sum := "825ba6854c78b09cccbd9a7b41172643d06eb11393ec0e99e38a06b4dd45e3a9", func := "lamplight/lamplightlaw11.ModuleOnce", spec := "moduleOnce", named := ["bytes.ErrTooLarge", "lamplight/module.tells"], apart := false, laid := [("bytes.ErrTooLarge", laid_bytes_ErrTooLarge), ("lamplight/module.tells", laid_lamplight_module_tells)] }
def ModuleOnceSaid : Prop := moduleOnceRow.holds Tryd.pinned (OpenSpec.ofChange moduleOnceSpec)

/-- ITS FALSE NEIGHBOUR: 'it returns false'. Refute it at one input. -/
def moduleOnceWrong : ChangeSpec := { name := "moduleOnce", fn := fun _ => fun
  | [d1, d2, d3] => { results := [.lit (.bool false)], args := [d1, d2, d3] }
  | _ => none }
def ModuleOnceWrongFalsely : Prop := moduleOnceRow.holds Tryd.pinned (OpenSpec.ofChange moduleOnceWrong)

/-- 'lamplightlaw11.ModuleSame': WHATEVER THE INPUT: true; the input reads as it did. -/
def moduleSameSpec : ChangeSpec := { name := "moduleSame", fn := fun _ => fun
  | [d1, d2, d3, d4, d5] => { results := [.lit (.bool true)], args := [d1, d2, d3, d4, d5] }
  | _ => none }
def moduleSameRow : OpenClaim := { program := "ytdhfinpmcikimaadoor", sum := "825ba6854c78b09cccbd9a7b41172643d06eb11393ec0e99e38a06b4dd45e3a9", func := "lamplight/lamplightlaw11.ModuleSame", spec := "moduleSame", named := ["bytes.ErrTooLarge", "lamplight/module.tells"], apart := false, laid := [("bytes.ErrTooLarge", laid_bytes_ErrTooLarge), ("lamplight/module.tells", laid_lamplight_module_tells)] }
def ModuleSameSaid : Prop := moduleSameRow.holds Tryd.pinned (OpenSpec.ofChange moduleSameSpec)

/-- ITS FALSE NEIGHBOUR: 'it returns false'. Refute it at one input. -/
def moduleSameWrong : ChangeSpec := { name := "moduleSame", fn := fun _ => fun
  | [d1, d2, d3, d4, d5] => { results := [.lit (.bool false)], args := [d1, d2, d3, d4, d5] }
  | _ => none }
def ModuleSameWrongFalsely : Prop := moduleSameRow.holds Tryd.pinned (OpenSpec.ofChange moduleSameWrong)

/-- 'lamplightlaw11.ModuleDark': WHATEVER THE INPUT: true; the input reads as it did. -/
def moduleDarkSpec : ChangeSpec := { name := "moduleDark", fn := fun _ => fun
  | [d1, d2, d3] => { results := [.lit (.bool true)], args := [d1, d2, d3] }
  | _ => none }
def moduleDarkRow : OpenClaim := { program := "ytdhfinpmcikimaadoor", sum := "825ba6854c78b09cccbd9a7b41172643d06eb11393ec0e99e38a06b4dd45e3a9", func := "lamplight/lamplightlaw11.ModuleDark", spec := "moduleDark", named := ["bytes.ErrTooLarge", "lamplight/module.tells"], apart := false, laid := [("bytes.ErrTooLarge", laid_bytes_ErrTooLarge), ("lamplight/module.tells", laid_lamplight_module_tells)] }
def ModuleDarkSaid : Prop := moduleDarkRow.holds Tryd.pinned (OpenSpec.ofChange moduleDarkSpec)

/-- ITS FALSE NEIGHBOUR: 'it returns false'. Refute it at one input. -/
def moduleDarkWrong : ChangeSpec := { name := "moduleDark", fn := fun _ => fun
  | [d1, d2, d3] => { results := [.lit (.bool false)], args := [d1, d2, d3] }
  | _ => none }
def ModuleDarkWrongFalsely : Prop := moduleDarkRow.holds Tryd.pinned (OpenSpec.ofChange moduleDarkWrong)

/-- 'lamplightlaw11.ModuleReset': WHATEVER THE INPUT: true; the input reads as it did. -/
def moduleResetSpec : ChangeSpec := { name := "moduleReset", fn := fun _ => fun
  | [d1, d2, d3] => { results := [.lit (.bool true)], args := [d1, d2, d3] }
  | _ => none }
def moduleResetRow : OpenClaim := { program := "ytdhfinpmcikimaadoor", sum := "825ba6854c78b09cccbd9a7b41172643d06eb11393ec0e99e38a06b4dd45e3a9", func := "lamplight/lamplightlaw11.ModuleReset", spec := "moduleReset", named := ["bytes.ErrTooLarge", "lamplight/module.tells"], apart := false, laid := [("bytes.ErrTooLarge", laid_bytes_ErrTooLarge), ("lamplight/module.tells", laid_lamplight_module_tells)] }
def ModuleResetSaid : Prop := moduleResetRow.holds Tryd.pinned (OpenSpec.ofChange moduleResetSpec)

/-- ITS FALSE NEIGHBOUR: 'it returns false'. Refute it at one input. -/
def moduleResetWrong : ChangeSpec := { name := "moduleReset", fn := fun _ => fun
  | [d1, d2, d3] => { results := [.lit (.bool false)], args := [d1, d2, d3] }
  | _ => none }
def ModuleResetWrongFalsely : Prop := moduleResetRow.holds Tryd.pinned (OpenSpec.ofChange moduleResetWrong)

/-- 'lamplightlaw11.ModuleTells': WHATEVER THE INPUT: true; the input reads as it did. -/
def moduleTellsSpec : ChangeSpec := { name := "moduleTells", fn := fun _ => fun
  | [d] => { results := [.lit (.bool true)], args := [d] }
  | _ => none }
def moduleTellsRow : OpenClaim := { program := "ytdhfinpmcikimaadoor", sum := "825ba6854c78b09cccbd9a7b41172643d06eb11393ec0e99e38a06b4dd45e3a9", func := "lamplight/lamplightlaw11.ModuleTells", spec := "moduleTells", named := ["bytes.ErrTooLarge", "lamplight/module.tells"], apart := false, laid := [("bytes.ErrTooLarge", laid_bytes_ErrTooLarge), ("lamplight/module.tells", laid_lamplight_module_tells)] }
def ModuleTellsSaid : Prop := moduleTellsRow.holds Tryd.pinned (OpenSpec.ofChange moduleTellsSpec)

/-- ITS FALSE NEIGHBOUR: 'it returns false'. Refute it at one input. -/
def moduleTellsWrong : ChangeSpec := { name := "moduleTells", fn := fun _ => fun
  | [d] => { results := [.lit (.bool false)], args := [d] }
  | _ => none }
def ModuleTellsWrongFalsely : Prop := moduleTellsRow.holds Tryd.pinned (OpenSpec.ofChange moduleTellsWrong)

/- THE SECOND FORM. 'bulk': how many values and letters a reading holds, each counted each time it is reached (what is shared counts as often as it is met; a slice's spare places count too). A statement '..UptoSaid' is the law's where the arguments, and the package variables that the reading takes, are together of bulk at most 1048576: NARROWER than '..Said'. Prove '..Said' where nothing that the law and all that it calls make is longer than what came in: it says more and counts as full. Else prove '..UptoSaid'. A law counts once. -/
mutual
def uptoBulk {H : Type} : DataW H → Nat
  | .lit (.string bytes) => bytes.length + 1
  | .lit _ => 1
  | .nil => 1
  | .ptr d => uptoBulk d + 1
  | .slice elems spare => uptoBulkAll elems + uptoBulkAll spare + 1
  | .agg parts => uptoBulkAll parts + 1
  | .iface _ d => uptoBulk d + 1
  | .map entries => uptoBulkEntries entries + 1
  | .held _ => 1
def uptoBulkAll {H : Type} : List (DataW H) → Nat
  | [] => 0
  | d :: r => uptoBulk d + uptoBulkAll r
def uptoBulkEntries {H : Type} : List (Lit × DataW H) → Nat
  | [] => 0
  | x :: r => uptoBulkEntry x + uptoBulkEntries r
def uptoBulkEntry {H : Type} : Lit × DataW H → Nat
  | (.string bytes, d) => bytes.length + uptoBulk d + 1
  | (_, d) => uptoBulk d + 1
 end
def uptoSmall : (H : Type) → List (DataW H) → Bool := fun _ ds => decide (uptoBulkAll ds ≤ 1048576)
def OpenSpec.upto (s : _root_.Go.ChangeSpec) : _root_.Go.OpenSpec := { _root_.Go.OpenSpec.ofChange s with cond := some uptoSmall }

/-- 'lamplightlaw11.ModuleBytes', WHERE WHAT IT READS IS OF BULK AT MOST 1048576: true; the input reads as it did. -/
def moduleBytesUptoRow : OpenClaim := { program := "ytdhfinpmcikimaadoor", sum := "825ba6854c78b09cccbd9a7b41172643d06eb11393ec0e99e38a06b4dd45e3a9", func := "lamplight/lamplightlaw11.ModuleBytes", spec := "moduleBytes", named := ["bytes.ErrTooLarge", "lamplight/module.tells"], apart := false, laid := [("bytes.ErrTooLarge", laid_bytes_ErrTooLarge), ("lamplight/module.tells", laid_lamplight_module_tells)], narrowed := true }
def ModuleBytesUptoSaid : Prop := moduleBytesUptoRow.holds Tryd.pinned (OpenSpec.upto moduleBytesSpec)

/-- 'lamplightlaw11.ModuleOnce', WHERE WHAT IT READS IS OF BULK AT MOST 1048576: true; the input reads as it did. -/
def moduleOnceUptoRow : OpenClaim := { program := "ytdhfinpmcikimaadoor", sum := "825ba6854c78b09cccbd9a7b41172643d06eb11393ec0e99e38a06b4dd45e3a9", func := "lamplight/lamplightlaw11.ModuleOnce", spec := "moduleOnce", named := ["bytes.ErrTooLarge", "lamplight/module.tells"], apart := false, laid := [("bytes.ErrTooLarge", laid_bytes_ErrTooLarge), ("lamplight/module.tells", laid_lamplight_module_tells)], narrowed := true }
def ModuleOnceUptoSaid : Prop := moduleOnceUptoRow.holds Tryd.pinned (OpenSpec.upto moduleOnceSpec)

/-- 'lamplightlaw11.ModuleSame', WHERE WHAT IT READS IS OF BULK AT MOST 1048576: true; the input reads as it did. -/
def moduleSameUptoRow : OpenClaim := { program := "ytdhfinpmcikimaadoor", sum := "825ba6854c78b09cccbd9a7b41172643d06eb11393ec0e99e38a06b4dd45e3a9", func := "lamplight/lamplightlaw11.ModuleSame", spec := "moduleSame", named := ["bytes.ErrTooLarge", "lamplight/module.tells"], apart := false, laid := [("bytes.ErrTooLarge", laid_bytes_ErrTooLarge), ("lamplight/module.tells", laid_lamplight_module_tells)], narrowed := true }
def ModuleSameUptoSaid : Prop := moduleSameUptoRow.holds Tryd.pinned (OpenSpec.upto moduleSameSpec)

/-- 'lamplightlaw11.ModuleDark', WHERE WHAT IT READS IS OF BULK AT MOST 1048576: true; the input reads as it did. -/
def moduleDarkUptoRow : OpenClaim := { program := "ytdhfinpmcikimaadoor", sum := "825ba6854c78b09cccbd9a7b41172643d06eb11393ec0e99e38a06b4dd45e3a9", func := "lamplight/lamplightlaw11.ModuleDark", spec := "moduleDark", named := ["bytes.ErrTooLarge", "lamplight/module.tells"], apart := false, laid := [("bytes.ErrTooLarge", laid_bytes_ErrTooLarge), ("lamplight/module.tells", laid_lamplight_module_tells)], narrowed := true }
def ModuleDarkUptoSaid : Prop := moduleDarkUptoRow.holds Tryd.pinned (OpenSpec.upto moduleDarkSpec)

/-- 'lamplightlaw11.ModuleReset', WHERE WHAT IT READS IS OF BULK AT MOST 1048576: true; the input reads as it did. -/
def moduleResetUptoRow : OpenClaim := { program := "ytdhfinpmcikimaadoor", sum := "825ba6854c78b09cccbd9a7b41172643d06eb11393ec0e99e38a06b4dd45e3a9", func := "lamplight/lamplightlaw11.ModuleReset", spec := "moduleReset", named := ["bytes.ErrTooLarge", "lamplight/module.tells"], apart := false, laid := [("bytes.ErrTooLarge", laid_bytes_ErrTooLarge), ("lamplight/module.tells", laid_lamplight_module_tells)], narrowed := true }
def ModuleResetUptoSaid : Prop := moduleResetUptoRow.holds Tryd.pinned (OpenSpec.upto moduleResetSpec)

/-- 'lamplightlaw11.ModuleTells', WHERE WHAT IT READS IS OF BULK AT MOST 1048576: true; the input reads as it did. -/
def moduleTellsUptoRow : OpenClaim := { program := "ytdhfinpmcikimaadoor", sum := "825ba6854c78b09cccbd9a7b41172643d06eb11393ec0e99e38a06b4dd45e3a9", func := "lamplight/lamplightlaw11.ModuleTells", spec := "moduleTells", named := ["bytes.ErrTooLarge", "lamplight/module.tells"], apart := false, laid := [("bytes.ErrTooLarge", laid_bytes_ErrTooLarge), ("lamplight/module.tells", laid_lamplight_module_tells)], narrowed := true }
def ModuleTellsUptoSaid : Prop := moduleTellsUptoRow.holds Tryd.pinned (OpenSpec.upto moduleTellsSpec)

end Rows
end Go.Proofs.YtdhfinpmcikimaaDoor
