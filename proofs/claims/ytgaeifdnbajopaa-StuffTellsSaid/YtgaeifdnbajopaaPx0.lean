-- Made by a program of this session out of the kit's print, some functions' contracts proved by hand.
import Derived.Test.YtgaeifdnbajopaaProg
import Derived.Below
import Derived.Deep.Draws
import Derived.Deep.AppendLies
import Derived.Maps.AppendAt
import Derived.OwnWalk
import Derived.Laws.BytesArg
import Derived.Laws.MakeOwn
import Derived.Laws.OwnMore
import Derived.Deep.OwnRows
import Derived.Tactics
import Derived.Lib.ConvBytes
import Derived.Laws.Slices
import Derived.WalkKit
import Derived.KernelRfl
import Derived.RowKit3
import Derived.Deep.LoopGhost
import Derived.Deep.QuietTactic
import Derived.BigQuiet
import Derived.WideLaws
import Derived.Deep.DeepCutAuto
import Derived.Deep.CutBlock
import Derived.Deep.RegionHeld3
import Derived.Laws.Rows
import Derived.Lib.AppendStr
import Derived.ArgAppend
import Derived.Laws.IdiomCopy
import Derived.OrdersHeld
import Derived.Laws.BitsLemmas
import Derived.RowKit
import Derived.Test.YtgaeifdnbajopaaWWords
import Derived.Test.YtgaeifdnbajopaaWLast
import Derived.Test.YtgaeifdnbajopaaWTab
import Derived.Test.YtgaeifdnbajopaaWFour
import Derived.Test.YtgaeifdnbajopaaWQPut
import Derived.Test.YtgaeifdnbajopaaWApart
import Derived.Test.YtgaeifdnbajopaaWArr
import Derived.Test.YtgaeifdnbajopaaWZeros
import Derived.Test.YtgaeifdnbajopaaWFoot
import Derived.Test.YtgaeifdnbajopaaWKept
import Derived.Test.YtgaeifdnbajopaaWShare
import Derived.Test.YtgaeifdnbajopaaWN
import Derived.Test.YtgaeifdnbajopaaWFootNe
import Derived.Test.YtgaeifdnbajopaaWAt
import Derived.Test.YtgaeifdnbajopaaWEqStruct
import Derived.Test.YtgaeifdnbajopaaWRepsOne
import Derived.Test.YtgaeifdnbajopaaWInv
import Derived.Test.YtgaeifdnbajopaaWInvWords
import Derived.Test.YtgaeifdnbajopaaWGuard
import Derived.Test.YtgaeifdnbajopaaWNEv
import Derived.Test.YtgaeifdnbajopaaWMore
namespace Go.Proofs.Ytgaeifdnbajopaa.Px
open Go.RowKit Go.Proofs.YtgaeifdnbajopaaW.PrintWords Go.Proofs.YtgaeifdnbajopaaW.PrintLast Go.Proofs.YtgaeifdnbajopaaW.PrintMore
attribute [local go_sem] max2_int min2_int max_two min_two max_three min_three max_four min_four   -- for this text's walks alone
set_option linter.unusedVariables false
set_option linter.unusedSimpArgs false



def errW : Option Int → Value
  | none => .nilIface
  | some c => .iface 0 (.int .i64 c)
theorem errW_none : errW none = .nilIface := rfl
theorem errW_some (c : Int) : errW (some c) = .iface 0 (.int .i64 c) := rfl

theorem info5 : (Try.prog.info? 5).map (fun i => (i.zero, i.size, i.bytes)) = some (some (.int .u8 0), 1, 1) := by kernel_rfl
-- the values' own types

end Go.Proofs.Ytgaeifdnbajopaa.Px
