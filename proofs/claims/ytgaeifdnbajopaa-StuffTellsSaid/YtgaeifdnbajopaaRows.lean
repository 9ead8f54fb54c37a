/-
  No cell of these rows narrows 'for every input' (looked for: loops, veiled, ifaces, maps, wideKeys, modest, calm, conditions, laid).
  DERIVED. THE GIVEN ROWS OF THIS SEAT. 7 by the template 'for every input the law returns true; each argument reads behind the call as it read before'; 0 by the template 'total and deterministic' (their statements: YtgaeifdnbajopaaTotals.lean).
  GIVEN WITH THE SEED: the statements are not yours to turn. If you find one false, say at which input.
  Laid BY PROGRAM, IN A SANDBOX (cutbox-rows.mjs): the forced cells as the released guide's own fill.sh prints them over the translation c509a676f2483a96… (all of the seat's roots in one cut). By AI agents, Wed Nov 11 2026. No macro, syntax, notation, axiom, sorry.
-/
import Derived.Test.YtgaeifdnbajopaaChecked
import GoSem.Claim
import GoSem.ClaimJoined
import GoSem.ClaimMapViews
import Derived.JoinedTies
import Derived.KernelRfl
namespace Go.Proofs.Ytgaeifdnbajopaa
/- THE CELL 'sum', in the pinned program and in every row, IS THE sha256 OF THE DUMP (.gsa) THAT YtgaeifdnbajopaaProg.lean LOADS. Nothing in Lean hashes anything: it is a label: what it is worth is what the hold of that sum in a sandbox is worth. -/
noncomputable def Try.pinned : Pinned := { name := "ytgaeifdnbajopaa", sum := "c509a676f2483a966160ec765a2c76a76ba8efa043ebd4ffdc85186208760c38", checked := Try.checked }
namespace Rows
def none {H : Type} : Left H := { results := [], args := [] }

/-- 'lamplightlaw03.StuffTells': WHATEVER THE INPUT: true; the input reads as it did. -/
def stuffTellsSpec : ChangeSpec := { name := "stuffTells", fn := fun _ => fun
  | [d] => { results := [.lit (.bool true)], args := [d] }
  | _ => none }
def stuffTellsRow : OpenClaim := { program := "ytgaeifdnbajopaa", sum := "c509a676f2483a966160ec765a2c76a76ba8efa043ebd4ffdc85186208760c38", func := "lamplight/lamplightlaw03.StuffTells", spec := "stuffTells", unfollowed := true, recurses := true, apart := false }
def StuffTellsSaid : Prop := stuffTellsRow.holds Try.pinned (OpenSpec.ofChange stuffTellsSpec)

/-- ITS FALSE NEIGHBOUR: 'it returns false'. Refute it at one input. -/
def stuffTellsWrong : ChangeSpec := { name := "stuffTells", fn := fun _ => fun
  | [d] => { results := [.lit (.bool false)], args := [d] }
  | _ => none }
def StuffTellsWrongFalsely : Prop := stuffTellsRow.holds Try.pinned (OpenSpec.ofChange stuffTellsWrong)

/-- 'lamplightlaw03.StuffBack': WHATEVER THE INPUT: true; the input reads as it did. -/
def stuffBackSpec : ChangeSpec := { name := "stuffBack", fn := fun _ => fun
  | [d] => { results := [.lit (.bool true)], args := [d] }
  | _ => none }
def stuffBackRow : OpenClaim := { program := "ytgaeifdnbajopaa", sum := "c509a676f2483a966160ec765a2c76a76ba8efa043ebd4ffdc85186208760c38", func := "lamplight/lamplightlaw03.StuffBack", spec := "stuffBack", unfollowed := true, recurses := true, apart := false }
def StuffBackSaid : Prop := stuffBackRow.holds Try.pinned (OpenSpec.ofChange stuffBackSpec)

/-- ITS FALSE NEIGHBOUR: 'it returns false'. Refute it at one input. -/
def stuffBackWrong : ChangeSpec := { name := "stuffBack", fn := fun _ => fun
  | [d] => { results := [.lit (.bool false)], args := [d] }
  | _ => none }
def StuffBackWrongFalsely : Prop := stuffBackRow.holds Try.pinned (OpenSpec.ofChange stuffBackWrong)

/-- 'lamplightlaw03.StuffParts': WHATEVER THE INPUT: true; the input reads as it did. -/
def stuffPartsSpec : ChangeSpec := { name := "stuffParts", fn := fun _ => fun
  | [d1, d2] => { results := [.lit (.bool true)], args := [d1, d2] }
  | _ => none }
def stuffPartsRow : OpenClaim := { program := "ytgaeifdnbajopaa", sum := "c509a676f2483a966160ec765a2c76a76ba8efa043ebd4ffdc85186208760c38", func := "lamplight/lamplightlaw03.StuffParts", spec := "stuffParts", unfollowed := true, recurses := true, apart := false }
def StuffPartsSaid : Prop := stuffPartsRow.holds Try.pinned (OpenSpec.ofChange stuffPartsSpec)

/-- ITS FALSE NEIGHBOUR: 'it returns false'. Refute it at one input. -/
def stuffPartsWrong : ChangeSpec := { name := "stuffParts", fn := fun _ => fun
  | [d1, d2] => { results := [.lit (.bool false)], args := [d1, d2] }
  | _ => none }
def StuffPartsWrongFalsely : Prop := stuffPartsRow.holds Try.pinned (OpenSpec.ofChange stuffPartsWrong)

/-- 'lamplightlaw03.StuffCuts': WHATEVER THE INPUT: true; the input reads as it did. -/
def stuffCutsSpec : ChangeSpec := { name := "stuffCuts", fn := fun _ => fun
  | [d1, d2] => { results := [.lit (.bool true)], args := [d1, d2] }
  | _ => none }
def stuffCutsRow : OpenClaim := { program := "ytgaeifdnbajopaa", sum := "c509a676f2483a966160ec765a2c76a76ba8efa043ebd4ffdc85186208760c38", func := "lamplight/lamplightlaw03.StuffCuts", spec := "stuffCuts", unfollowed := true, recurses := true, apart := false }
def StuffCutsSaid : Prop := stuffCutsRow.holds Try.pinned (OpenSpec.ofChange stuffCutsSpec)

/-- ITS FALSE NEIGHBOUR: 'it returns false'. Refute it at one input. -/
def stuffCutsWrong : ChangeSpec := { name := "stuffCuts", fn := fun _ => fun
  | [d1, d2] => { results := [.lit (.bool false)], args := [d1, d2] }
  | _ => none }
def StuffCutsWrongFalsely : Prop := stuffCutsRow.holds Try.pinned (OpenSpec.ofChange stuffCutsWrong)

/-- 'lamplightlaw03.StuffSize': WHATEVER THE INPUT: true; the input reads as it did. -/
def stuffSizeSpec : ChangeSpec := { name := "stuffSize", fn := fun _ => fun
  | [d] => { results := [.lit (.bool true)], args := [d] }
  | _ => none }
def stuffSizeRow : OpenClaim := { program := "ytgaeifdnbajopaa", sum := "c509a676f2483a966160ec765a2c76a76ba8efa043ebd4ffdc85186208760c38", func := "lamplight/lamplightlaw03.StuffSize", spec := "stuffSize", unfollowed := true, recurses := true, apart := false }
def StuffSizeSaid : Prop := stuffSizeRow.holds Try.pinned (OpenSpec.ofChange stuffSizeSpec)

/-- ITS FALSE NEIGHBOUR: 'it returns false'. Refute it at one input. -/
def stuffSizeWrong : ChangeSpec := { name := "stuffSize", fn := fun _ => fun
  | [d] => { results := [.lit (.bool false)], args := [d] }
  | _ => none }
def StuffSizeWrongFalsely : Prop := stuffSizeRow.holds Try.pinned (OpenSpec.ofChange stuffSizeWrong)

/-- 'lamplightlaw03.StuffBytes': WHATEVER THE INPUT: true; the input reads as it did. -/
def stuffBytesSpec : ChangeSpec := { name := "stuffBytes", fn := fun _ => fun
  | [d] => { results := [.lit (.bool true)], args := [d] }
  | _ => none }
def stuffBytesRow : OpenClaim := { program := "ytgaeifdnbajopaa", sum := "c509a676f2483a966160ec765a2c76a76ba8efa043ebd4ffdc85186208760c38", func := "lamplight/lamplightlaw03.StuffBytes", spec := "stuffBytes", unfollowed := true, recurses := true, apart := false }
def StuffBytesSaid : Prop := stuffBytesRow.holds Try.pinned (OpenSpec.ofChange stuffBytesSpec)

/-- ITS FALSE NEIGHBOUR: 'it returns false'. Refute it at one input. -/
def stuffBytesWrong : ChangeSpec := { name := "stuffBytes", fn := fun _ => fun
  | [d] => { results := [.lit (.bool false)], args := [d] }
  | _ => none }
def StuffBytesWrongFalsely : Prop := stuffBytesRow.holds Try.pinned (OpenSpec.ofChange stuffBytesWrong)

/-- 'lamplightlaw03.StuffTwice': WHATEVER THE INPUT: true; the input reads as it did. -/
def stuffTwiceSpec : ChangeSpec := { name := "stuffTwice", fn := fun _ => fun
  | [d1, d2] => { results := [.lit (.bool true)], args := [d1, d2] }
  | _ => none }
def stuffTwiceRow : OpenClaim := { program := "ytgaeifdnbajopaa", sum := "c509a676f2483a966160ec765a2c76a76ba8efa043ebd4ffdc85186208760c38", func := "lamplight/lamplightlaw03.StuffTwice", spec := "stuffTwice", unfollowed := true, recurses := true, apart := false }
def StuffTwiceSaid : Prop := stuffTwiceRow.holds Try.pinned (OpenSpec.ofChange stuffTwiceSpec)

/-- ITS FALSE NEIGHBOUR: 'it returns false'. Refute it at one input. -/
def stuffTwiceWrong : ChangeSpec := { name := "stuffTwice", fn := fun _ => fun
  | [d1, d2] => { results := [.lit (.bool false)], args := [d1, d2] }
  | _ => none }
def StuffTwiceWrongFalsely : Prop := stuffTwiceRow.holds Try.pinned (OpenSpec.ofChange stuffTwiceWrong)

/- THE SECOND FORM. 'bulk': how many values and letters a reading holds, each counted each time it is reached (what is shared counts as often as it is met; a slice's spare places count too). A statement '..UptoSaid' is the law's where the arguments, and the package variables that the reading takes, are together of bulk at most 1048576: NARROWER than '..Said'. Prove '..Said' where nothing that the law and all that it calls make is longer than what came in: it says more and counts as full. Else prove '..UptoSaid'. A law counts once. -/
mutual
def uptoBulk {H : Type} : DataW H → Nat
  | .lit (.string bytes) => bytes.length + 1
  | .lit _ => 1
  | .nil => 1
  | .ptr d => uptoBulk d + 1
  | .slice elems spare => uptoBulkAll elems + uptoBulkAll spare + 1
  | .agg parts => uptoBulkAll parts + 1
  | .iface _ d => uptoBulk d + 1
  | .map entries => uptoBulkEntries entries + 1
  | .held _ => 1
def uptoBulkAll {H : Type} : List (DataW H) → Nat
  | [] => 0
  | d :: r => uptoBulk d + uptoBulkAll r
def uptoBulkEntries {H : Type} : List (Lit × DataW H) → Nat
  | [] => 0
  | x :: r => uptoBulkEntry x + uptoBulkEntries r
def uptoBulkEntry {H : Type} : Lit × DataW H → Nat
  | (.string bytes, d) => bytes.length + uptoBulk d + 1
  | (_, d) => uptoBulk d + 1
 end
def uptoSmall : (H : Type) → List (DataW H) → Bool := fun _ ds => decide (uptoBulkAll ds ≤ 1048576)
def OpenSpec.upto (s : _root_.Go.ChangeSpec) : _root_.Go.OpenSpec := { _root_.Go.OpenSpec.ofChange s with cond := some uptoSmall }

/-- 'lamplightlaw03.StuffTells', WHERE WHAT IT READS IS OF BULK AT MOST 1048576: true; the input reads as it did. -/
def stuffTellsUptoRow : OpenClaim := { program := "ytgaeifdnbajopaa", sum := "c509a676f2483a966160ec765a2c76a76ba8efa043ebd4ffdc85186208760c38", func := "lamplight/lamplightlaw03.StuffTells", spec := "stuffTells", unfollowed := true, recurses := true, apart := false, narrowed := true }
def StuffTellsUptoSaid : Prop := stuffTellsUptoRow.holds Try.pinned (OpenSpec.upto stuffTellsSpec)

/-- 'lamplightlaw03.StuffBack', WHERE WHAT IT READS IS OF BULK AT MOST 1048576: true; the input reads as it did. -/
def stuffBackUptoRow : OpenClaim := { program := "ytgaeifdnbajopaa", sum := "c509a676f2483a966160ec765a2c76a76ba8efa043ebd4ffdc85186208760c38", func := "lamplight/lamplightlaw03.StuffBack", spec := "stuffBack", unfollowed := true, recurses := true, apart := false, narrowed := true }
def StuffBackUptoSaid : Prop := stuffBackUptoRow.holds Try.pinned (OpenSpec.upto stuffBackSpec)

/-- 'lamplightlaw03.StuffParts', WHERE WHAT IT READS IS OF BULK AT MOST 1048576: true; the input reads as it did. -/
def stuffPartsUptoRow : OpenClaim := { program := "ytgaeifdnbajopaa", sum := "c509a676f2483a966160ec765a2c76a76ba8efa043ebd4ffdc85186208760c38", func := "lamplight/lamplightlaw03.StuffParts", spec := "stuffParts", unfollowed := true, recurses := true, apart := false, narrowed := true }
def StuffPartsUptoSaid : Prop := stuffPartsUptoRow.holds Try.pinned (OpenSpec.upto stuffPartsSpec)

/-- 'lamplightlaw03.StuffCuts', WHERE WHAT IT READS IS OF BULK AT MOST 1048576: true; the input reads as it did. -/
def stuffCutsUptoRow : OpenClaim := { program := "ytgaeifdnbajopaa", sum := "c509a676f2483a966160ec765a2c76a76ba8efa043ebd4ffdc85186208760c38", func := "lamplight/lamplightlaw03.StuffCuts", spec := "stuffCuts", unfollowed := true, recurses := true, apart := false, narrowed := true }
def StuffCutsUptoSaid : Prop := stuffCutsUptoRow.holds Try.pinned (OpenSpec.upto stuffCutsSpec)

/-- 'lamplightlaw03.StuffSize', WHERE WHAT IT READS IS OF BULK AT MOST 1048576: true; the input reads as it did. -/
def stuffSizeUptoRow : OpenClaim := { program := "ytgaeifdnbajopaa", sum := "c509a676f2483a966160ec765a2c76a76ba8efa043ebd4ffdc85186208760c38", func := "lamplight/lamplightlaw03.StuffSize", spec := "stuffSize", unfollowed := true, recurses := true, apart := false, narrowed := true }
def StuffSizeUptoSaid : Prop := stuffSizeUptoRow.holds Try.pinned (OpenSpec.upto stuffSizeSpec)

/-- 'lamplightlaw03.StuffBytes', WHERE WHAT IT READS IS OF BULK AT MOST 1048576: true; the input reads as it did. -/
def stuffBytesUptoRow : OpenClaim := { program := "ytgaeifdnbajopaa", sum := "c509a676f2483a966160ec765a2c76a76ba8efa043ebd4ffdc85186208760c38", func := "lamplight/lamplightlaw03.StuffBytes", spec := "stuffBytes", unfollowed := true, recurses := true, apart := false, narrowed := true }
def StuffBytesUptoSaid : Prop := stuffBytesUptoRow.holds Try.pinned (OpenSpec.upto stuffBytesSpec)

/-- 'lamplightlaw03.StuffTwice', WHERE WHAT IT READS IS OF BULK AT MOST 1048576: true; the input reads as it did. -/
def stuffTwiceUptoRow : OpenClaim := { program := "ytgaeifdnbajopaa", sum := "c509a676f2483a966160ec765a2c76a76ba8efa043ebd4ffdc85186208760c38", func := "lamplight/lamplightlaw03.StuffTwice", spec := "stuffTwice", unfollowed := true, recurses := true, apart := false, narrowed := true }
def StuffTwiceUptoSaid : Prop := stuffTwiceUptoRow.holds Try.pinned (OpenSpec.upto stuffTwiceSpec)

end Rows
end Go.Proofs.Ytgaeifdnbajopaa
