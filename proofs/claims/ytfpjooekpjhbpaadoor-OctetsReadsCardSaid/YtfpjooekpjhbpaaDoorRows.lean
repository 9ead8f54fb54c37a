/-
  NARROWER THAN 'FOR EVERY INPUT', by the rows' own cells (each row's printed sentence says how): OctetsJoins: laid · OctetsWrites: laid · OctetsLater: laid · OctetsStays: laid · OctetsCuts: laid · OctetsBack: laid · OctetsNumbers: laid · OctetsReads: laid.
  DERIVED. THE GIVEN ROWS OF THIS SEAT. 8 by the template 'for every input the law returns true; each argument reads behind the call as it read before'; 0 by the template 'total and deterministic' (their statements: YtfpjooekpjhbpaaDoorTotals.lean).
  GIVEN WITH THE SEED: the statements are not yours to turn. If you find one false, say at which input.
  Laid BY PROGRAM, IN A SANDBOX (cutbox-rows.mjs): the forced cells as the released guide's own fill.sh prints them over the translation 827f636fc9cd4bda… (all of the seat's roots in one cut). By AI agents, Wed Nov 11 2026. No macro, syntax, notation, axiom, sorry.
-/
import Derived.Test.YtfpjooekpjhbpaaDoorChecked
import GoSem.Claim
import GoSem.ClaimJoined
import GoSem.ClaimMapViews
import Derived.JoinedTies
import Derived.KernelRfl
namespace Go.Proofs.YtfpjooekpjhbpaaDoor
/- THE CELL 'sum', in the pinned program and in every row, IS THE sha256 OF THE DUMP (.gsa) THAT YtfpjooekpjhbpaaDoorProg.lean LOADS. Nothing in Lean hashes anything: it is a label: what it is worth is what the hold of that sum in a sandbox is worth. -/
noncomputable def Tryd.pinned : Pinned := { name := "ytfpjooekpjhbpaadoor", sum := "827f636fc9cd4bda59690a7d7692a79fbd7c0ceaeb9ff7e8bd717be75340057b", checked := Tryd.checked }
namespace Rows
def none {H : Type} : Left H := { results := [], args := [] }

/- WHAT THE LISTED PACKAGE-LEVEL VARIABLES READ AS WHEN THE CALL BEGINS. Each datum BY PROGRAM (the guide's laid-datum.mjs) off the statement by which the dump's own 'gosem.cut.vars' lays the variable. In a bare row this is a premise. The card (YtfpjooekpjhbpaaDoorCards.lean) ties it to the program's text. -/
def laid_bytes_ErrTooLarge {H : Type} : DataW H := .iface "*errors.errorString" (.ptr (.agg [.lit (.string [98, 121, 116, 101, 115, 46, 66, 117, 102, 102, 101, 114, 58, 32, 116, 111, 111, 32, 108, 97, 114, 103, 101])]))

/-- 'lamplightlaw01.OctetsJoins': WHATEVER THE INPUT: true; the input reads as it did. -/
def octetsJoinsSpec : ChangeSpec := { name := "octetsJoins", fn := fun _ => fun
  | [d1, d2] => { results := [.lit (.bool true)], args := [d1, d2] }
  | _ => none }
def octetsJoinsRow : OpenClaim := { program := "ytfpjooekpjhbpaadoor", sum := "827f636fc9cd4bda59690a7d7692a79fbd7c0ceaeb9ff7e8bd717be75340057b", func := "lamplight/lamplightlaw01.OctetsJoins", spec := "octetsJoins", named := ["bytes.ErrTooLarge"], apart := false, laid := [("bytes.ErrTooLarge", laid_bytes_ErrTooLarge)] }
def OctetsJoinsSaid : Prop := octetsJoinsRow.holds Tryd.pinned (OpenSpec.ofChange octetsJoinsSpec)

/-- ITS FALSE NEIGHBOUR: 'it returns false'. Refute it at one input. -/
def octetsJoinsWrong : ChangeSpec := { name := "octetsJoins", fn := fun _ => fun
  | [d1, d2] => { results := [.lit (.bool false)], args := [d1, d2] }
  | _ => none }
def OctetsJoinsWrongFalsely : Prop := octetsJoinsRow.holds Tryd.pinned (OpenSpec.ofChange octetsJoinsWrong)

/-- 'lamplightlaw01.OctetsWrites': WHATEVER THE INPUT: true; the input reads as it did. -/
def octetsWritesSpec : ChangeSpec := { name := "octetsWrites", fn := fun _ => fun
  | [d] => { results := [.lit (.bool true)], args := [d] }
  | _ => none }
def octetsWritesRow : OpenClaim := { program := "ytfpjooekpjhbpaadoor", sum := "827f636fc9cd4bda59690a7d7692a79fbd7c0ceaeb9ff7e8bd717be75340057b", func := "lamplight/lamplightlaw01.OctetsWrites", spec := "octetsWrites", named := ["bytes.ErrTooLarge"], apart := false, laid := [("bytes.ErrTooLarge", laid_bytes_ErrTooLarge)] }
def OctetsWritesSaid : Prop := octetsWritesRow.holds Tryd.pinned (OpenSpec.ofChange octetsWritesSpec)

/-- ITS FALSE NEIGHBOUR: 'it returns false'. Refute it at one input. -/
def octetsWritesWrong : ChangeSpec := { name := "octetsWrites", fn := fun _ => fun
  | [d] => { results := [.lit (.bool false)], args := [d] }
  | _ => none }
def OctetsWritesWrongFalsely : Prop := octetsWritesRow.holds Tryd.pinned (OpenSpec.ofChange octetsWritesWrong)

/-- 'lamplightlaw01.OctetsLater': WHATEVER THE INPUT: true; the input reads as it did. -/
def octetsLaterSpec : ChangeSpec := { name := "octetsLater", fn := fun _ => fun
  | [d1, d2] => { results := [.lit (.bool true)], args := [d1, d2] }
  | _ => none }
def octetsLaterRow : OpenClaim := { program := "ytfpjooekpjhbpaadoor", sum := "827f636fc9cd4bda59690a7d7692a79fbd7c0ceaeb9ff7e8bd717be75340057b", func := "lamplight/lamplightlaw01.OctetsLater", spec := "octetsLater", named := ["bytes.ErrTooLarge"], apart := false, laid := [("bytes.ErrTooLarge", laid_bytes_ErrTooLarge)] }
def OctetsLaterSaid : Prop := octetsLaterRow.holds Tryd.pinned (OpenSpec.ofChange octetsLaterSpec)

/-- ITS FALSE NEIGHBOUR: 'it returns false'. Refute it at one input. -/
def octetsLaterWrong : ChangeSpec := { name := "octetsLater", fn := fun _ => fun
  | [d1, d2] => { results := [.lit (.bool false)], args := [d1, d2] }
  | _ => none }
def OctetsLaterWrongFalsely : Prop := octetsLaterRow.holds Tryd.pinned (OpenSpec.ofChange octetsLaterWrong)

/-- 'lamplightlaw01.OctetsStays': WHATEVER THE INPUT: true; the input reads as it did. -/
def octetsStaysSpec : ChangeSpec := { name := "octetsStays", fn := fun _ => fun
  | [d1, d2] => { results := [.lit (.bool true)], args := [d1, d2] }
  | _ => none }
def octetsStaysRow : OpenClaim := { program := "ytfpjooekpjhbpaadoor", sum := "827f636fc9cd4bda59690a7d7692a79fbd7c0ceaeb9ff7e8bd717be75340057b", func := "lamplight/lamplightlaw01.OctetsStays", spec := "octetsStays", named := ["bytes.ErrTooLarge"], apart := false, laid := [("bytes.ErrTooLarge", laid_bytes_ErrTooLarge)] }
def OctetsStaysSaid : Prop := octetsStaysRow.holds Tryd.pinned (OpenSpec.ofChange octetsStaysSpec)

/-- ITS FALSE NEIGHBOUR: 'it returns false'. Refute it at one input. -/
def octetsStaysWrong : ChangeSpec := { name := "octetsStays", fn := fun _ => fun
  | [d1, d2] => { results := [.lit (.bool false)], args := [d1, d2] }
  | _ => none }
def OctetsStaysWrongFalsely : Prop := octetsStaysRow.holds Tryd.pinned (OpenSpec.ofChange octetsStaysWrong)

/-- 'lamplightlaw01.OctetsCuts': WHATEVER THE INPUT: true; the input reads as it did. -/
def octetsCutsSpec : ChangeSpec := { name := "octetsCuts", fn := fun _ => fun
  | [d1, d2] => { results := [.lit (.bool true)], args := [d1, d2] }
  | _ => none }
def octetsCutsRow : OpenClaim := { program := "ytfpjooekpjhbpaadoor", sum := "827f636fc9cd4bda59690a7d7692a79fbd7c0ceaeb9ff7e8bd717be75340057b", func := "lamplight/lamplightlaw01.OctetsCuts", spec := "octetsCuts", named := ["bytes.ErrTooLarge"], apart := false, laid := [("bytes.ErrTooLarge", laid_bytes_ErrTooLarge)] }
def OctetsCutsSaid : Prop := octetsCutsRow.holds Tryd.pinned (OpenSpec.ofChange octetsCutsSpec)

/-- ITS FALSE NEIGHBOUR: 'it returns false'. Refute it at one input. -/
def octetsCutsWrong : ChangeSpec := { name := "octetsCuts", fn := fun _ => fun
  | [d1, d2] => { results := [.lit (.bool false)], args := [d1, d2] }
  | _ => none }
def OctetsCutsWrongFalsely : Prop := octetsCutsRow.holds Tryd.pinned (OpenSpec.ofChange octetsCutsWrong)

/-- 'lamplightlaw01.OctetsBack': WHATEVER THE INPUT: true; the input reads as it did. -/
def octetsBackSpec : ChangeSpec := { name := "octetsBack", fn := fun _ => fun
  | [d1, d2] => { results := [.lit (.bool true)], args := [d1, d2] }
  | _ => none }
def octetsBackRow : OpenClaim := { program := "ytfpjooekpjhbpaadoor", sum := "827f636fc9cd4bda59690a7d7692a79fbd7c0ceaeb9ff7e8bd717be75340057b", func := "lamplight/lamplightlaw01.OctetsBack", spec := "octetsBack", named := ["bytes.ErrTooLarge"], apart := false, laid := [("bytes.ErrTooLarge", laid_bytes_ErrTooLarge)] }
def OctetsBackSaid : Prop := octetsBackRow.holds Tryd.pinned (OpenSpec.ofChange octetsBackSpec)

/-- ITS FALSE NEIGHBOUR: 'it returns false'. Refute it at one input. -/
def octetsBackWrong : ChangeSpec := { name := "octetsBack", fn := fun _ => fun
  | [d1, d2] => { results := [.lit (.bool false)], args := [d1, d2] }
  | _ => none }
def OctetsBackWrongFalsely : Prop := octetsBackRow.holds Tryd.pinned (OpenSpec.ofChange octetsBackWrong)

/-- 'lamplightlaw01.OctetsNumbers': WHATEVER THE INPUT: true; the input reads as it did. -/
def octetsNumbersSpec : ChangeSpec := { name := "octetsNumbers", fn := fun _ => fun
  | [d] => { results := [.lit (.bool true)], args := [d] }
  | _ => none }
def octetsNumbersRow : OpenClaim := { program := "ytfpjooekpjhbpaadoor", sum := "827f636fc9cd4bda59690a7d7692a79fbd7c0ceaeb9ff7e8bd717be75340057b", func := "lamplight/lamplightlaw01.OctetsNumbers", spec := "octetsNumbers", named := ["bytes.ErrTooLarge"], apart := false, laid := [("bytes.ErrTooLarge", laid_bytes_ErrTooLarge)] }
def OctetsNumbersSaid : Prop := octetsNumbersRow.holds Tryd.pinned (OpenSpec.ofChange octetsNumbersSpec)

/-- ITS FALSE NEIGHBOUR: 'it returns false'. Refute it at one input. -/
def octetsNumbersWrong : ChangeSpec := { name := "octetsNumbers", fn := fun _ => fun
  | [d] => { results := [.lit (.bool false)], args := [d] }
  | _ => none }
def OctetsNumbersWrongFalsely : Prop := octetsNumbersRow.holds Tryd.pinned (OpenSpec.ofChange octetsNumbersWrong)

/-- 'lamplightlaw01.OctetsReads': WHATEVER THE INPUT: true; the input reads as it did. -/
def octetsReadsSpec : ChangeSpec := { name := "octetsReads", fn := fun _ => fun
  | [d1, d2] => { results := [.lit (.bool true)], args := [d1, d2] }
  | _ => none }
def octetsReadsRow : OpenClaim := { program := "ytfpjooekpjhbpaadoor", sum := "827f636fc9cd4bda59690a7d7692a79fbd7c0ceaeb9ff7e8bd717be75340057b", func := "lamplight/lamplightlaw01.OctetsReads", spec := "octetsReads", named := ["bytes.ErrTooLarge"], apart := false, laid := [("bytes.ErrTooLarge", laid_bytes_ErrTooLarge)] }
def OctetsReadsSaid : Prop := octetsReadsRow.holds Tryd.pinned (OpenSpec.ofChange octetsReadsSpec)

/-- ITS FALSE NEIGHBOUR: 'it returns false'. Refute it at one input. -/
def octetsReadsWrong : ChangeSpec := { name := "octetsReads", fn := fun _ => fun
  | [d1, d2] => { results := [.lit (.bool false)], args := [d1, d2] }
  | _ => none }
def OctetsReadsWrongFalsely : Prop := octetsReadsRow.holds Tryd.pinned (OpenSpec.ofChange octetsReadsWrong)

/- THE SECOND FORM. 'bulk': how many values and letters a reading holds, each counted each time it is reached (what is shared counts as often as it is met; a slice's spare places count too). A statement '..UptoSaid' is the law's where the arguments, and the package variables that the reading takes, are together of bulk at most 1048576: NARROWER than '..Said'. Prove '..Said' where nothing that the law and all that it calls make is longer than what came in: it says more and counts as full. Else prove '..UptoSaid'. A law counts once. -/
mutual
def uptoBulk {H : Type} : DataW H → Nat
  | .lit (.string bytes) => bytes.length + 1
  | .lit _ => 1
  | .nil => 1
  | .ptr d => uptoBulk d + 1
  | .slice elems spare => uptoBulkAll elems + uptoBulkAll spare + 1
  | .agg parts => uptoBulkAll parts + 1
  | .iface _ d => uptoBulk d + 1
  | .map entries => uptoBulkEntries entries + 1
  | .held _ => 1
def uptoBulkAll {H : Type} : List (DataW H) → Nat
  | [] => 0
  | d :: r => uptoBulk d + uptoBulkAll r
def uptoBulkEntries {H : Type} : List (Lit × DataW H) → Nat
  | [] => 0
  | x :: r => uptoBulkEntry x + uptoBulkEntries r
def uptoBulkEntry {H : Type} : Lit × DataW H → Nat
  | (.string bytes, d) => bytes.length + uptoBulk d + 1
  | (_, d) => uptoBulk d + 1
 end
def uptoSmall : (H : Type) → List (DataW H) → Bool := fun _ ds => decide (uptoBulkAll ds ≤ 1048576)
def OpenSpec.upto (s : _root_.Go.ChangeSpec) : _root_.Go.OpenSpec := { _root_.Go.OpenSpec.ofChange s with cond := some uptoSmall }

/-- 'lamplightlaw01.OctetsJoins', WHERE WHAT IT READS IS OF BULK AT MOST 1048576: true; the input reads as it did. -/
def octetsJoinsUptoRow : OpenClaim := { program := "ytfpjooekpjhbpaadoor", sum := "827f636fc9cd4bda59690a7d7692a79fbd7c0ceaeb9ff7e8bd717be75340057b", func := "lamplight/lamplightlaw01.OctetsJoins", spec := "octetsJoins", named := ["bytes.ErrTooLarge"], apart := false, laid := [("bytes.ErrTooLarge", laid_bytes_ErrTooLarge)], narrowed := true }
def OctetsJoinsUptoSaid : Prop := octetsJoinsUptoRow.holds Tryd.pinned (OpenSpec.upto octetsJoinsSpec)

/-- 'lamplightlaw01.OctetsWrites', WHERE WHAT IT READS IS OF BULK AT MOST 1048576: true; the input reads as it did. -/
def octetsWritesUptoRow : OpenClaim := { program := "ytfpjooekpjhbpaadoor", sum := "827f636fc9cd4bda59690a7d7692a79fbd7c0ceaeb9ff7e8bd717be75340057b", func := "lamplight/lamplightlaw01.OctetsWrites", spec := "octetsWrites", named := ["bytes.ErrTooLarge"], apart := false, laid := [("bytes.ErrTooLarge", laid_bytes_ErrTooLarge)], narrowed := true }
def OctetsWritesUptoSaid : Prop := octetsWritesUptoRow.holds Tryd.pinned (OpenSpec.upto octetsWritesSpec)

/-- 'lamplightlaw01.OctetsLater', WHERE WHAT IT READS IS OF BULK AT MOST 1048576: true; the input reads as it did. -/
def octetsLaterUptoRow : OpenClaim := { program := "ytfpjooekpjhbpaadoor", sum := "827f636fc9cd4bda59690a7d7692a79fbd7c0ceaeb9ff7e8bd717be75340057b", func := "lamplight/lamplightlaw01.OctetsLater", spec := "octetsLater", named := ["bytes.ErrTooLarge"], apart := false, laid := [("bytes.ErrTooLarge", laid_bytes_ErrTooLarge)], narrowed := true }
def OctetsLaterUptoSaid : Prop := octetsLaterUptoRow.holds Tryd.pinned (OpenSpec.upto octetsLaterSpec)

/-- 'lamplightlaw01.OctetsStays', WHERE WHAT IT READS IS OF BULK AT MOST 1048576: true; the input reads as it did. -/
def octetsStaysUptoRow : OpenClaim := { program := "ytfpjooekpjhbpaadoor", sum := "827f636fc9cd4bda59690a7d7692a79fbd7c0ceaeb9ff7e8bd717be75340057b", func := "lamplight/lamplightlaw01.OctetsStays", spec := "octetsStays", named := ["bytes.ErrTooLarge"], apart := false, laid := [("bytes.ErrTooLarge", laid_bytes_ErrTooLarge)], narrowed := true }
def OctetsStaysUptoSaid : Prop := octetsStaysUptoRow.holds Tryd.pinned (OpenSpec.upto octetsStaysSpec)

/-- 'lamplightlaw01.OctetsCuts', WHERE WHAT IT READS IS OF BULK AT MOST 1048576: true; the input reads as it did. -/
def octetsCutsUptoRow : OpenClaim := { program := "ytfpjooekpjhbpaadoor", sum := "827f636fc9cd4bda59690a7d7692a79fbd7c0ceaeb9ff7e8bd717be75340057b", func := "lamplight/lamplightlaw01.OctetsCuts", spec := "octetsCuts", named := ["bytes.ErrTooLarge"], apart := false, laid := [("bytes.ErrTooLarge", laid_bytes_ErrTooLarge)], narrowed := true }
def OctetsCutsUptoSaid : Prop := octetsCutsUptoRow.holds Tryd.pinned (OpenSpec.upto octetsCutsSpec)

/-- 'lamplightlaw01.OctetsBack', WHERE WHAT IT READS IS OF BULK AT MOST 1048576: true; the input reads as it did. -/
def octetsBackUptoRow : OpenClaim := { program := "ytfpjooekpjhbpaadoor", sum := "827f636fc9cd4bda59690a7d7692a79fbd7c0ceaeb9ff7e8bd717be75340057b", func := "lamplight/lamplightlaw01.OctetsBack", spec := "octetsBack", named := ["bytes.ErrTooLarge"], apart := false, laid := [("bytes.ErrTooLarge", laid_bytes_ErrTooLarge)], narrowed := true }
def OctetsBackUptoSaid : Prop := octetsBackUptoRow.holds Tryd.pinned (OpenSpec.upto octetsBackSpec)

/-- 'lamplightlaw01.OctetsNumbers', WHERE WHAT IT READS IS OF BULK AT MOST 1048576: true; the input reads as it did. -/
def octetsNumbersUptoRow : OpenClaim := { program := "ytfpjooekpjhbpaadoor", sum := "827f636fc9cd4bda59690a7d7692a79fbd7c0ceaeb9ff7e8bd717be75340057b", func := "lamplight/lamplightlaw01.OctetsNumbers", spec := "octetsNumbers", named := ["bytes.ErrTooLarge"], apart := false, laid := [("bytes.ErrTooLarge", laid_bytes_ErrTooLarge)], narrowed := true }
def OctetsNumbersUptoSaid : Prop := octetsNumbersUptoRow.holds Tryd.pinned (OpenSpec.upto octetsNumbersSpec)

/-- 'lamplightlaw01.OctetsReads', WHERE WHAT IT READS IS OF BULK AT MOST 1048576: true; the input reads as it did. -/
def octetsReadsUptoRow : OpenClaim := { program := "ytfpjooekpjhbpaadoor", sum := "827f636fc9cd4bda59690a7d7692a79fbd7c0ceaeb9ff7e8bd717be75340057b", func := "lamplight/lamplightlaw01.OctetsReads", spec := "octetsReads", named := ["bytes.ErrTooLarge"], apart := false, laid := [("bytes.ErrTooLarge", laid_bytes_ErrTooLarge)], narrowed := true }
def OctetsReadsUptoSaid : Prop := octetsReadsUptoRow.holds Tryd.pinned (OpenSpec.upto octetsReadsSpec)

end Rows
end Go.Proofs.YtfpjooekpjhbpaaDoor
