/-
  NARROWER THAN 'FOR EVERY INPUT', by the rows' own cells (each row's printed sentence says how): FrameBursts: laid · FrameCuts: laid · FrameNumbers: laid · FrameSealed: laid · FrameOwn: laid · FrameTwo: laid.
  DERIVED. THE GIVEN ROWS OF THIS SEAT. 6 by the template 'for every input the law returns true; each argument reads behind the call as it read before'; 0 by the template 'total and deterministic' (their statements: YtfcbbcimblpbnaaDoorTotals.lean).
  GIVEN WITH THE SEED: the statements are not yours to turn. If you find one false, say at which input.
  Laid BY PROGRAM, IN A SANDBOX (cutbox-rows.mjs): the forced cells as the released guide's own fill.sh prints them over the translation 15618d61048ccdaa… (all of the seat's roots in one cut). By AI agents, Wed Nov 11 2026. No macro, syntax, notation, axiom, sorry.
-/
import Derived.Test.YtfcbbcimblpbnaaDoorChecked
import GoSem.Claim
import GoSem.ClaimJoined
import GoSem.ClaimMapViews
import Derived.JoinedTies
import Derived.KernelRfl
namespace Go.Proofs.YtfcbbcimblpbnaaDoor
/- THE CELL 'sum', in the pinned program and in every row, IS THE sha256 OF THE DUMP (.gsa) THAT YtfcbbcimblpbnaaDoorProg.lean LOADS. Nothing in Lean hashes anything: it is a label: what it is worth is what the hold of that sum in a sandbox is worth. -/
noncomputable def Tryd.pinned : Pinned := { name := "ytfcbbcimblpbnaadoor", sum := "15618d61048ccdaa8b4c563110e04b38bdd8b421dc62564f13362169b01128ca", checked := Tryd.checked }
namespace Rows
def none {H : Type} : Left H := { results := [], args := [] }

/- WHAT THE LISTED PACKAGE-LEVEL VARIABLES READ AS WHEN THE CALL BEGINS. Each datum BY PROGRAM (the guide's laid-datum.mjs) off the statement by which the dump's own 'gosem.cut.vars' lays the variable. In a bare row this is a premise. The card (YtfcbbcimblpbnaaDoorCards.lean) ties it to the program's text. -/
def laid_bytes_ErrTooLarge {H : Type} : DataW H := .iface "*errors.errorString" (.ptr (.agg [.lit (.string [98, 121, 116, 101, 115, 46, 66, 117, 102, 102, 101, 114, 58, 32, 116, 111, 111, 32, 108, 97, 114, 103, 101])]))
def laid_lamplight_crc_turns {H : Type} : DataW H := .agg [.lit (.int .u16 0), .lit (.int .u16 4129), .lit (.int .u16 8258), .lit (.int .u16 12387), .lit (.int .u16 16516), .lit (.int .u16 20645), .lit (.int .u16 24774), .lit (.int .u16 28903), .lit (.int .u16 33032), .lit (.int .u16 37161), .lit (.int .u16 41290), .lit (.int .u16 45419), .lit (.int .u16 49548), .lit (.int .u16 53677), .lit (.int .u16 57806), .lit (.int .u16 61935)]

/-- 'lamplightlaw04.FrameBursts': WHATEVER THE INPUT: true; the input reads as it did. -/
def frameBurstsSpec : ChangeSpec := { name := "frameBursts", fn := fun _ => fun
  | [d1, d2, d3] => { results := [.lit (.bool true)], args := [d1, d2, d3] }
  | _ => none }
def frameBurstsRow : OpenClaim := { program := "ytfcbbcimblpbnaadoor", sum := "15618d61048ccdaa8b4c563110e04b38bdd8b421dc62564f13362169b01128ca", func := "lamplight/lamplightlaw04.FrameBursts", spec := "frameBursts", unfollowed := true, recurses := true, named := ["bytes.ErrTooLarge", "lamplight/crc.turns"], apart := false, laid := [("bytes.ErrTooLarge", laid_bytes_ErrTooLarge), ("lamplight/crc.turns", laid_lamplight_crc_turns)] }
def FrameBurstsSaid : Prop := frameBurstsRow.holds Tryd.pinned (OpenSpec.ofChange frameBurstsSpec)

/-- ITS FALSE NEIGHBOUR: 'it returns false'. Refute it at one input. -/
def frameBurstsWrong : ChangeSpec := { name := "frameBursts", fn := fun _ => fun
  | [d1, d2, d3] => { results := [.lit (.bool false)], args := [d1, d2, d3] }
  | _ => none }
def FrameBurstsWrongFalsely : Prop := frameBurstsRow.holds Tryd.pinned (OpenSpec.ofChange frameBurstsWrong)

/-- 'lamplightlaw04.FrameCuts': WHATEVER THE INPUT: true; the input reads as it did. -/
def frameCutsSpec : ChangeSpec := { name := "frameCuts", fn := fun _ => fun
  | [d1, d2] => { results := [.lit (.bool true)], args := [d1, d2] }
  | _ => none }
def frameCutsRow : OpenClaim := { program := "ytfcbbcimblpbnaadoor", sum := "15618d61048ccdaa8b4c563110e04b38bdd8b421dc62564f13362169b01128ca", func := "lamplight/lamplightlaw04.FrameCuts", spec := "frameCuts", unfollowed := true, recurses := true, named := ["bytes.ErrTooLarge", "lamplight/crc.turns"], apart := false, laid := [("bytes.ErrTooLarge", laid_bytes_ErrTooLarge), ("lamplight/crc.turns", laid_lamplight_crc_turns)] }
def FrameCutsSaid : Prop := frameCutsRow.holds Tryd.pinned (OpenSpec.ofChange frameCutsSpec)

/-- ITS FALSE NEIGHBOUR: 'it returns false'. Refute it at one input. -/
def frameCutsWrong : ChangeSpec := { name := "frameCuts", fn := fun _ => fun
  | [d1, d2] => { results := [.lit (.bool false)], args := [d1, d2] }
  | _ => none }
def FrameCutsWrongFalsely : Prop := frameCutsRow.holds Tryd.pinned (OpenSpec.ofChange frameCutsWrong)

/-- 'lamplightlaw04.FrameNumbers': WHATEVER THE INPUT: true; the input reads as it did. -/
def frameNumbersSpec : ChangeSpec := { name := "frameNumbers", fn := fun _ => fun
  | [d1, d2] => { results := [.lit (.bool true)], args := [d1, d2] }
  | _ => none }
def frameNumbersRow : OpenClaim := { program := "ytfcbbcimblpbnaadoor", sum := "15618d61048ccdaa8b4c563110e04b38bdd8b421dc62564f13362169b01128ca", func := "lamplight/lamplightlaw04.FrameNumbers", spec := "frameNumbers", unfollowed := true, recurses := true, named := ["bytes.ErrTooLarge", "lamplight/crc.turns"], apart := false, laid := [("bytes.ErrTooLarge", laid_bytes_ErrTooLarge), ("lamplight/crc.turns", laid_lamplight_crc_turns)] }
def FrameNumbersSaid : Prop := frameNumbersRow.holds Tryd.pinned (OpenSpec.ofChange frameNumbersSpec)

/-- ITS FALSE NEIGHBOUR: 'it returns false'. Refute it at one input. -/
def frameNumbersWrong : ChangeSpec := { name := "frameNumbers", fn := fun _ => fun
  | [d1, d2] => { results := [.lit (.bool false)], args := [d1, d2] }
  | _ => none }
def FrameNumbersWrongFalsely : Prop := frameNumbersRow.holds Tryd.pinned (OpenSpec.ofChange frameNumbersWrong)

/-- 'lamplightlaw04.FrameSealed': WHATEVER THE INPUT: true; the input reads as it did. -/
def frameSealedSpec : ChangeSpec := { name := "frameSealed", fn := fun _ => fun
  | [d] => { results := [.lit (.bool true)], args := [d] }
  | _ => none }
def frameSealedRow : OpenClaim := { program := "ytfcbbcimblpbnaadoor", sum := "15618d61048ccdaa8b4c563110e04b38bdd8b421dc62564f13362169b01128ca", func := "lamplight/lamplightlaw04.FrameSealed", spec := "frameSealed", unfollowed := true, recurses := true, named := ["bytes.ErrTooLarge", "lamplight/crc.turns"], apart := false, laid := [("bytes.ErrTooLarge", laid_bytes_ErrTooLarge), ("lamplight/crc.turns", laid_lamplight_crc_turns)] }
def FrameSealedSaid : Prop := frameSealedRow.holds Tryd.pinned (OpenSpec.ofChange frameSealedSpec)

/-- ITS FALSE NEIGHBOUR: 'it returns false'. Refute it at one input. -/
def frameSealedWrong : ChangeSpec := { name := "frameSealed", fn := fun _ => fun
  | [d] => { results := [.lit (.bool false)], args := [d] }
  | _ => none }
def FrameSealedWrongFalsely : Prop := frameSealedRow.holds Tryd.pinned (OpenSpec.ofChange frameSealedWrong)

/-- 'lamplightlaw04.FrameOwn': WHATEVER THE INPUT: true; the input reads as it did. -/
def frameOwnSpec : ChangeSpec := { name := "frameOwn", fn := fun _ => fun
  | [d] => { results := [.lit (.bool true)], args := [d] }
  | _ => none }
def frameOwnRow : OpenClaim := { program := "ytfcbbcimblpbnaadoor", sum := "15618d61048ccdaa8b4c563110e04b38bdd8b421dc62564f13362169b01128ca", func := "lamplight/lamplightlaw04.FrameOwn", spec := "frameOwn", unfollowed := true, recurses := true, named := ["bytes.ErrTooLarge", "lamplight/crc.turns"], apart := false, laid := [("bytes.ErrTooLarge", laid_bytes_ErrTooLarge), ("lamplight/crc.turns", laid_lamplight_crc_turns)] }
def FrameOwnSaid : Prop := frameOwnRow.holds Tryd.pinned (OpenSpec.ofChange frameOwnSpec)

/-- ITS FALSE NEIGHBOUR: 'it returns false'. Refute it at one input. -/
def frameOwnWrong : ChangeSpec := { name := "frameOwn", fn := fun _ => fun
  | [d] => { results := [.lit (.bool false)], args := [d] }
  | _ => none }
def FrameOwnWrongFalsely : Prop := frameOwnRow.holds Tryd.pinned (OpenSpec.ofChange frameOwnWrong)

/-- 'lamplightlaw04.FrameTwo': WHATEVER THE INPUT: true; the input reads as it did. -/
def frameTwoSpec : ChangeSpec := { name := "frameTwo", fn := fun _ => fun
  | [d1, d2] => { results := [.lit (.bool true)], args := [d1, d2] }
  | _ => none }
def frameTwoRow : OpenClaim := { program := "ytfcbbcimblpbnaadoor", sum := "15618d61048ccdaa8b4c563110e04b38bdd8b421dc62564f13362169b01128ca", func := "lamplight/lamplightlaw04.FrameTwo", spec := "frameTwo", unfollowed := true, recurses := true, named := ["bytes.ErrTooLarge", "lamplight/crc.turns"], apart := false, laid := [("bytes.ErrTooLarge", laid_bytes_ErrTooLarge), ("lamplight/crc.turns", laid_lamplight_crc_turns)] }
def FrameTwoSaid : Prop := frameTwoRow.holds Tryd.pinned (OpenSpec.ofChange frameTwoSpec)

/-- ITS FALSE NEIGHBOUR: 'it returns false'. Refute it at one input. -/
def frameTwoWrong : ChangeSpec := { name := "frameTwo", fn := fun _ => fun
  | [d1, d2] => { results := [.lit (.bool false)], args := [d1, d2] }
  | _ => none }
def FrameTwoWrongFalsely : Prop := frameTwoRow.holds Tryd.pinned (OpenSpec.ofChange frameTwoWrong)

/- THE SECOND FORM. 'bulk': how many values and letters a reading holds, each counted each time it is reached (what is shared counts as often as it is met; a slice's spare places count too). A statement '..UptoSaid' is the law's where the arguments, and the package variables that the reading takes, are together of bulk at most 1048576: NARROWER than '..Said'. Prove '..Said' where nothing that the law and all that it calls make is longer than what came in: it says more and counts as full. Else prove '..UptoSaid'. A law counts once. -/
mutual
def uptoBulk {H : Type} : DataW H → Nat
  | .lit (.string bytes) => bytes.length + 1
  | .lit _ => 1
  | .nil => 1
  | .ptr d => uptoBulk d + 1
  | .slice elems spare => uptoBulkAll elems + uptoBulkAll spare + 1
  | .agg parts => uptoBulkAll parts + 1
  | .iface _ d => uptoBulk d + 1
  | .map entries => uptoBulkEntries entries + 1
  | .held _ => 1
def uptoBulkAll {H : Type} : List (DataW H) → Nat
  | [] => 0
  | d :: r => uptoBulk d + uptoBulkAll r
def uptoBulkEntries {H : Type} : List (Lit × DataW H) → Nat
  | [] => 0
  | x :: r => uptoBulkEntry x + uptoBulkEntries r
def uptoBulkEntry {H : Type} : Lit × DataW H → Nat
  | (.string bytes, d) => bytes.length + uptoBulk d + 1
  | (_, d) => uptoBulk d + 1
 end
def uptoSmall : (H : Type) → List (DataW H) → Bool := fun _ ds => decide (uptoBulkAll ds ≤ 1048576)
def OpenSpec.upto (s : _root_.Go.ChangeSpec) : _root_.Go.OpenSpec := { _root_.Go.OpenSpec.ofChange s with cond := some uptoSmall }

/-- 'lamplightlaw04.FrameBursts', WHERE WHAT IT READS IS OF BULK AT MOST 1048576: true; the input reads as it did. -/
def frameBurstsUptoRow : OpenClaim := { program := "ytfcbbcimblpbnaadoor", sum := "15618d61048ccdaa8b4c563110e04b38bdd8b421dc62564f13362169b01128ca", func := "lamplight/lamplightlaw04.FrameBursts", spec := "frameBursts", unfollowed := true, recurses := true, named := ["bytes.ErrTooLarge", "lamplight/crc.turns"], apart := false, laid := [("bytes.ErrTooLarge", laid_bytes_ErrTooLarge), ("lamplight/crc.turns", laid_lamplight_crc_turns)], narrowed := true }
def FrameBurstsUptoSaid : Prop := frameBurstsUptoRow.holds Tryd.pinned (OpenSpec.upto frameBurstsSpec)

/-- 'lamplightlaw04.FrameCuts', WHERE WHAT IT READS IS OF BULK AT MOST 1048576: true; the input reads as it did. -/
def frameCutsUptoRow : OpenClaim := { program := "ytfcbbcimblpbnaadoor", sum := "15618d61048ccdaa8b4c563110e04b38bdd8b421dc62564f13362169b01128ca", func := "lamplight/lamplightlaw04.FrameCuts", spec := "frameCuts", unfollowed := true, recurses := true, named := ["bytes.ErrTooLarge", "lamplight/crc.turns"], apart := false, laid := [("bytes.ErrTooLarge", laid_bytes_ErrTooLarge), ("lamplight/crc.turns", laid_lamplight_crc_turns)], narrowed := true }
def FrameCutsUptoSaid : Prop := frameCutsUptoRow.holds Tryd.pinned (OpenSpec.upto frameCutsSpec)

/-- 'lamplightlaw04.FrameNumbers', WHERE WHAT IT READS IS OF BULK AT MOST 1048576: true; the input reads as it did. -/
def frameNumbersUptoRow : OpenClaim := { program := "ytfcbbcimblpbnaadoor", sum := "15618d61048ccdaa8b4c563110e04b38bdd8b421dc62564f13362169b01128ca", func := "lamplight/lamplightlaw04.FrameNumbers", spec := "frameNumbers", unfollowed := true, recurses := true, named := ["bytes.ErrTooLarge", "lamplight/crc.turns"], apart := false, laid := [("bytes.ErrTooLarge", laid_bytes_ErrTooLarge), ("lamplight/crc.turns", laid_lamplight_crc_turns)], narrowed := true }
def FrameNumbersUptoSaid : Prop := frameNumbersUptoRow.holds Tryd.pinned (OpenSpec.upto frameNumbersSpec)

/-- 'lamplightlaw04.FrameSealed', WHERE WHAT IT READS IS OF BULK AT MOST 1048576: true; the input reads as it did. -/
def frameSealedUptoRow : OpenClaim := { program := "ytfcbbcimblpbnaadoor", sum := "15618d61048ccdaa8b4c563110e04b38bdd8b421dc62564f13362169b01128ca", func := "lamplight/lamplightlaw04.FrameSealed", spec := "frameSealed", unfollowed := true, recurses := true, named := ["bytes.ErrTooLarge", "lamplight/crc.turns"], apart := false, laid := [("bytes.ErrTooLarge", laid_bytes_ErrTooLarge), ("lamplight/crc.turns", laid_lamplight_crc_turns)], narrowed := true }
def FrameSealedUptoSaid : Prop := frameSealedUptoRow.holds Tryd.pinned (OpenSpec.upto frameSealedSpec)

/-- 'lamplightlaw04.FrameOwn', WHERE WHAT IT READS IS OF BULK AT MOST 1048576: true; the input reads as it did. -/
def frameOwnUptoRow : OpenClaim := { program := "ytfcbbcimblpbnaadoor", sum := "15618d61048ccdaa8b4c563110e04b38bdd8b421dc62564f13362169b01128ca", func := "lamplight/lamplightlaw04.FrameOwn", spec := "frameOwn", unfollowed := true, recurses := true, named := ["bytes.ErrTooLarge", "lamplight/crc.turns"], apart := false, laid := [("bytes.ErrTooLarge", laid_bytes_ErrTooLarge), ("lamplight/crc.turns", laid_lamplight_crc_turns)], narrowed := true }
def FrameOwnUptoSaid : Prop := frameOwnUptoRow.holds Tryd.pinned (OpenSpec.upto frameOwnSpec)

/-- 'lamplightlaw04.FrameTwo', WHERE WHAT IT READS IS OF BULK AT MOST 1048576: true; the input reads as it did. -/
def frameTwoUptoRow : OpenClaim := { program := "ytfcbbcimblpbnaadoor", sum := "15618d61048ccdaa8b4c563110e04b38bdd8b421dc62564f13362169b01128ca", func := "lamplight/lamplightlaw04.FrameTwo", spec := "frameTwo", unfollowed := true, recurses := true, named := ["bytes.ErrTooLarge", "lamplight/crc.turns"], apart := false, laid := [("bytes.ErrTooLarge", laid_bytes_ErrTooLarge), ("lamplight/crc.turns", laid_lamplight_crc_turns)], narrowed := true }
def FrameTwoUptoSaid : Prop := frameTwoUptoRow.holds Tryd.pinned (OpenSpec.upto frameTwoSpec)

end Rows
end Go.Proofs.YtfcbbcimblpbnaaDoor
