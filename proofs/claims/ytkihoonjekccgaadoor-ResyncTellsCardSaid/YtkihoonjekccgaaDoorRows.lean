/-
  NARROWER THAN 'FOR EVERY INPUT', by the rows' own cells (each row's printed sentence says how): ResyncTells: laid · ResyncPortions: laid · ResyncThrough: laid · ResyncBounds: laid · ResyncCounts: laid · ResyncApart: laid.
  DERIVED. THE GIVEN ROWS OF THIS SEAT. 6 by the template 'for every input the law returns true; each argument reads behind the call as it read before'; 0 by the template 'total and deterministic' (their statements: YtkihoonjekccgaaDoorTotals.lean).
  GIVEN WITH THE SEED: the statements are not yours to turn. If you find one false, say at which input.
  Laid BY PROGRAM, IN A SANDBOX (cutbox-rows.mjs): the forced cells as the released guide's own fill.sh prints them over the translation 7f17a0854efac589… (all of the seat's roots in one cut). By AI agents, Wed Nov 11 2026. No macro, syntax, notation, axiom, sorry.
-/
import Derived.Test.YtkihoonjekccgaaDoorChecked
import GoSem.Claim
import GoSem.ClaimJoined
import GoSem.ClaimMapViews
import Derived.JoinedTies
import Derived.KernelRfl
namespace Go.Proofs.YtkihoonjekccgaaDoor
/- THE CELL 'sum', in the pinned program and in every row, IS THE sha256 OF THE DUMP (.gsa) THAT YtkihoonjekccgaaDoorProg.lean LOADS. Nothing in Lean hashes anything: it is a label: what it is worth is what the hold of that sum in a sandbox is worth. -/
noncomputable def Tryd.pinned : Pinned := { name := "ytkihoonjekccgaadoor", sum := "7f17a0854efac589124c921fe6ba8cbf9abd49152e856e182d62331ad6c8cd35", checked := Tryd.checked }
namespace Rows
def none {H : Type} : Left H := { results := [], args := [] }

/- WHAT THE LISTED PACKAGE-LEVEL VARIABLES READ AS WHEN THE CALL BEGINS. Each datum BY PROGRAM (the guide's laid-datum.mjs) off the statement by which the dump's own 'gosem.cut.vars' lays the variable. In a bare row this is a premise. The card (YtkihoonjekccgaaDoorCards.lean) ties it to the program's text. -/
def laid_bytes_ErrTooLarge {H : Type} : DataW H := .iface "*errors.errorString" (.ptr (.agg [.lit (.string [98, 121, 116, 101, 115, 46, 66, 117, 102, 102, 101, 114, 58, 32, 116, 111, 111, 32, 108, 97, 114, 103, 101])]))
def laid_lamplight_crc_turns {H : Type} : DataW H := .agg [.lit (.int .u16 0), .lit (.int .u16 4129), .lit (.int .u16 8258), .lit (.int .u16 12387), .lit (.int .u16 16516), .lit (.int .u16 20645), .lit (.int .u16 24774), .lit (.int .u16 28903), .lit (.int .u16 33032), .lit (.int .u16 37161), .lit (.int .u16 41290), .lit (.int .u16 45419), .lit (.int .u16 49548), .lit (.int .u16 53677), .lit (.int .u16 57806), .lit (.int .u16 61935)]

/-- 'lamplightlaw05.ResyncTells': WHATEVER THE INPUT: true; the input reads as it did. -/
def resyncTellsSpec : ChangeSpec := { name := "resyncTells", fn := fun _ => fun
  | [d] => { results := [.lit (.bool true)], args := [d] }
  | _ => none }
def resyncTellsRow : OpenClaim := { program := "ytkihoonjekccgaadoor", sum := "7f17a0854efac589124c921fe6ba8cbf9abd49152e856e182d62331ad6c8cd35", func := "lamplight/lamplightlaw05.ResyncTells", spec := "resyncTells", unfollowed := true, recurses := true, named := ["bytes.ErrTooLarge", "lamplight/crc.turns"], apart := false, laid := [("bytes.ErrTooLarge", laid_bytes_ErrTooLarge), ("lamplight/crc.turns", laid_lamplight_crc_turns)] }
def ResyncTellsSaid : Prop := resyncTellsRow.holds Tryd.pinned (OpenSpec.ofChange resyncTellsSpec)

/-- ITS FALSE NEIGHBOUR: 'it returns false'. Refute it at one input. -/
def resyncTellsWrong : ChangeSpec := { name := "resyncTells", fn := fun _ => fun
  | [d] => { results := [.lit (.bool false)], args := [d] }
  | _ => none }
def ResyncTellsWrongFalsely : Prop := resyncTellsRow.holds Tryd.pinned (OpenSpec.ofChange resyncTellsWrong)

/-- 'lamplightlaw05.ResyncPortions': WHATEVER THE INPUT: true; the input reads as it did. -/
def resyncPortionsSpec : ChangeSpec := { name := "resyncPortions", fn := fun _ => fun
  | [d1, d2] => { results := [.lit (.bool true)], args := [d1, d2] }
  | _ => none }
def resyncPortionsRow : OpenClaim := { program := "ytkihoonjekccgaadoor", sum := "7f17a0854efac589124c921fe6ba8cbf9abd49152e856e182d62331ad6c8cd35", func := "lamplight/lamplightlaw05.ResyncPortions", spec := "resyncPortions", unfollowed := true, recurses := true, named := ["bytes.ErrTooLarge", "lamplight/crc.turns"], apart := false, laid := [("bytes.ErrTooLarge", laid_bytes_ErrTooLarge), ("lamplight/crc.turns", laid_lamplight_crc_turns)] }
def ResyncPortionsSaid : Prop := resyncPortionsRow.holds Tryd.pinned (OpenSpec.ofChange resyncPortionsSpec)

/-- ITS FALSE NEIGHBOUR: 'it returns false'. Refute it at one input. -/
def resyncPortionsWrong : ChangeSpec := { name := "resyncPortions", fn := fun _ => fun
  | [d1, d2] => { results := [.lit (.bool false)], args := [d1, d2] }
  | _ => none }
def ResyncPortionsWrongFalsely : Prop := resyncPortionsRow.holds Tryd.pinned (OpenSpec.ofChange resyncPortionsWrong)

/-- 'lamplightlaw05.ResyncThrough': WHATEVER THE INPUT: true; the input reads as it did. -/
def resyncThroughSpec : ChangeSpec := { name := "resyncThrough", fn := fun _ => fun
  | [d1, d2, d3] => { results := [.lit (.bool true)], args := [d1, d2, d3] }
  | _ => none }
def resyncThroughRow : OpenClaim := { program := "ytkihoonjekccgaadoor", sum := "7f17a0854efac589124c921fe6ba8cbf9abd49152e856e182d62331ad6c8cd35", func := "lamplight/lamplightlaw05.ResyncThrough", spec := "resyncThrough", unfollowed := true, recurses := true, named := ["bytes.ErrTooLarge", "lamplight/crc.turns"], apart := false, laid := [("bytes.ErrTooLarge", laid_bytes_ErrTooLarge), ("lamplight/crc.turns", laid_lamplight_crc_turns)] }
def ResyncThroughSaid : Prop := resyncThroughRow.holds Tryd.pinned (OpenSpec.ofChange resyncThroughSpec)

/-- ITS FALSE NEIGHBOUR: 'it returns false'. Refute it at one input. -/
def resyncThroughWrong : ChangeSpec := { name := "resyncThrough", fn := fun _ => fun
  | [d1, d2, d3] => { results := [.lit (.bool false)], args := [d1, d2, d3] }
  | _ => none }
def ResyncThroughWrongFalsely : Prop := resyncThroughRow.holds Tryd.pinned (OpenSpec.ofChange resyncThroughWrong)

/-- 'lamplightlaw05.ResyncBounds': WHATEVER THE INPUT: true; the input reads as it did. -/
def resyncBoundsSpec : ChangeSpec := { name := "resyncBounds", fn := fun _ => fun
  | [d1, d2] => { results := [.lit (.bool true)], args := [d1, d2] }
  | _ => none }
def resyncBoundsRow : OpenClaim := { program := "ytkihoonjekccgaadoor", sum := "7f17a0854efac589124c921fe6ba8cbf9abd49152e856e182d62331ad6c8cd35", func := "lamplight/lamplightlaw05.ResyncBounds", spec := "resyncBounds", unfollowed := true, recurses := true, named := ["bytes.ErrTooLarge", "lamplight/crc.turns"], apart := false, laid := [("bytes.ErrTooLarge", laid_bytes_ErrTooLarge), ("lamplight/crc.turns", laid_lamplight_crc_turns)] }
def ResyncBoundsSaid : Prop := resyncBoundsRow.holds Tryd.pinned (OpenSpec.ofChange resyncBoundsSpec)

/-- ITS FALSE NEIGHBOUR: 'it returns false'. Refute it at one input. -/
def resyncBoundsWrong : ChangeSpec := { name := "resyncBounds", fn := fun _ => fun
  | [d1, d2] => { results := [.lit (.bool false)], args := [d1, d2] }
  | _ => none }
def ResyncBoundsWrongFalsely : Prop := resyncBoundsRow.holds Tryd.pinned (OpenSpec.ofChange resyncBoundsWrong)

/-- 'lamplightlaw05.ResyncCounts': WHATEVER THE INPUT: true; the input reads as it did. -/
def resyncCountsSpec : ChangeSpec := { name := "resyncCounts", fn := fun _ => fun
  | [d] => { results := [.lit (.bool true)], args := [d] }
  | _ => none }
def resyncCountsRow : OpenClaim := { program := "ytkihoonjekccgaadoor", sum := "7f17a0854efac589124c921fe6ba8cbf9abd49152e856e182d62331ad6c8cd35", func := "lamplight/lamplightlaw05.ResyncCounts", spec := "resyncCounts", unfollowed := true, recurses := true, named := ["bytes.ErrTooLarge", "lamplight/crc.turns"], apart := false, laid := [("bytes.ErrTooLarge", laid_bytes_ErrTooLarge), ("lamplight/crc.turns", laid_lamplight_crc_turns)] }
def ResyncCountsSaid : Prop := resyncCountsRow.holds Tryd.pinned (OpenSpec.ofChange resyncCountsSpec)

/-- ITS FALSE NEIGHBOUR: 'it returns false'. Refute it at one input. -/
def resyncCountsWrong : ChangeSpec := { name := "resyncCounts", fn := fun _ => fun
  | [d] => { results := [.lit (.bool false)], args := [d] }
  | _ => none }
def ResyncCountsWrongFalsely : Prop := resyncCountsRow.holds Tryd.pinned (OpenSpec.ofChange resyncCountsWrong)

/-- 'lamplightlaw05.ResyncApart': WHATEVER THE INPUT: true; the input reads as it did. -/
def resyncApartSpec : ChangeSpec := { name := "resyncApart", fn := fun _ => fun
  | [d1, d2] => { results := [.lit (.bool true)], args := [d1, d2] }
  | _ => none }
def resyncApartRow : OpenClaim := { program := "ytkihoonjekccgaadoor", sum := "7f17a0854efac589124c921fe6ba8cbf9abd49152e856e182d62331ad6c8cd35", func := "lamplight/lamplightlaw05.ResyncApart", spec := "resyncApart", unfollowed := true, recurses := true, named := ["bytes.ErrTooLarge", "lamplight/crc.turns"], apart := false, laid := [("bytes.ErrTooLarge", laid_bytes_ErrTooLarge), ("lamplight/crc.turns", laid_lamplight_crc_turns)] }
def ResyncApartSaid : Prop := resyncApartRow.holds Tryd.pinned (OpenSpec.ofChange resyncApartSpec)

/-- ITS FALSE NEIGHBOUR: 'it returns false'. Refute it at one input. -/
def resyncApartWrong : ChangeSpec := { name := "resyncApart", fn := fun _ => fun
  | [d1, d2] => { results := [.lit (.bool false)], args := [d1, d2] }
  | _ => none }
def ResyncApartWrongFalsely : Prop := resyncApartRow.holds Tryd.pinned (OpenSpec.ofChange resyncApartWrong)

/- THE SECOND FORM. 'bulk': how many values and letters a reading holds, each counted each time it is reached (what is shared counts as often as it is met; a slice's spare places count too). A statement '..UptoSaid' is the law's where the arguments, and the package variables that the reading takes, are together of bulk at most 1048576: NARROWER than '..Said'. Prove '..Said' where nothing that the law and all that it calls make is longer than what came in: it says more and counts as full. Else prove '..UptoSaid'. A law counts once. -/
mutual
def uptoBulk {H : Type} : DataW H → Nat
  | .lit (.string bytes) => bytes.length + 1
  | .lit _ => 1
  | .nil => 1
  | .ptr d => uptoBulk d + 1
  | .slice elems spare => uptoBulkAll elems + uptoBulkAll spare + 1
  | .agg parts => uptoBulkAll parts + 1
  | .iface _ d => uptoBulk d + 1
  | .map entries => uptoBulkEntries entries + 1
  | .held _ => 1
def uptoBulkAll {H : Type} : List (DataW H) → Nat
  | [] => 0
  | d :: r => uptoBulk d + uptoBulkAll r
def uptoBulkEntries {H : Type} : List (Lit × DataW H) → Nat
  | [] => 0
  | x :: r => uptoBulkEntry x + uptoBulkEntries r
def uptoBulkEntry {H : Type} : Lit × DataW H → Nat
  | (.string bytes, d) => bytes.length + uptoBulk d + 1
  | (_, d) => uptoBulk d + 1
 end
def uptoSmall : (H : Type) → List (DataW H) → Bool := fun _ ds => decide (uptoBulkAll ds ≤ 1048576)
def OpenSpec.upto (s : _root_.Go.ChangeSpec) : _root_.Go.OpenSpec := { _root_.Go.OpenSpec.ofChange s with cond := some uptoSmall }

/-- 'lamplightlaw05.ResyncTells', WHERE WHAT IT READS IS OF BULK AT MOST 1048576: true; the input reads as it did. -/
def resyncTellsUptoRow : OpenClaim := { program := "ytkihoonjekccgaadoor", sum := "7f17a0854efac589124c921fe6ba8cbf9abd49152e856e182d62331ad6c8cd35", func := "lamplight/lamplightlaw05.ResyncTells", spec := "resyncTells", unfollowed := true, recurses := true, named := ["bytes.ErrTooLarge", "lamplight/crc.turns"], apart := false, laid := [("bytes.ErrTooLarge", laid_bytes_ErrTooLarge), ("lamplight/crc.turns", laid_lamplight_crc_turns)], narrowed := true }
def ResyncTellsUptoSaid : Prop := resyncTellsUptoRow.holds Tryd.pinned (OpenSpec.upto resyncTellsSpec)

/-- 'lamplightlaw05.ResyncPortions', WHERE WHAT IT READS IS OF BULK AT MOST 1048576: true; the input reads as it did. -/
def resyncPortionsUptoRow : OpenClaim := { program := "ytkihoonjekccgaadoor", sum := "7f17a0854efac589124c921fe6ba8cbf9abd49152e856e182d62331ad6c8cd35", func := "lamplight/lamplightlaw05.ResyncPortions", spec := "resyncPortions", unfollowed := true, recurses := true, named := ["bytes.ErrTooLarge", "lamplight/crc.turns"], apart := false, laid := [("bytes.ErrTooLarge", laid_bytes_ErrTooLarge), ("lamplight/crc.turns", laid_lamplight_crc_turns)], narrowed := true }
def ResyncPortionsUptoSaid : Prop := resyncPortionsUptoRow.holds Tryd.pinned (OpenSpec.upto resyncPortionsSpec)

/-- 'lamplightlaw05.ResyncThrough', WHERE WHAT IT READS IS OF BULK AT MOST 1048576: true; the input reads as it did. -/
def resyncThroughUptoRow : OpenClaim := { program := "ytkihoonjekccgaadoor", sum := "7f17a0854efac589124c921fe6ba8cbf9abd49152e856e182d62331ad6c8cd35", func := "lamplight/lamplightlaw05.ResyncThrough", spec := "resyncThrough", unfollowed := true, recurses := true, named := ["bytes.ErrTooLarge", "lamplight/crc.turns"], apart := false, laid := [("bytes.ErrTooLarge", laid_bytes_ErrTooLarge), ("lamplight/crc.turns", laid_lamplight_crc_turns)], narrowed := true }
def ResyncThroughUptoSaid : Prop := resyncThroughUptoRow.holds Tryd.pinned (OpenSpec.upto resyncThroughSpec)

/-- 'lamplightlaw05.ResyncBounds', WHERE WHAT IT READS IS OF BULK AT MOST 1048576: true; the input reads as it did. -/
def resyncBoundsUptoRow : OpenClaim := { program := "ytkihoonjekccgaadoor", sum := "7f17a0854efac589124c921fe6ba8cbf9abd49152e856e182d62331ad6c8cd35", func := "lamplight/lamplightlaw05.ResyncBounds", spec := "resyncBounds", unfollowed := true, recurses := true, named := ["bytes.ErrTooLarge", "lamplight/crc.turns"], apart := false, laid := [("bytes.ErrTooLarge", laid_bytes_ErrTooLarge), ("lamplight/crc.turns", laid_lamplight_crc_turns)], narrowed := true }
def ResyncBoundsUptoSaid : Prop := resyncBoundsUptoRow.holds Tryd.pinned (OpenSpec.upto resyncBoundsSpec)

/-- 'lamplightlaw05.ResyncCounts', WHERE WHAT IT READS IS OF BULK AT MOST 1048576: true; the input reads as it did. -/
def resyncCountsUptoRow : OpenClaim := { program := "ytkihoonjekccgaadoor", sum := "7f17a0854efac589124c921fe6ba8cbf9abd49152e856e182d62331ad6c8cd35", func := "lamplight/lamplightlaw05.ResyncCounts", spec := "resyncCounts", unfollowed := true, recurses := true, named := ["bytes.ErrTooLarge", "lamplight/crc.turns"], apart := false, laid := [("bytes.ErrTooLarge", laid_bytes_ErrTooLarge), ("lamplight/crc.turns", laid_lamplight_crc_turns)], narrowed := true }
def ResyncCountsUptoSaid : Prop := resyncCountsUptoRow.holds Tryd.pinned (OpenSpec.upto resyncCountsSpec)

/-- 'lamplightlaw05.ResyncApart', WHERE WHAT IT READS IS OF BULK AT MOST 1048576: true; the input reads as it did. -/
def resyncApartUptoRow : OpenClaim := { program := "ytkihoonjekccgaadoor", sum := "7f17a0854efac589124c921fe6ba8cbf9abd49152e856e182d62331ad6c8cd35", func := "lamplight/lamplightlaw05.ResyncApart", spec := "resyncApart", unfollowed := true, recurses := true, named := ["bytes.ErrTooLarge", "lamplight/crc.turns"], apart := false, laid := [("bytes.ErrTooLarge", laid_bytes_ErrTooLarge), ("lamplight/crc.turns", laid_lamplight_crc_turns)], narrowed := true }
def ResyncApartUptoSaid : Prop := resyncApartUptoRow.holds Tryd.pinned (OpenSpec.upto resyncApartSpec)

end Rows
end Go.Proofs.YtkihoonjekccgaaDoor
