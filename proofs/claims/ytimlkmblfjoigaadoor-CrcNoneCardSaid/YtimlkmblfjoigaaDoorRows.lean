/-
  NARROWER THAN 'FOR EVERY INPUT', by the rows' own cells (each row's printed sentence says how): CrcTells: laid · CrcWays: laid · CrcBursts: laid · CrcAppends: laid · CrcLinear: laid · CrcTwo: laid · CrcSame: laid · CrcByte: laid · CrcNone: laid.
  DERIVED. THE GIVEN ROWS OF THIS SEAT. 9 by the template 'for every input the law returns true; each argument reads behind the call as it read before'; 0 by the template 'total and deterministic' (their statements: YtimlkmblfjoigaaDoorTotals.lean).
  GIVEN WITH THE SEED: the statements are not yours to turn. If you find one false, say at which input.
  Laid BY PROGRAM, IN A SANDBOX (cutbox-rows.mjs): the forced cells as the released guide's own fill.sh prints them over the translation 6d3398e54e34423d… (all of the seat's roots in one cut). By AI agents, Wed Nov 11 2026. No macro, syntax, notation, axiom, sorry.
-/
import Derived.Test.YtimlkmblfjoigaaDoorChecked
import GoSem.Claim
import GoSem.ClaimJoined
import GoSem.ClaimMapViews
import Derived.JoinedTies
import Derived.KernelRfl
namespace Go.Proofs.YtimlkmblfjoigaaDoor
/- THE CELL 'sum', in the pinned program and in every row, IS THE sha256 OF THE DUMP (.gsa) THAT YtimlkmblfjoigaaDoorProg.lean LOADS. Nothing in Lean hashes anything: it is a label: what it is worth is what the hold of that sum in a sandbox is worth. -/
noncomputable def Tryd.pinned : Pinned := { name := "ytimlkmblfjoigaadoor", sum := "6d3398e54e34423d058cc4a392208a5781562e18977760021c4f31a18858f56a", checked := Tryd.checked }
namespace Rows
def none {H : Type} : Left H := { results := [], args := [] }

/- WHAT THE LISTED PACKAGE-LEVEL VARIABLES READ AS WHEN THE CALL BEGINS. Each datum BY PROGRAM (the guide's laid-datum.mjs) off the statement by which the dump's own 'gosem.cut.vars' lays the variable. In a bare row this is a premise. The card (YtimlkmblfjoigaaDoorCards.lean) ties it to the program's text. -/
def laid_bytes_ErrTooLarge {H : Type} : DataW H := .iface "*errors.errorString" (.ptr (.agg [.lit (.string [98, 121, 116, 101, 115, 46, 66, 117, 102, 102, 101, 114, 58, 32, 116, 111, 111, 32, 108, 97, 114, 103, 101])]))
def laid_lamplight_crc_turns {H : Type} : DataW H := .agg [.lit (.int .u16 0), .lit (.int .u16 4129), .lit (.int .u16 8258), .lit (.int .u16 12387), .lit (.int .u16 16516), .lit (.int .u16 20645), .lit (.int .u16 24774), .lit (.int .u16 28903), .lit (.int .u16 33032), .lit (.int .u16 37161), .lit (.int .u16 41290), .lit (.int .u16 45419), .lit (.int .u16 49548), .lit (.int .u16 53677), .lit (.int .u16 57806), .lit (.int .u16 61935)]

/-- 'lamplightlaw02.CrcTells': WHATEVER THE INPUT: true; the input reads as it did. -/
def crcTellsSpec : ChangeSpec := { name := "crcTells", fn := fun _ => fun
  | [d1, d2] => { results := [.lit (.bool true)], args := [d1, d2] }
  | _ => none }
def crcTellsRow : OpenClaim := { program := "ytimlkmblfjoigaadoor", sum := "6d3398e54e34423d058cc4a392208a5781562e18977760021c4f31a18858f56a", func := "lamplight/lamplightlaw02.CrcTells", spec := "crcTells", unfollowed := true, recurses := true, named := ["lamplight/crc.turns", "bytes.ErrTooLarge"], apart := false, laid := [("bytes.ErrTooLarge", laid_bytes_ErrTooLarge), ("lamplight/crc.turns", laid_lamplight_crc_turns)] }
def CrcTellsSaid : Prop := crcTellsRow.holds Tryd.pinned (OpenSpec.ofChange crcTellsSpec)

/-- ITS FALSE NEIGHBOUR: 'it returns false'. Refute it at one input. -/
def crcTellsWrong : ChangeSpec := { name := "crcTells", fn := fun _ => fun
  | [d1, d2] => { results := [.lit (.bool false)], args := [d1, d2] }
  | _ => none }
def CrcTellsWrongFalsely : Prop := crcTellsRow.holds Tryd.pinned (OpenSpec.ofChange crcTellsWrong)

/-- 'lamplightlaw02.CrcWays': WHATEVER THE INPUT: true; the input reads as it did. -/
def crcWaysSpec : ChangeSpec := { name := "crcWays", fn := fun _ => fun
  | [d1, d2] => { results := [.lit (.bool true)], args := [d1, d2] }
  | _ => none }
def crcWaysRow : OpenClaim := { program := "ytimlkmblfjoigaadoor", sum := "6d3398e54e34423d058cc4a392208a5781562e18977760021c4f31a18858f56a", func := "lamplight/lamplightlaw02.CrcWays", spec := "crcWays", unfollowed := true, recurses := true, named := ["lamplight/crc.turns", "bytes.ErrTooLarge"], apart := false, laid := [("bytes.ErrTooLarge", laid_bytes_ErrTooLarge), ("lamplight/crc.turns", laid_lamplight_crc_turns)] }
def CrcWaysSaid : Prop := crcWaysRow.holds Tryd.pinned (OpenSpec.ofChange crcWaysSpec)

/-- ITS FALSE NEIGHBOUR: 'it returns false'. Refute it at one input. -/
def crcWaysWrong : ChangeSpec := { name := "crcWays", fn := fun _ => fun
  | [d1, d2] => { results := [.lit (.bool false)], args := [d1, d2] }
  | _ => none }
def CrcWaysWrongFalsely : Prop := crcWaysRow.holds Tryd.pinned (OpenSpec.ofChange crcWaysWrong)

/-- 'lamplightlaw02.CrcBursts': WHATEVER THE INPUT: true; the input reads as it did. -/
def crcBurstsSpec : ChangeSpec := { name := "crcBursts", fn := fun _ => fun
  | [d1, d2, d3] => { results := [.lit (.bool true)], args := [d1, d2, d3] }
  | _ => none }
def crcBurstsRow : OpenClaim := { program := "ytimlkmblfjoigaadoor", sum := "6d3398e54e34423d058cc4a392208a5781562e18977760021c4f31a18858f56a", func := "lamplight/lamplightlaw02.CrcBursts", spec := "crcBursts", unfollowed := true, recurses := true, named := ["lamplight/crc.turns", "bytes.ErrTooLarge"], apart := false, laid := [("bytes.ErrTooLarge", laid_bytes_ErrTooLarge), ("lamplight/crc.turns", laid_lamplight_crc_turns)] }
def CrcBurstsSaid : Prop := crcBurstsRow.holds Tryd.pinned (OpenSpec.ofChange crcBurstsSpec)

/-- ITS FALSE NEIGHBOUR: 'it returns false'. Refute it at one input. -/
def crcBurstsWrong : ChangeSpec := { name := "crcBursts", fn := fun _ => fun
  | [d1, d2, d3] => { results := [.lit (.bool false)], args := [d1, d2, d3] }
  | _ => none }
def CrcBurstsWrongFalsely : Prop := crcBurstsRow.holds Tryd.pinned (OpenSpec.ofChange crcBurstsWrong)

/-- 'lamplightlaw02.CrcAppends': WHATEVER THE INPUT: true; the input reads as it did. -/
def crcAppendsSpec : ChangeSpec := { name := "crcAppends", fn := fun _ => fun
  | [d] => { results := [.lit (.bool true)], args := [d] }
  | _ => none }
def crcAppendsRow : OpenClaim := { program := "ytimlkmblfjoigaadoor", sum := "6d3398e54e34423d058cc4a392208a5781562e18977760021c4f31a18858f56a", func := "lamplight/lamplightlaw02.CrcAppends", spec := "crcAppends", unfollowed := true, recurses := true, named := ["lamplight/crc.turns", "bytes.ErrTooLarge"], apart := false, laid := [("bytes.ErrTooLarge", laid_bytes_ErrTooLarge), ("lamplight/crc.turns", laid_lamplight_crc_turns)] }
def CrcAppendsSaid : Prop := crcAppendsRow.holds Tryd.pinned (OpenSpec.ofChange crcAppendsSpec)

/-- ITS FALSE NEIGHBOUR: 'it returns false'. Refute it at one input. -/
def crcAppendsWrong : ChangeSpec := { name := "crcAppends", fn := fun _ => fun
  | [d] => { results := [.lit (.bool false)], args := [d] }
  | _ => none }
def CrcAppendsWrongFalsely : Prop := crcAppendsRow.holds Tryd.pinned (OpenSpec.ofChange crcAppendsWrong)

/-- 'lamplightlaw02.CrcLinear': WHATEVER THE INPUT: true; the input reads as it did. -/
def crcLinearSpec : ChangeSpec := { name := "crcLinear", fn := fun _ => fun
  | [d1, d2] => { results := [.lit (.bool true)], args := [d1, d2] }
  | _ => none }
def crcLinearRow : OpenClaim := { program := "ytimlkmblfjoigaadoor", sum := "6d3398e54e34423d058cc4a392208a5781562e18977760021c4f31a18858f56a", func := "lamplight/lamplightlaw02.CrcLinear", spec := "crcLinear", unfollowed := true, recurses := true, named := ["lamplight/crc.turns", "bytes.ErrTooLarge"], apart := false, laid := [("bytes.ErrTooLarge", laid_bytes_ErrTooLarge), ("lamplight/crc.turns", laid_lamplight_crc_turns)] }
def CrcLinearSaid : Prop := crcLinearRow.holds Tryd.pinned (OpenSpec.ofChange crcLinearSpec)

/-- ITS FALSE NEIGHBOUR: 'it returns false'. Refute it at one input. -/
def crcLinearWrong : ChangeSpec := { name := "crcLinear", fn := fun _ => fun
  | [d1, d2] => { results := [.lit (.bool false)], args := [d1, d2] }
  | _ => none }
def CrcLinearWrongFalsely : Prop := crcLinearRow.holds Tryd.pinned (OpenSpec.ofChange crcLinearWrong)

/-- 'lamplightlaw02.CrcTwo': WHATEVER THE INPUT: true; the input reads as it did. -/
def crcTwoSpec : ChangeSpec := { name := "crcTwo", fn := fun _ => fun
  | [d1, d2, d3] => { results := [.lit (.bool true)], args := [d1, d2, d3] }
  | _ => none }
def crcTwoRow : OpenClaim := { program := "ytimlkmblfjoigaadoor", sum := "6d3398e54e34423d058cc4a392208a5781562e18977760021c4f31a18858f56a", func := "lamplight/lamplightlaw02.CrcTwo", spec := "crcTwo", unfollowed := true, recurses := true, named := ["lamplight/crc.turns", "bytes.ErrTooLarge"], apart := false, laid := [("bytes.ErrTooLarge", laid_bytes_ErrTooLarge), ("lamplight/crc.turns", laid_lamplight_crc_turns)] }
def CrcTwoSaid : Prop := crcTwoRow.holds Tryd.pinned (OpenSpec.ofChange crcTwoSpec)

/-- ITS FALSE NEIGHBOUR: 'it returns false'. Refute it at one input. -/
def crcTwoWrong : ChangeSpec := { name := "crcTwo", fn := fun _ => fun
  | [d1, d2, d3] => { results := [.lit (.bool false)], args := [d1, d2, d3] }
  | _ => none }
def CrcTwoWrongFalsely : Prop := crcTwoRow.holds Tryd.pinned (OpenSpec.ofChange crcTwoWrong)

/-- 'lamplightlaw02.CrcSame': WHATEVER THE INPUT: true; the input reads as it did. -/
def crcSameSpec : ChangeSpec := { name := "crcSame", fn := fun _ => fun
  | [d] => { results := [.lit (.bool true)], args := [d] }
  | _ => none }
def crcSameRow : OpenClaim := { program := "ytimlkmblfjoigaadoor", sum := "6d3398e54e34423d058cc4a392208a5781562e18977760021c4f31a18858f56a", func := "lamplight/lamplightlaw02.CrcSame", spec := "crcSame", unfollowed := true, recurses := true, named := ["lamplight/crc.turns", "bytes.ErrTooLarge"], apart := false, laid := [("bytes.ErrTooLarge", laid_bytes_ErrTooLarge), ("lamplight/crc.turns", laid_lamplight_crc_turns)] }
def CrcSameSaid : Prop := crcSameRow.holds Tryd.pinned (OpenSpec.ofChange crcSameSpec)

/-- ITS FALSE NEIGHBOUR: 'it returns false'. Refute it at one input. -/
def crcSameWrong : ChangeSpec := { name := "crcSame", fn := fun _ => fun
  | [d] => { results := [.lit (.bool false)], args := [d] }
  | _ => none }
def CrcSameWrongFalsely : Prop := crcSameRow.holds Tryd.pinned (OpenSpec.ofChange crcSameWrong)

/-- 'lamplightlaw02.CrcByte': WHATEVER THE INPUT: true; the input reads as it did. -/
def crcByteSpec : ChangeSpec := { name := "crcByte", fn := fun _ => fun
  | [d1, d2, d3] => { results := [.lit (.bool true)], args := [d1, d2, d3] }
  | _ => none }
def crcByteRow : OpenClaim := { program := "ytimlkmblfjoigaadoor", sum := "6d3398e54e34423d058cc4a392208a5781562e18977760021c4f31a18858f56a", func := "lamplight/lamplightlaw02.CrcByte", spec := "crcByte", unfollowed := true, recurses := true, named := ["lamplight/crc.turns", "bytes.ErrTooLarge"], apart := false, laid := [("bytes.ErrTooLarge", laid_bytes_ErrTooLarge), ("lamplight/crc.turns", laid_lamplight_crc_turns)] }
def CrcByteSaid : Prop := crcByteRow.holds Tryd.pinned (OpenSpec.ofChange crcByteSpec)

/-- ITS FALSE NEIGHBOUR: 'it returns false'. Refute it at one input. -/
def crcByteWrong : ChangeSpec := { name := "crcByte", fn := fun _ => fun
  | [d1, d2, d3] => { results := [.lit (.bool false)], args := [d1, d2, d3] }
  | _ => none }
def CrcByteWrongFalsely : Prop := crcByteRow.holds Tryd.pinned (OpenSpec.ofChange crcByteWrong)

/-- 'lamplightlaw02.CrcNone': WHATEVER THE INPUT: true; the input reads as it did. -/
def crcNoneSpec : ChangeSpec := { name := "crcNone", fn := fun _ => fun
  | [d1, d2, d3] => { results := [.lit (.bool true)], args := [d1, d2, d3] }
  | _ => none }
def crcNoneRow : OpenClaim := { program := "ytimlkmblfjoigaadoor", sum := "6d3398e54e34423d058cc4a392208a5781562e18977760021c4f31a18858f56a", func := "lamplight/lamplightlaw02.CrcNone", spec := "crcNone", unfollowed := true, recurses := true, named := ["lamplight/crc.turns", "bytes.ErrTooLarge"], apart := false, laid := [("bytes.ErrTooLarge", laid_bytes_ErrTooLarge), ("lamplight/crc.turns", laid_lamplight_crc_turns)] }
def CrcNoneSaid : Prop := crcNoneRow.holds Tryd.pinned (OpenSpec.ofChange crcNoneSpec)

/-- ITS FALSE NEIGHBOUR: 'it returns false'. Refute it at one input. -/
def crcNoneWrong : ChangeSpec := { name := "crcNone", fn := fun _ => fun
  | [d1, d2, d3] => { results := [.lit (.bool false)], args := [d1, d2, d3] }
  | _ => none }
def CrcNoneWrongFalsely : Prop := crcNoneRow.holds Tryd.pinned (OpenSpec.ofChange crcNoneWrong)

/- THE SECOND FORM. 'bulk': how many values and letters a reading holds, each counted each time it is reached (what is shared counts as often as it is met; a slice's spare places count too). A statement '..UptoSaid' is the law's where the arguments, and the package variables that the reading takes, are together of bulk at most 1048576: NARROWER than '..Said'. Prove '..Said' where nothing that the law and all that it calls make is longer than what came in: it says more and counts as full. Else prove '..UptoSaid'. A law counts once. -/
mutual
def uptoBulk {H : Type} : DataW H → Nat
  | .lit (.string bytes) => bytes.length + 1
  | .lit _ => 1
  | .nil => 1
  | .ptr d => uptoBulk d + 1
  | .slice elems spare => uptoBulkAll elems + uptoBulkAll spare + 1
  | .agg parts => uptoBulkAll parts + 1
  | .iface _ d => uptoBulk d + 1
  | .map entries => uptoBulkEntries entries + 1
  | .held _ => 1
def uptoBulkAll {H : Type} : List (DataW H) → Nat
  | [] => 0
  | d :: r => uptoBulk d + uptoBulkAll r
def uptoBulkEntries {H : Type} : List (Lit × DataW H) → Nat
  | [] => 0
  | x :: r => uptoBulkEntry x + uptoBulkEntries r
def uptoBulkEntry {H : Type} : Lit × DataW H → Nat
  | (.string bytes, d) => bytes.length + uptoBulk d + 1
  | (_, d) => uptoBulk d + 1
 end
def uptoSmall : (H : Type) → List (DataW H) → Bool := fun _ ds => decide (uptoBulkAll ds ≤ 1048576)
def OpenSpec.upto (s : _root_.Go.ChangeSpec) : _root_.Go.OpenSpec := { _root_.Go.OpenSpec.ofChange s with cond := some uptoSmall }

/-- 'lamplightlaw02.CrcTells', WHERE WHAT IT READS IS OF BULK AT MOST 1048576: true; the input reads as it did. -/
def crcTellsUptoRow : OpenClaim := { program := "ytimlkmblfjoigaadoor", sum := "6d3398e54e34423d058cc4a392208a5781562e18977760021c4f31a18858f56a", func := "lamplight/lamplightlaw02.CrcTells", spec := "crcTells", unfollowed := true, recurses := true, named := ["lamplight/crc.turns", "bytes.ErrTooLarge"], apart := false, laid := [("bytes.ErrTooLarge", laid_bytes_ErrTooLarge), ("lamplight/crc.turns", laid_lamplight_crc_turns)], narrowed := true }
def CrcTellsUptoSaid : Prop := crcTellsUptoRow.holds Tryd.pinned (OpenSpec.upto crcTellsSpec)

/-- 'lamplightlaw02.CrcWays', WHERE WHAT IT READS IS OF BULK AT MOST 1048576: true; the input reads as it did. -/
def crcWaysUptoRow : OpenClaim := { program := "ytimlkmblfjoigaadoor", sum := "6d3398e54e34423d058cc4a392208a5781562e18977760021c4f31a18858f56a", func := "lamplight/lamplightlaw02.CrcWays", spec := "crcWays", unfollowed := true, recurses := true, named := ["lamplight/crc.turns", "bytes.ErrTooLarge"], apart := false, laid := [("bytes.ErrTooLarge", laid_bytes_ErrTooLarge), ("lamplight/crc.turns", laid_lamplight_crc_turns)], narrowed := true }
def CrcWaysUptoSaid : Prop := crcWaysUptoRow.holds Tryd.pinned (OpenSpec.upto crcWaysSpec)

/-- 'lamplightlaw02.CrcBursts', WHERE WHAT IT READS IS OF BULK AT MOST 1048576: true; the input reads as it did. -/
def crcBurstsUptoRow : OpenClaim := { program := "ytimlkmblfjoigaadoor", sum := "6d3398e54e34423d058cc4a392208a5781562e18977760021c4f31a18858f56a", func := "lamplight/lamplightlaw02.CrcBursts", spec := "crcBursts", unfollowed := true, recurses := true, named := ["lamplight/crc.turns", "bytes.ErrTooLarge"], apart := false, laid := [("bytes.ErrTooLarge", laid_bytes_ErrTooLarge), ("lamplight/crc.turns", laid_lamplight_crc_turns)], narrowed := true }
def CrcBurstsUptoSaid : Prop := crcBurstsUptoRow.holds Tryd.pinned (OpenSpec.upto crcBurstsSpec)

/-- 'lamplightlaw02.CrcAppends', WHERE WHAT IT READS IS OF BULK AT MOST 1048576: true; the input reads as it did. -/
def crcAppendsUptoRow : OpenClaim := { program := "ytimlkmblfjoigaadoor", sum := "6d3398e54e34423d058cc4a392208a5781562e18977760021c4f31a18858f56a", func := "lamplight/lamplightlaw02.CrcAppends", spec := "crcAppends", unfollowed := true, recurses := true, named := ["lamplight/crc.turns", "bytes.ErrTooLarge"], apart := false, laid := [("bytes.ErrTooLarge", laid_bytes_ErrTooLarge), ("lamplight/crc.turns", laid_lamplight_crc_turns)], narrowed := true }
def CrcAppendsUptoSaid : Prop := crcAppendsUptoRow.holds Tryd.pinned (OpenSpec.upto crcAppendsSpec)

/-- 'lamplightlaw02.CrcLinear', WHERE WHAT IT READS IS OF BULK AT MOST 1048576: true; the input reads as it did. -/
def crcLinearUptoRow : OpenClaim := { program := "ytimlkmblfjoigaadoor", sum := "6d3398e54e34423d058cc4a392208a5781562e18977760021c4f31a18858f56a", func := "lamplight/lamplightlaw02.CrcLinear", spec := "crcLinear", unfollowed := true, recurses := true, named := ["lamplight/crc.turns", "bytes.ErrTooLarge"], apart := false, laid := [("bytes.ErrTooLarge", laid_bytes_ErrTooLarge), ("lamplight/crc.turns", laid_lamplight_crc_turns)], narrowed := true }
def CrcLinearUptoSaid : Prop := crcLinearUptoRow.holds Tryd.pinned (OpenSpec.upto crcLinearSpec)

/-- 'lamplightlaw02.CrcTwo', WHERE WHAT IT READS IS OF BULK AT MOST 1048576: true; the input reads as it did. -/
def crcTwoUptoRow : OpenClaim := { program := "ytimlkmblfjoigaadoor", sum := "6d3398e54e34423d058cc4a392208a5781562e18977760021c4f31a18858f56a", func := "lamplight/lamplightlaw02.CrcTwo", spec := "crcTwo", unfollowed := true, recurses := true, named := ["lamplight/crc.turns", "bytes.ErrTooLarge"], apart := false, laid := [("bytes.ErrTooLarge", laid_bytes_ErrTooLarge), ("lamplight/crc.turns", laid_lamplight_crc_turns)], narrowed := true }
def CrcTwoUptoSaid : Prop := crcTwoUptoRow.holds Tryd.pinned (OpenSpec.upto crcTwoSpec)

/-- 'lamplightlaw02.CrcSame', WHERE WHAT IT READS IS OF BULK AT MOST 1048576: true; the input reads as it did. -/
def crcSameUptoRow : OpenClaim := { program := "ytimlkmblfjoigaadoor", sum := "6d3398e54e34423d058cc4a392208a5781562e18977760021c4f31a18858f56a", func := "lamplight/lamplightlaw02.CrcSame", spec := "crcSame", unfollowed := true, recurses := true, named := ["lamplight/crc.turns", "bytes.ErrTooLarge"], apart := false, laid := [("bytes.ErrTooLarge", laid_bytes_ErrTooLarge), ("lamplight/crc.turns", laid_lamplight_crc_turns)], narrowed := true }
def CrcSameUptoSaid : Prop := crcSameUptoRow.holds Tryd.pinned (OpenSpec.upto crcSameSpec)

/-- 'lamplightlaw02.CrcByte', WHERE WHAT IT READS IS OF BULK AT MOST 1048576: true; the input reads as it did. -/
def crcByteUptoRow : OpenClaim := { program := "ytimlkmblfjoigaadoor", sum := "6d3398e54e34423d058cc4a392208a5781562e18977760021c4f31a18858f56a", func := "lamplight/lamplightlaw02.CrcByte", spec := "crcByte", unfollowed := true, recurses := true, named := ["lamplight/crc.turns", "bytes.ErrTooLarge"], apart := false, laid := [("bytes.ErrTooLarge", laid_bytes_ErrTooLarge), ("lamplight/crc.turns", laid_lamplight_crc_turns)], narrowed := true }
def CrcByteUptoSaid : Prop := crcByteUptoRow.holds Tryd.pinned (OpenSpec.upto crcByteSpec)

/-- 'lamplightlaw02.CrcNone', WHERE WHAT IT READS IS OF BULK AT MOST 1048576: true; the input reads as it did. -/
def crcNoneUptoRow : OpenClaim := { program := "ytimlkmblfjoigaadoor", sum := "6d3398e54e34423d058cc4a392208a5781562e18977760021c4f31a18858f56a", func := "lamplight/lamplightlaw02.CrcNone", spec := "crcNone", unfollowed := true, recurses := true, named := ["lamplight/crc.turns", "bytes.ErrTooLarge"], apart := false, laid := [("bytes.ErrTooLarge", laid_bytes_ErrTooLarge), ("lamplight/crc.turns", laid_lamplight_crc_turns)], narrowed := true }
def CrcNoneUptoSaid : Prop := crcNoneUptoRow.holds Tryd.pinned (OpenSpec.upto crcNoneSpec)

end Rows
end Go.Proofs.YtimlkmblfjoigaaDoor
