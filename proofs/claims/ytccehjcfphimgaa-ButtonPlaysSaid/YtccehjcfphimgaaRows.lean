/-
  No cell of these rows narrows 'for every input' (looked for: loops, veiled, ifaces, maps, wideKeys, modest, calm, conditions, laid).
  DERIVED. THE GIVEN ROWS OF THIS SEAT. 7 by the template 'for every input the law returns true; each argument reads behind the call as it read before'; 0 by the template 'total and deterministic' (their statements: YtccehjcfphimgaaTotals.lean).
  GIVEN WITH THE SEED: the statements are not yours to turn. If you find one false, say at which input.
  Laid BY PROGRAM, IN A SANDBOX (cutbox-rows.mjs): the forced cells as the released guide's own fill.sh prints them over the translation e6baf90302c75b29… (all of the seat's roots in one cut). By AI agents, Wed Nov 11 2026. No macro, syntax, notation, axiom, sorry.
-/
import Derived.Test.YtccehjcfphimgaaChecked
import GoSem.Claim
import GoSem.ClaimJoined
import GoSem.ClaimMapViews
import Derived.JoinedTies
import Derived.KernelRfl
namespace Go.Proofs.Ytccehjcfphimgaa
/- THE CELL 'sum', in the pinned program and in every row, IS THE sha256 OF THE DUMP (.gsa) THAT YtccehjcfphimgaaProg.lean LOADS. Nothing in Lean hashes anything: it is a label: what it is worth is what the hold of that sum in a sandbox is worth. -/
noncomputable def Try.pinned : Pinned := { name := "ytccehjcfphimgaa", sum := "e6baf90302c75b294ba222a08afc722a4e7f9715531d7d3752fd41ee100d4541", checked := Try.checked }
namespace Rows
def none {H : Type} : Left H := { results := [], args := [] }

/-- 'lamplightlaw10.ButtonPlays': WHATEVER THE INPUT: true; the input reads as it did. -/
def buttonPlaysSpec : ChangeSpec := { name := "buttonPlays", fn := fun _ => fun
  | [d] => { results := [.lit (.bool true)], args := [d] }
  | _ => none }
def buttonPlaysRow : OpenClaim := { program := "ytccehjcfphimgaa", sum := "e6baf90302c75b294ba222a08afc722a4e7f9715531d7d3752fd41ee100d4541", func := "lamplight/lamplightlaw10.ButtonPlays", spec := "buttonPlays", apart := false }
def ButtonPlaysSaid : Prop := buttonPlaysRow.holds Try.pinned (OpenSpec.ofChange buttonPlaysSpec)

/-- ITS FALSE NEIGHBOUR: 'it returns false'. Refute it at one input. -/
def buttonPlaysWrong : ChangeSpec := { name := "buttonPlays", fn := fun _ => fun
  | [d] => { results := [.lit (.bool false)], args := [d] }
  | _ => none }
def ButtonPlaysWrongFalsely : Prop := buttonPlaysRow.holds Try.pinned (OpenSpec.ofChange buttonPlaysWrong)

/-- 'lamplightlaw10.ButtonOnce': WHATEVER THE INPUT: true; the input reads as it did. -/
def buttonOnceSpec : ChangeSpec := { name := "buttonOnce", fn := fun _ => fun
  | [d1, d2, d3] => { results := [.lit (.bool true)], args := [d1, d2, d3] }
  | _ => none }
def buttonOnceRow : OpenClaim := { program := "ytccehjcfphimgaa", sum := "e6baf90302c75b294ba222a08afc722a4e7f9715531d7d3752fd41ee100d4541", func := "lamplight/lamplightlaw10.ButtonOnce", spec := "buttonOnce", apart := false }
def ButtonOnceSaid : Prop := buttonOnceRow.holds Try.pinned (OpenSpec.ofChange buttonOnceSpec)

/-- ITS FALSE NEIGHBOUR: 'it returns false'. Refute it at one input. -/
def buttonOnceWrong : ChangeSpec := { name := "buttonOnce", fn := fun _ => fun
  | [d1, d2, d3] => { results := [.lit (.bool false)], args := [d1, d2, d3] }
  | _ => none }
def ButtonOnceWrongFalsely : Prop := buttonOnceRow.holds Try.pinned (OpenSpec.ofChange buttonOnceWrong)

/-- 'lamplightlaw10.ButtonApart': WHATEVER THE INPUT: true; the input reads as it did. -/
def buttonApartSpec : ChangeSpec := { name := "buttonApart", fn := fun _ => fun
  | [d1, d2] => { results := [.lit (.bool true)], args := [d1, d2] }
  | _ => none }
def buttonApartRow : OpenClaim := { program := "ytccehjcfphimgaa", sum := "e6baf90302c75b294ba222a08afc722a4e7f9715531d7d3752fd41ee100d4541", func := "lamplight/lamplightlaw10.ButtonApart", spec := "buttonApart", apart := false }
def ButtonApartSaid : Prop := buttonApartRow.holds Try.pinned (OpenSpec.ofChange buttonApartSpec)

/-- ITS FALSE NEIGHBOUR: 'it returns false'. Refute it at one input. -/
def buttonApartWrong : ChangeSpec := { name := "buttonApart", fn := fun _ => fun
  | [d1, d2] => { results := [.lit (.bool false)], args := [d1, d2] }
  | _ => none }
def ButtonApartWrongFalsely : Prop := buttonApartRow.holds Try.pinned (OpenSpec.ofChange buttonApartWrong)

/-- 'lamplightlaw10.ButtonMoved': WHATEVER THE INPUT: true; the input reads as it did. -/
def buttonMovedSpec : ChangeSpec := { name := "buttonMoved", fn := fun _ => fun
  | [d1, d2] => { results := [.lit (.bool true)], args := [d1, d2] }
  | _ => none }
def buttonMovedRow : OpenClaim := { program := "ytccehjcfphimgaa", sum := "e6baf90302c75b294ba222a08afc722a4e7f9715531d7d3752fd41ee100d4541", func := "lamplight/lamplightlaw10.ButtonMoved", spec := "buttonMoved", apart := false }
def ButtonMovedSaid : Prop := buttonMovedRow.holds Try.pinned (OpenSpec.ofChange buttonMovedSpec)

/-- ITS FALSE NEIGHBOUR: 'it returns false'. Refute it at one input. -/
def buttonMovedWrong : ChangeSpec := { name := "buttonMoved", fn := fun _ => fun
  | [d1, d2] => { results := [.lit (.bool false)], args := [d1, d2] }
  | _ => none }
def ButtonMovedWrongFalsely : Prop := buttonMovedRow.holds Try.pinned (OpenSpec.ofChange buttonMovedWrong)

/-- 'lamplightlaw10.ButtonShort': WHATEVER THE INPUT: true; the input reads as it did. -/
def buttonShortSpec : ChangeSpec := { name := "buttonShort", fn := fun _ => fun
  | [d1, d2] => { results := [.lit (.bool true)], args := [d1, d2] }
  | _ => none }
def buttonShortRow : OpenClaim := { program := "ytccehjcfphimgaa", sum := "e6baf90302c75b294ba222a08afc722a4e7f9715531d7d3752fd41ee100d4541", func := "lamplight/lamplightlaw10.ButtonShort", spec := "buttonShort", apart := false }
def ButtonShortSaid : Prop := buttonShortRow.holds Try.pinned (OpenSpec.ofChange buttonShortSpec)

/-- ITS FALSE NEIGHBOUR: 'it returns false'. Refute it at one input. -/
def buttonShortWrong : ChangeSpec := { name := "buttonShort", fn := fun _ => fun
  | [d1, d2] => { results := [.lit (.bool false)], args := [d1, d2] }
  | _ => none }
def ButtonShortWrongFalsely : Prop := buttonShortRow.holds Try.pinned (OpenSpec.ofChange buttonShortWrong)

/-- 'lamplightlaw10.ButtonHeld': WHATEVER THE INPUT: true; the input reads as it did. -/
def buttonHeldSpec : ChangeSpec := { name := "buttonHeld", fn := fun _ => fun
  | [d1, d2, d3] => { results := [.lit (.bool true)], args := [d1, d2, d3] }
  | _ => none }
def buttonHeldRow : OpenClaim := { program := "ytccehjcfphimgaa", sum := "e6baf90302c75b294ba222a08afc722a4e7f9715531d7d3752fd41ee100d4541", func := "lamplight/lamplightlaw10.ButtonHeld", spec := "buttonHeld", apart := false }
def ButtonHeldSaid : Prop := buttonHeldRow.holds Try.pinned (OpenSpec.ofChange buttonHeldSpec)

/-- ITS FALSE NEIGHBOUR: 'it returns false'. Refute it at one input. -/
def buttonHeldWrong : ChangeSpec := { name := "buttonHeld", fn := fun _ => fun
  | [d1, d2, d3] => { results := [.lit (.bool false)], args := [d1, d2, d3] }
  | _ => none }
def ButtonHeldWrongFalsely : Prop := buttonHeldRow.holds Try.pinned (OpenSpec.ofChange buttonHeldWrong)

/-- 'lamplightlaw10.ButtonAgain': WHATEVER THE INPUT: true; the input reads as it did. -/
def buttonAgainSpec : ChangeSpec := { name := "buttonAgain", fn := fun _ => fun
  | [d1, d2] => { results := [.lit (.bool true)], args := [d1, d2] }
  | _ => none }
def buttonAgainRow : OpenClaim := { program := "ytccehjcfphimgaa", sum := "e6baf90302c75b294ba222a08afc722a4e7f9715531d7d3752fd41ee100d4541", func := "lamplight/lamplightlaw10.ButtonAgain", spec := "buttonAgain", apart := false }
def ButtonAgainSaid : Prop := buttonAgainRow.holds Try.pinned (OpenSpec.ofChange buttonAgainSpec)

/-- ITS FALSE NEIGHBOUR: 'it returns false'. Refute it at one input. -/
def buttonAgainWrong : ChangeSpec := { name := "buttonAgain", fn := fun _ => fun
  | [d1, d2] => { results := [.lit (.bool false)], args := [d1, d2] }
  | _ => none }
def ButtonAgainWrongFalsely : Prop := buttonAgainRow.holds Try.pinned (OpenSpec.ofChange buttonAgainWrong)

/- THE SECOND FORM. 'bulk': how many values and letters a reading holds, each counted each time it is reached (what is shared counts as often as it is met; a slice's spare places count too). A statement '..UptoSaid' is the law's where the arguments, and the package variables that the reading takes, are together of bulk at most 1048576: NARROWER than '..Said'. Prove '..Said' where nothing that the law and all that it calls make is longer than what came in: it says more and counts as full. Else prove '..UptoSaid'. A law counts once. -/
mutual
def uptoBulk {H : Type} : DataW H → Nat
  | .lit (.string bytes) => bytes.length + 1
  | .lit _ => 1
  | .nil => 1
  | .ptr d => uptoBulk d + 1
  | .slice elems spare => uptoBulkAll elems + uptoBulkAll spare + 1
  | .agg parts => uptoBulkAll parts + 1
  | .iface _ d => uptoBulk d + 1
  | .map entries => uptoBulkEntries entries + 1
  | .held _ => 1
def uptoBulkAll {H : Type} : List (DataW H) → Nat
  | [] => 0
  | d :: r => uptoBulk d + uptoBulkAll r
def uptoBulkEntries {H : Type} : List (Lit × DataW H) → Nat
  | [] => 0
  | x :: r => uptoBulkEntry x + uptoBulkEntries r
def uptoBulkEntry {H : Type} : Lit × DataW H → Nat
  | (.string bytes, d) => bytes.length + uptoBulk d + 1
  | (_, d) => uptoBulk d + 1
 end
def uptoSmall : (H : Type) → List (DataW H) → Bool := fun _ ds => decide (uptoBulkAll ds ≤ 1048576)
def OpenSpec.upto (s : _root_.Go.ChangeSpec) : _root_.Go.OpenSpec := { _root_.Go.OpenSpec.ofChange s with cond := some uptoSmall }

/-- 'lamplightlaw10.ButtonPlays', WHERE WHAT IT READS IS OF BULK AT MOST 1048576: true; the input reads as it did. -/
def buttonPlaysUptoRow : OpenClaim := { program := "ytccehjcfphimgaa", sum := "e6baf90302c75b294ba222a08afc722a4e7f9715531d7d3752fd41ee100d4541", func := "lamplight/lamplightlaw10.ButtonPlays", spec := "buttonPlays", apart := false, narrowed := true }
def ButtonPlaysUptoSaid : Prop := buttonPlaysUptoRow.holds Try.pinned (OpenSpec.upto buttonPlaysSpec)

/-- 'lamplightlaw10.ButtonOnce', WHERE WHAT IT READS IS OF BULK AT MOST 1048576: true; the input reads as it did. -/
def buttonOnceUptoRow : OpenClaim := { program := "ytccehjcfphimgaa", sum := "e6baf90302c75b294ba222a08afc722a4e7f9715531d7d3752fd41ee100d4541", func := "lamplight/lamplightlaw10.ButtonOnce", spec := "buttonOnce", apart := false, narrowed := true }
def ButtonOnceUptoSaid : Prop := buttonOnceUptoRow.holds Try.pinned (OpenSpec.upto buttonOnceSpec)

/-- 'lamplightlaw10.ButtonApart', WHERE WHAT IT READS IS OF BULK AT MOST 1048576: true; the input reads as it did. -/
def buttonApartUptoRow : OpenClaim := { program := "ytccehjcfphimgaa", sum := "e6baf90302c75b294ba222a08afc722a4e7f9715531d7d3752fd41ee100d4541", func := "lamplight/lamplightlaw10.ButtonApart", spec := "buttonApart", apart := false, narrowed := true }
def ButtonApartUptoSaid : Prop := buttonApartUptoRow.holds Try.pinned (OpenSpec.upto buttonApartSpec)

/-- 'lamplightlaw10.ButtonMoved', WHERE WHAT IT READS IS OF BULK AT MOST 1048576: true; the input reads as it did. -/
def buttonMovedUptoRow : OpenClaim := { program := "ytccehjcfphimgaa", sum := "e6baf90302c75b294ba222a08afc722a4e7f9715531d7d3752fd41ee100d4541", func := "lamplight/lamplightlaw10.ButtonMoved", spec := "buttonMoved", apart := false, narrowed := true }
def ButtonMovedUptoSaid : Prop := buttonMovedUptoRow.holds Try.pinned (OpenSpec.upto buttonMovedSpec)

/-- 'lamplightlaw10.ButtonShort', WHERE WHAT IT READS IS OF BULK AT MOST 1048576: true; the input reads as it did. -/
def buttonShortUptoRow : OpenClaim := { program := "ytccehjcfphimgaa", sum := "e6baf90302c75b294ba222a08afc722a4e7f9715531d7d3752fd41ee100d4541", func := "lamplight/lamplightlaw10.ButtonShort", spec := "buttonShort", apart := false, narrowed := true }
def ButtonShortUptoSaid : Prop := buttonShortUptoRow.holds Try.pinned (OpenSpec.upto buttonShortSpec)

/-- 'lamplightlaw10.ButtonHeld', WHERE WHAT IT READS IS OF BULK AT MOST 1048576: true; the input reads as it did. -/
def buttonHeldUptoRow : OpenClaim := { program := "ytccehjcfphimgaa", sum := "e6baf90302c75b294ba222a08afc722a4e7f9715531d7d3752fd41ee100d4541", func := "lamplight/lamplightlaw10.ButtonHeld", spec := "buttonHeld", apart := false, narrowed := true }
def ButtonHeldUptoSaid : Prop := buttonHeldUptoRow.holds Try.pinned (OpenSpec.upto buttonHeldSpec)

/-- 'lamplightlaw10.ButtonAgain', WHERE WHAT IT READS IS OF BULK AT MOST 1048576: true; the input reads as it did. -/
def buttonAgainUptoRow : OpenClaim := { program := "ytccehjcfphimgaa", sum := "e6baf90302c75b294ba222a08afc722a4e7f9715531d7d3752fd41ee100d4541", func := "lamplight/lamplightlaw10.ButtonAgain", spec := "buttonAgain", apart := false, narrowed := true }
def ButtonAgainUptoSaid : Prop := buttonAgainUptoRow.holds Try.pinned (OpenSpec.upto buttonAgainSpec)

end Rows
end Go.Proofs.Ytccehjcfphimgaa
