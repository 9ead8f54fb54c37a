/-
  NARROWER THAN 'FOR EVERY INPUT', by the rows' own cells (each row's printed sentence says how): OrderTells: laid · OrderPlays: laid · OrderOnce: laid · OrderLines: laid · OrderBookOrder: laid · OrderSame: laid.
  DERIVED. THE GIVEN ROWS OF THIS SEAT. 6 by the template 'for every input the law returns true; each argument reads behind the call as it read before'; 0 by the template 'total and deterministic' (their statements: YtigknfkkegccgaaDoorTotals.lean).
  GIVEN WITH THE SEED: the statements are not yours to turn. If you find one false, say at which input.
  Laid BY PROGRAM, IN A SANDBOX (cutbox-rows.mjs): the forced cells as the released guide's own fill.sh prints them over the translation db4bd3a483e525a2… (all of the seat's roots in one cut). By AI agents, Wed Nov 11 2026. No macro, syntax, notation, axiom, sorry.
-/
import Derived.Test.YtigknfkkegccgaaDoorChecked
import GoSem.Claim
import GoSem.ClaimJoined
import GoSem.ClaimMapViews
import Derived.JoinedTies
import Derived.KernelRfl
namespace Go.Proofs.YtigknfkkegccgaaDoor
/- THE CELL 'sum', in the pinned program and in every row, IS THE sha256 OF THE DUMP (.gsa) THAT YtigknfkkegccgaaDoorProg.lean LOADS. Nothing in Lean hashes anything: it is a label: what it is worth is what the hold of that sum in a sandbox is worth. -/
noncomputable def Tryd.pinned : Pinned := { name := "ytigknfkkegccgaadoor", sum := "db4bd3a483e525a26086c57869d198a82830cc88df6e588584d66780e02547cf", checked := Tryd.checked }
namespace Rows
def none {H : Type} : Left H := { results := [], args := [] }

/- WHAT THE LISTED PACKAGE-LEVEL VARIABLES READ AS WHEN THE CALL BEGINS. Each datum BY PROGRAM (the guide's laid-datum.mjs) off the statement by which the dump's own 'gosem.cut.vars' lays the variable. In a bare row this is a premise. The card (YtigknfkkegccgaaDoorCards.lean) ties it to the program's text. -/
def laid_bytes_ErrTooLarge {H : Type} : DataW H := .iface "*errors.errorString" (.ptr (.agg [.lit (.string [98, 121, 116, 101, 115, 46, 66, 117, 102, 102, 101, 114, 58, 32, 116, 111, 111, 32, 108, 97, 114, 103, 101])]))

/-- 'lamplightlaw14.OrderTells': WHATEVER THE INPUT: true; the input reads as it did. -/
def orderTellsSpec : ChangeSpec := { name := "orderTells", fn := fun _ => fun
  | [d1, d2] => { results := [.lit (.bool true)], args := [d1, d2] }
  | _ => none }
def orderTellsRow : OpenClaim := { program := "ytigknfkkegccgaadoor", sum := "db4bd3a483e525a26086c57869d198a82830cc88df6e588584d66780e02547cf", func := "lamplight/lamplightlaw14.OrderTells", spec := "orderTells", unfollowed := true, recurses := true, named := ["bytes.ErrTooLarge"], apart := false, laid := [("bytes.ErrTooLarge", laid_bytes_ErrTooLarge)] }
def OrderTellsSaid : Prop := orderTellsRow.holds Tryd.pinned (OpenSpec.ofChange orderTellsSpec)

/-- ITS FALSE NEIGHBOUR: 'it returns false'. Refute it at one input. -/
def orderTellsWrong : ChangeSpec := { name := "orderTells", fn := fun _ => fun
  | [d1, d2] => { results := [.lit (.bool false)], args := [d1, d2] }
  | _ => none }
def OrderTellsWrongFalsely : Prop := orderTellsRow.holds Tryd.pinned (OpenSpec.ofChange orderTellsWrong)

/-- 'lamplightlaw14.OrderPlays': WHATEVER THE INPUT: true; the input reads as it did. -/
def orderPlaysSpec : ChangeSpec := { name := "orderPlays", fn := fun _ => fun
  | [d] => { results := [.lit (.bool true)], args := [d] }
  | _ => none }
def orderPlaysRow : OpenClaim := { program := "ytigknfkkegccgaadoor", sum := "db4bd3a483e525a26086c57869d198a82830cc88df6e588584d66780e02547cf", func := "lamplight/lamplightlaw14.OrderPlays", spec := "orderPlays", unfollowed := true, recurses := true, named := ["bytes.ErrTooLarge"], apart := false, laid := [("bytes.ErrTooLarge", laid_bytes_ErrTooLarge)] }
def OrderPlaysSaid : Prop := orderPlaysRow.holds Tryd.pinned (OpenSpec.ofChange orderPlaysSpec)

/-- ITS FALSE NEIGHBOUR: 'it returns false'. Refute it at one input. -/
def orderPlaysWrong : ChangeSpec := { name := "orderPlays", fn := fun _ => fun
  | [d] => { results := [.lit (.bool false)], args := [d] }
  | _ => none }
def OrderPlaysWrongFalsely : Prop := orderPlaysRow.holds Tryd.pinned (OpenSpec.ofChange orderPlaysWrong)

/-- 'lamplightlaw14.OrderOnce': WHATEVER THE INPUT: true; the input reads as it did. -/
def orderOnceSpec : ChangeSpec := { name := "orderOnce", fn := fun _ => fun
  | [d1, d2] => { results := [.lit (.bool true)], args := [d1, d2] }
  | _ => none }
def orderOnceRow : OpenClaim := { program := "ytigknfkkegccgaadoor", sum := "db4bd3a483e525a26086c57869d198a82830cc88df6e588584d66780e02547cf", func := "lamplight/lamplightlaw14.OrderOnce", spec := "orderOnce", unfollowed := true, recurses := true, named := ["bytes.ErrTooLarge"], apart := false, laid := [("bytes.ErrTooLarge", laid_bytes_ErrTooLarge)] }
def OrderOnceSaid : Prop := orderOnceRow.holds Tryd.pinned (OpenSpec.ofChange orderOnceSpec)

/-- ITS FALSE NEIGHBOUR: 'it returns false'. Refute it at one input. -/
def orderOnceWrong : ChangeSpec := { name := "orderOnce", fn := fun _ => fun
  | [d1, d2] => { results := [.lit (.bool false)], args := [d1, d2] }
  | _ => none }
def OrderOnceWrongFalsely : Prop := orderOnceRow.holds Tryd.pinned (OpenSpec.ofChange orderOnceWrong)

/-- 'lamplightlaw14.OrderLines': WHATEVER THE INPUT: true; the input reads as it did. -/
def orderLinesSpec : ChangeSpec := { name := "orderLines", fn := fun _ => fun
  | [d1, d2, d3, d4, d5] => { results := [.lit (.bool true)], args := [d1, d2, d3, d4, d5] }
  | _ => none }
def orderLinesRow : OpenClaim := { program := "ytigknfkkegccgaadoor", sum := "db4bd3a483e525a26086c57869d198a82830cc88df6e588584d66780e02547cf", func := "lamplight/lamplightlaw14.OrderLines", spec := "orderLines", unfollowed := true, recurses := true, named := ["bytes.ErrTooLarge"], apart := false, laid := [("bytes.ErrTooLarge", laid_bytes_ErrTooLarge)] }
def OrderLinesSaid : Prop := orderLinesRow.holds Tryd.pinned (OpenSpec.ofChange orderLinesSpec)

/-- ITS FALSE NEIGHBOUR: 'it returns false'. Refute it at one input. -/
def orderLinesWrong : ChangeSpec := { name := "orderLines", fn := fun _ => fun
  | [d1, d2, d3, d4, d5] => { results := [.lit (.bool false)], args := [d1, d2, d3, d4, d5] }
  | _ => none }
def OrderLinesWrongFalsely : Prop := orderLinesRow.holds Tryd.pinned (OpenSpec.ofChange orderLinesWrong)

/-- 'lamplightlaw14.OrderBookOrder': WHATEVER THE INPUT: true; the input reads as it did. -/
def orderBookOrderSpec : ChangeSpec := { name := "orderBookOrder", fn := fun _ => fun
  | [d1, d2, d3] => { results := [.lit (.bool true)], args := [d1, d2, d3] }
  | _ => none }
def orderBookOrderRow : OpenClaim := { program := "ytigknfkkegccgaadoor", sum := "db4bd3a483e525a26086c57869d198a82830cc88df6e588584d66780e02547cf", func := "lamplight/lamplightlaw14.OrderBookOrder", spec := "orderBookOrder", unfollowed := true, recurses := true, named := ["bytes.ErrTooLarge"], apart := false, laid := [("bytes.ErrTooLarge", laid_bytes_ErrTooLarge)] }
def OrderBookOrderSaid : Prop := orderBookOrderRow.holds Tryd.pinned (OpenSpec.ofChange orderBookOrderSpec)

/-- ITS FALSE NEIGHBOUR: 'it returns false'. Refute it at one input. -/
def orderBookOrderWrong : ChangeSpec := { name := "orderBookOrder", fn := fun _ => fun
  | [d1, d2, d3] => { results := [.lit (.bool false)], args := [d1, d2, d3] }
  | _ => none }
def OrderBookOrderWrongFalsely : Prop := orderBookOrderRow.holds Tryd.pinned (OpenSpec.ofChange orderBookOrderWrong)

/-- 'lamplightlaw14.OrderSame': WHATEVER THE INPUT: true; the input reads as it did. -/
def orderSameSpec : ChangeSpec := { name := "orderSame", fn := fun _ => fun
  | [d1, d2] => { results := [.lit (.bool true)], args := [d1, d2] }
  | _ => none }
def orderSameRow : OpenClaim := { program := "ytigknfkkegccgaadoor", sum := "db4bd3a483e525a26086c57869d198a82830cc88df6e588584d66780e02547cf", func := "lamplight/lamplightlaw14.OrderSame", spec := "orderSame", unfollowed := true, recurses := true, named := ["bytes.ErrTooLarge"], apart := false, laid := [("bytes.ErrTooLarge", laid_bytes_ErrTooLarge)] }
def OrderSameSaid : Prop := orderSameRow.holds Tryd.pinned (OpenSpec.ofChange orderSameSpec)

/-- ITS FALSE NEIGHBOUR: 'it returns false'. Refute it at one input. -/
def orderSameWrong : ChangeSpec := { name := "orderSame", fn := fun _ => fun
  | [d1, d2] => { results := [.lit (.bool false)], args := [d1, d2] }
  | _ => none }
def OrderSameWrongFalsely : Prop := orderSameRow.holds Tryd.pinned (OpenSpec.ofChange orderSameWrong)

/- THE SECOND FORM. 'bulk': how many values and letters a reading holds, each counted each time it is reached (what is shared counts as often as it is met; a slice's spare places count too). A statement '..UptoSaid' is the law's where the arguments, and the package variables that the reading takes, are together of bulk at most 1048576: NARROWER than '..Said'. Prove '..Said' where nothing that the law and all that it calls make is longer than what came in: it says more and counts as full. Else prove '..UptoSaid'. A law counts once. -/
mutual
def uptoBulk {H : Type} : DataW H → Nat
  | .lit (.string bytes) => bytes.length + 1
  | .lit _ => 1
  | .nil => 1
  | .ptr d => uptoBulk d + 1
  | .slice elems spare => uptoBulkAll elems + uptoBulkAll spare + 1
  | .agg parts => uptoBulkAll parts + 1
  | .iface _ d => uptoBulk d + 1
  | .map entries => uptoBulkEntries entries + 1
  | .held _ => 1
def uptoBulkAll {H : Type} : List (DataW H) → Nat
  | [] => 0
  | d :: r => uptoBulk d + uptoBulkAll r
def uptoBulkEntries {H : Type} : List (Lit × DataW H) → Nat
  | [] => 0
  | x :: r => uptoBulkEntry x + uptoBulkEntries r
def uptoBulkEntry {H : Type} : Lit × DataW H → Nat
  | (.string bytes, d) => bytes.length + uptoBulk d + 1
  | (_, d) => uptoBulk d + 1
 end
def uptoSmall : (H : Type) → List (DataW H) → Bool := fun _ ds => decide (uptoBulkAll ds ≤ 1048576)
def OpenSpec.upto (s : _root_.Go.ChangeSpec) : _root_.Go.OpenSpec := { _root_.Go.OpenSpec.ofChange s with cond := some uptoSmall }

/-- 'lamplightlaw14.OrderTells', WHERE WHAT IT READS IS OF BULK AT MOST 1048576: true; the input reads as it did. -/
def orderTellsUptoRow : OpenClaim := { program := "ytigknfkkegccgaadoor", sum := "db4bd3a483e525a26086c57869d198a82830cc88df6e588584d66780e02547cf", func := "lamplight/lamplightlaw14.OrderTells", spec := "orderTells", unfollowed := true, recurses := true, named := ["bytes.ErrTooLarge"], apart := false, laid := [("bytes.ErrTooLarge", laid_bytes_ErrTooLarge)], narrowed := true }
def OrderTellsUptoSaid : Prop := orderTellsUptoRow.holds Tryd.pinned (OpenSpec.upto orderTellsSpec)

/-- 'lamplightlaw14.OrderPlays', WHERE WHAT IT READS IS OF BULK AT MOST 1048576: true; the input reads as it did. -/
def orderPlaysUptoRow : OpenClaim := { program := "ytigknfkkegccgaadoor", sum := "db4bd3a483e525a26086c57869d198a82830cc88df6e588584d66780e02547cf", func := "lamplight/lamplightlaw14.OrderPlays", spec := "orderPlays", unfollowed := true, recurses := true, named := ["bytes.ErrTooLarge"], apart := false, laid := [("bytes.ErrTooLarge", laid_bytes_ErrTooLarge)], narrowed := true }
def OrderPlaysUptoSaid : Prop := orderPlaysUptoRow.holds Tryd.pinned (OpenSpec.upto orderPlaysSpec)

/-- 'lamplightlaw14.OrderOnce', WHERE WHAT IT READS IS OF BULK AT MOST 1048576: true; the input reads as it did. -/
def orderOnceUptoRow : OpenClaim := { program := "ytigknfkkegccgaadoor", sum := "db4bd3a483e525a26086c57869d198a82830cc88df6e588584d66780e02547cf", func := "lamplight/lamplightlaw14.OrderOnce", spec := "orderOnce", unfollowed := true, recurses := true, named := ["bytes.ErrTooLarge"], apart := false, laid := [("bytes.ErrTooLarge", laid_bytes_ErrTooLarge)], narrowed := true }
def OrderOnceUptoSaid : Prop := orderOnceUptoRow.holds Tryd.pinned (OpenSpec.upto orderOnceSpec)

/-- 'lamplightlaw14.OrderLines', WHERE WHAT IT READS IS OF BULK AT MOST 1048576: true; the input reads as it did. -/
def orderLinesUptoRow : OpenClaim := { program := "ytigknfkkegccgaadoor", sum := "db4bd3a483e525a26086c57869d198a82830cc88df6e588584d66780e02547cf", func := "lamplight/lamplightlaw14.OrderLines", spec := "orderLines", unfollowed := true, recurses := true, named := ["bytes.ErrTooLarge"], apart := false, laid := [("bytes.ErrTooLarge", laid_bytes_ErrTooLarge)], narrowed := true }
def OrderLinesUptoSaid : Prop := orderLinesUptoRow.holds Tryd.pinned (OpenSpec.upto orderLinesSpec)

/-- 'lamplightlaw14.OrderBookOrder', WHERE WHAT IT READS IS OF BULK AT MOST 1048576: true; the input reads as it did. -/
def orderBookOrderUptoRow : OpenClaim := { program := "ytigknfkkegccgaadoor", sum := "db4bd3a483e525a26086c57869d198a82830cc88df6e588584d66780e02547cf", func := "lamplight/lamplightlaw14.OrderBookOrder", spec := "orderBookOrder", unfollowed := true, recurses := true, named := ["bytes.ErrTooLarge"], apart := false, laid := [("bytes.ErrTooLarge", laid_bytes_ErrTooLarge)], narrowed := true }
def OrderBookOrderUptoSaid : Prop := orderBookOrderUptoRow.holds Tryd.pinned (OpenSpec.upto orderBookOrderSpec)

/-- 'lamplightlaw14.OrderSame', WHERE WHAT IT READS IS OF BULK AT MOST 1048576: true; the input reads as it did. -/
def orderSameUptoRow : OpenClaim := { program := "ytigknfkkegccgaadoor", sum := "db4bd3a483e525a26086c57869d198a82830cc88df6e588584d66780e02547cf", func := "lamplight/lamplightlaw14.OrderSame", spec := "orderSame", unfollowed := true, recurses := true, named := ["bytes.ErrTooLarge"], apart := false, laid := [("bytes.ErrTooLarge", laid_bytes_ErrTooLarge)], narrowed := true }
def OrderSameUptoSaid : Prop := orderSameUptoRow.holds Tryd.pinned (OpenSpec.upto orderSameSpec)

end Rows
end Go.Proofs.YtigknfkkegccgaaDoor
