/-
  DERIVED. GIVEN WITH THE SEED: THE CARDS: each row of YtigknfkkegccgaaDoorRows.lean that lists a variable, with what it lists TIED to the program's text (the seventh form; the later family's looks); each row that meets fmt, with fmt's text TOLD by the authors' own Lean function (tested against real Go, not proved from fmt's source: count such statements apart). THE CARD IS WHAT COUNTS. Prove the row's statement (the work); the ties are given (YtigknfkkegccgaaDoorTie.lean); close each card by the builder's one call (the guide's Derived/Test/ToyasCard.lean, 'card_holds'). Laid BY PROGRAM, IN A SANDBOX (cutbox-door.mjs). By AI agents, Wed Nov 11 2026. No macro, syntax, notation, axiom, sorry.
-/
import Derived.Test.YtigknfkkegccgaaDoorRows
import GoSem.ClaimSeven
namespace Go.Proofs.YtigknfkkegccgaaDoor
namespace Rows

/-- THE TIED CARD OF 'lamplightlaw14.OrderTells'. -/
def orderTellsCard : Claim7 := { stood := { row := orderTellsRow, standIns := [], harness := (true, "d6fc6ef20750f7ed0c04a69c31af0ba019b282e5694d12a19db6ba651971952a"), looks := true }, kinds := [], alts := [], laidByText := true, laidKinds := [.sentinel], laidTests := true, laidLooks := .later }
def OrderTellsCardSaid : Prop := Claim7.holds Tryd.pinned (.plain (OpenSpec.ofChange orderTellsSpec)) orderTellsCard

/-- THE TIED CARD OF 'lamplightlaw14.OrderPlays'. -/
def orderPlaysCard : Claim7 := { stood := { row := orderPlaysRow, standIns := [], harness := (true, "d6fc6ef20750f7ed0c04a69c31af0ba019b282e5694d12a19db6ba651971952a"), looks := true }, kinds := [], alts := [], laidByText := true, laidKinds := [.sentinel], laidTests := true, laidLooks := .later }
def OrderPlaysCardSaid : Prop := Claim7.holds Tryd.pinned (.plain (OpenSpec.ofChange orderPlaysSpec)) orderPlaysCard

/-- THE TIED CARD OF 'lamplightlaw14.OrderOnce'. -/
def orderOnceCard : Claim7 := { stood := { row := orderOnceRow, standIns := [], harness := (true, "d6fc6ef20750f7ed0c04a69c31af0ba019b282e5694d12a19db6ba651971952a"), looks := true }, kinds := [], alts := [], laidByText := true, laidKinds := [.sentinel], laidTests := true, laidLooks := .later }
def OrderOnceCardSaid : Prop := Claim7.holds Tryd.pinned (.plain (OpenSpec.ofChange orderOnceSpec)) orderOnceCard

/-- THE TIED CARD OF 'lamplightlaw14.OrderLines'. -/
def orderLinesCard : Claim7 := { stood := { row := orderLinesRow, standIns := [], harness := (true, "d6fc6ef20750f7ed0c04a69c31af0ba019b282e5694d12a19db6ba651971952a"), looks := true }, kinds := [], alts := [], laidByText := true, laidKinds := [.sentinel], laidTests := true, laidLooks := .later }
def OrderLinesCardSaid : Prop := Claim7.holds Tryd.pinned (.plain (OpenSpec.ofChange orderLinesSpec)) orderLinesCard

/-- THE TIED CARD OF 'lamplightlaw14.OrderBookOrder'. -/
def orderBookOrderCard : Claim7 := { stood := { row := orderBookOrderRow, standIns := [], harness := (true, "d6fc6ef20750f7ed0c04a69c31af0ba019b282e5694d12a19db6ba651971952a"), looks := true }, kinds := [], alts := [], laidByText := true, laidKinds := [.sentinel], laidTests := true, laidLooks := .later }
def OrderBookOrderCardSaid : Prop := Claim7.holds Tryd.pinned (.plain (OpenSpec.ofChange orderBookOrderSpec)) orderBookOrderCard

/-- THE TIED CARD OF 'lamplightlaw14.OrderSame'. -/
def orderSameCard : Claim7 := { stood := { row := orderSameRow, standIns := [], harness := (true, "d6fc6ef20750f7ed0c04a69c31af0ba019b282e5694d12a19db6ba651971952a"), looks := true }, kinds := [], alts := [], laidByText := true, laidKinds := [.sentinel], laidTests := true, laidLooks := .later }
def OrderSameCardSaid : Prop := Claim7.holds Tryd.pinned (.plain (OpenSpec.ofChange orderSameSpec)) orderSameCard

/-- THE SECOND FORM's CARD OF 'lamplightlaw14.OrderTells'. -/
def orderTellsUptoCard : Claim7 := { stood := { row := orderTellsUptoRow, standIns := [], harness := (true, "d6fc6ef20750f7ed0c04a69c31af0ba019b282e5694d12a19db6ba651971952a"), looks := true }, kinds := [], alts := [], laidByText := true, laidKinds := [.sentinel], laidTests := true, laidLooks := .later }
def OrderTellsUptoCardSaid : Prop := Claim7.holds Tryd.pinned (.plain (OpenSpec.upto orderTellsSpec)) orderTellsUptoCard

/-- THE SECOND FORM's CARD OF 'lamplightlaw14.OrderPlays'. -/
def orderPlaysUptoCard : Claim7 := { stood := { row := orderPlaysUptoRow, standIns := [], harness := (true, "d6fc6ef20750f7ed0c04a69c31af0ba019b282e5694d12a19db6ba651971952a"), looks := true }, kinds := [], alts := [], laidByText := true, laidKinds := [.sentinel], laidTests := true, laidLooks := .later }
def OrderPlaysUptoCardSaid : Prop := Claim7.holds Tryd.pinned (.plain (OpenSpec.upto orderPlaysSpec)) orderPlaysUptoCard

/-- THE SECOND FORM's CARD OF 'lamplightlaw14.OrderOnce'. -/
def orderOnceUptoCard : Claim7 := { stood := { row := orderOnceUptoRow, standIns := [], harness := (true, "d6fc6ef20750f7ed0c04a69c31af0ba019b282e5694d12a19db6ba651971952a"), looks := true }, kinds := [], alts := [], laidByText := true, laidKinds := [.sentinel], laidTests := true, laidLooks := .later }
def OrderOnceUptoCardSaid : Prop := Claim7.holds Tryd.pinned (.plain (OpenSpec.upto orderOnceSpec)) orderOnceUptoCard

/-- THE SECOND FORM's CARD OF 'lamplightlaw14.OrderLines'. -/
def orderLinesUptoCard : Claim7 := { stood := { row := orderLinesUptoRow, standIns := [], harness := (true, "d6fc6ef20750f7ed0c04a69c31af0ba019b282e5694d12a19db6ba651971952a"), looks := true }, kinds := [], alts := [], laidByText := true, laidKinds := [.sentinel], laidTests := true, laidLooks := .later }
def OrderLinesUptoCardSaid : Prop := Claim7.holds Tryd.pinned (.plain (OpenSpec.upto orderLinesSpec)) orderLinesUptoCard

/-- THE SECOND FORM's CARD OF 'lamplightlaw14.OrderBookOrder'. -/
def orderBookOrderUptoCard : Claim7 := { stood := { row := orderBookOrderUptoRow, standIns := [], harness := (true, "d6fc6ef20750f7ed0c04a69c31af0ba019b282e5694d12a19db6ba651971952a"), looks := true }, kinds := [], alts := [], laidByText := true, laidKinds := [.sentinel], laidTests := true, laidLooks := .later }
def OrderBookOrderUptoCardSaid : Prop := Claim7.holds Tryd.pinned (.plain (OpenSpec.upto orderBookOrderSpec)) orderBookOrderUptoCard

/-- THE SECOND FORM's CARD OF 'lamplightlaw14.OrderSame'. -/
def orderSameUptoCard : Claim7 := { stood := { row := orderSameUptoRow, standIns := [], harness := (true, "d6fc6ef20750f7ed0c04a69c31af0ba019b282e5694d12a19db6ba651971952a"), looks := true }, kinds := [], alts := [], laidByText := true, laidKinds := [.sentinel], laidTests := true, laidLooks := .later }
def OrderSameUptoCardSaid : Prop := Claim7.holds Tryd.pinned (.plain (OpenSpec.upto orderSameSpec)) orderSameUptoCard
end Rows
end Go.Proofs.YtigknfkkegccgaaDoor
