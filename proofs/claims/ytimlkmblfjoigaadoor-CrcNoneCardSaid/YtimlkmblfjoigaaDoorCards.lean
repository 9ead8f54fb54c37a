/-
  DERIVED. GIVEN WITH THE SEED: THE CARDS: each row of YtimlkmblfjoigaaDoorRows.lean that lists a variable, with what it lists TIED to the program's text (the seventh form; the later family's looks); each row that meets fmt, with fmt's text TOLD by the authors' own Lean function (tested against real Go, not proved from fmt's source: count such statements apart). THE CARD IS WHAT COUNTS. Prove the row's statement (the work); the ties are given (YtimlkmblfjoigaaDoorTie.lean); close each card by the builder's one call (the guide's Derived/Test/ToyasCard.lean, 'card_holds'). Laid BY PROGRAM, IN A SANDBOX (cutbox-door.mjs). By AI agents, Wed Nov 11 2026. No macro, syntax, notation, axiom, sorry.
-/
import Derived.Test.YtimlkmblfjoigaaDoorRows
import GoSem.ClaimSeven
namespace Go.Proofs.YtimlkmblfjoigaaDoor
namespace Rows

/-- THE TIED CARD OF 'lamplightlaw02.CrcTells'. -/
def crcTellsCard : Claim7 := { stood := { row := crcTellsRow, standIns := [], harness := (true, "c66f05522e6cdd6bb355e660be453c6821de81accbf203a2afa081efb810f1c9"), looks := false }, kinds := [], alts := [], laidByText := true, laidKinds := [.sentinel, .data], laidTests := true, laidLooks := .later }
def CrcTellsCardSaid : Prop := Claim7.holds Tryd.pinned (.plain (OpenSpec.ofChange crcTellsSpec)) crcTellsCard

/-- THE TIED CARD OF 'lamplightlaw02.CrcWays'. -/
def crcWaysCard : Claim7 := { stood := { row := crcWaysRow, standIns := [], harness := (true, "c66f05522e6cdd6bb355e660be453c6821de81accbf203a2afa081efb810f1c9"), looks := false }, kinds := [], alts := [], laidByText := true, laidKinds := [.sentinel, .data], laidTests := true, laidLooks := .later }
def CrcWaysCardSaid : Prop := Claim7.holds Tryd.pinned (.plain (OpenSpec.ofChange crcWaysSpec)) crcWaysCard

/-- THE TIED CARD OF 'lamplightlaw02.CrcBursts'. -/
def crcBurstsCard : Claim7 := { stood := { row := crcBurstsRow, standIns := [], harness := (true, "c66f05522e6cdd6bb355e660be453c6821de81accbf203a2afa081efb810f1c9"), looks := false }, kinds := [], alts := [], laidByText := true, laidKinds := [.sentinel, .data], laidTests := true, laidLooks := .later }
def CrcBurstsCardSaid : Prop := Claim7.holds Tryd.pinned (.plain (OpenSpec.ofChange crcBurstsSpec)) crcBurstsCard

/-- THE TIED CARD OF 'lamplightlaw02.CrcAppends'. -/
def crcAppendsCard : Claim7 := { stood := { row := crcAppendsRow, standIns := [], harness := (true, "c66f05522e6cdd6bb355e660be453c6821de81accbf203a2afa081efb810f1c9"), looks := false }, kinds := [], alts := [], laidByText := true, laidKinds := [.sentinel, .data], laidTests := true, laidLooks := .later }
def CrcAppendsCardSaid : Prop := Claim7.holds Tryd.pinned (.plain (OpenSpec.ofChange crcAppendsSpec)) crcAppendsCard

/-- THE TIED CARD OF 'lamplightlaw02.CrcLinear'. -/
def crcLinearCard : Claim7 := { stood := { row := crcLinearRow, standIns := [], harness := (true, "c66f05522e6cdd6bb355e660be453c6821de81accbf203a2afa081efb810f1c9"), looks := false }, kinds := [], alts := [], laidByText := true, laidKinds := [.sentinel, .data], laidTests := true, laidLooks := .later }
def CrcLinearCardSaid : Prop := Claim7.holds Tryd.pinned (.plain (OpenSpec.ofChange crcLinearSpec)) crcLinearCard

/-- THE TIED CARD OF 'lamplightlaw02.CrcTwo'. -/
def crcTwoCard : Claim7 := { stood := { row := crcTwoRow, standIns := [], harness := (true, "c66f05522e6cdd6bb355e660be453c6821de81accbf203a2afa081efb810f1c9"), looks := false }, kinds := [], alts := [], laidByText := true, laidKinds := [.sentinel, .data], laidTests := true, laidLooks := .later }
def CrcTwoCardSaid : Prop := Claim7.holds Tryd.pinned (.plain (OpenSpec.ofChange crcTwoSpec)) crcTwoCard

/-- THE TIED CARD OF 'lamplightlaw02.CrcSame'. -/
def crcSameCard : Claim7 := { stood := { row := crcSameRow, standIns := [], harness := (true, "c66f05522e6cdd6bb355e660be453c6821de81accbf203a2afa081efb810f1c9"), looks := false }, kinds := [], alts := [], laidByText := true, laidKinds := [.sentinel, .data], laidTests := true, laidLooks := .later }
def CrcSameCardSaid : Prop := Claim7.holds Tryd.pinned (.plain (OpenSpec.ofChange crcSameSpec)) crcSameCard

/-- THE TIED CARD OF 'lamplightlaw02.CrcByte'. -/
def crcByteCard : Claim7 := { stood := { row := crcByteRow, standIns := [], harness := (true, "c66f05522e6cdd6bb355e660be453c6821de81accbf203a2afa081efb810f1c9"), looks := false }, kinds := [], alts := [], laidByText := true, laidKinds := [.sentinel, .data], laidTests := true, laidLooks := .later }
def CrcByteCardSaid : Prop := Claim7.holds Tryd.pinned (.plain (OpenSpec.ofChange crcByteSpec)) crcByteCard

/-- THE TIED CARD OF 'lamplightlaw02.CrcNone'. -/
def crcNoneCard : Claim7 := { stood := { row := crcNoneRow, standIns := [], harness := (true, "c66f05522e6cdd6bb355e660be453c6821de81accbf203a2afa081efb810f1c9"), looks := false }, kinds := [], alts := [], laidByText := true, laidKinds := [.sentinel, .data], laidTests := true, laidLooks := .later }
def CrcNoneCardSaid : Prop := Claim7.holds Tryd.pinned (.plain (OpenSpec.ofChange crcNoneSpec)) crcNoneCard

/-- THE SECOND FORM's CARD OF 'lamplightlaw02.CrcTells'. -/
def crcTellsUptoCard : Claim7 := { stood := { row := crcTellsUptoRow, standIns := [], harness := (true, "c66f05522e6cdd6bb355e660be453c6821de81accbf203a2afa081efb810f1c9"), looks := false }, kinds := [], alts := [], laidByText := true, laidKinds := [.sentinel, .data], laidTests := true, laidLooks := .later }
def CrcTellsUptoCardSaid : Prop := Claim7.holds Tryd.pinned (.plain (OpenSpec.upto crcTellsSpec)) crcTellsUptoCard

/-- THE SECOND FORM's CARD OF 'lamplightlaw02.CrcWays'. -/
def crcWaysUptoCard : Claim7 := { stood := { row := crcWaysUptoRow, standIns := [], harness := (true, "c66f05522e6cdd6bb355e660be453c6821de81accbf203a2afa081efb810f1c9"), looks := false }, kinds := [], alts := [], laidByText := true, laidKinds := [.sentinel, .data], laidTests := true, laidLooks := .later }
def CrcWaysUptoCardSaid : Prop := Claim7.holds Tryd.pinned (.plain (OpenSpec.upto crcWaysSpec)) crcWaysUptoCard

/-- THE SECOND FORM's CARD OF 'lamplightlaw02.CrcBursts'. -/
def crcBurstsUptoCard : Claim7 := { stood := { row := crcBurstsUptoRow, standIns := [], harness := (true, "c66f05522e6cdd6bb355e660be453c6821de81accbf203a2afa081efb810f1c9"), looks := false }, kinds := [], alts := [], laidByText := true, laidKinds := [.sentinel, .data], laidTests := true, laidLooks := .later }
def CrcBurstsUptoCardSaid : Prop := Claim7.holds Tryd.pinned (.plain (OpenSpec.upto crcBurstsSpec)) crcBurstsUptoCard

/-- THE SECOND FORM's CARD OF 'lamplightlaw02.CrcAppends'. -/
def crcAppendsUptoCard : Claim7 := { stood := { row := crcAppendsUptoRow, standIns := [], harness := (true, "c66f05522e6cdd6bb355e660be453c6821de81accbf203a2afa081efb810f1c9"), looks := false }, kinds := [], alts := [], laidByText := true, laidKinds := [.sentinel, .data], laidTests := true, laidLooks := .later }
def CrcAppendsUptoCardSaid : Prop := Claim7.holds Tryd.pinned (.plain (OpenSpec.upto crcAppendsSpec)) crcAppendsUptoCard

/-- THE SECOND FORM's CARD OF 'lamplightlaw02.CrcLinear'. -/
def crcLinearUptoCard : Claim7 := { stood := { row := crcLinearUptoRow, standIns := [], harness := (true, "c66f05522e6cdd6bb355e660be453c6821de81accbf203a2afa081efb810f1c9"), looks := false }, kinds := [], alts := [], laidByText := true, laidKinds := [.sentinel, .data], laidTests := true, laidLooks := .later }
def CrcLinearUptoCardSaid : Prop := Claim7.holds Tryd.pinned (.plain (OpenSpec.upto crcLinearSpec)) crcLinearUptoCard

/-- THE SECOND FORM's CARD OF 'lamplightlaw02.CrcTwo'. -/
def crcTwoUptoCard : Claim7 := { stood := { row := crcTwoUptoRow, standIns := [], harness := (true, "c66f05522e6cdd6bb355e660be453c6821de81accbf203a2afa081efb810f1c9"), looks := false }, kinds := [], alts := [], laidByText := true, laidKinds := [.sentinel, .data], laidTests := true, laidLooks := .later }
def CrcTwoUptoCardSaid : Prop := Claim7.holds Tryd.pinned (.plain (OpenSpec.upto crcTwoSpec)) crcTwoUptoCard

/-- THE SECOND FORM's CARD OF 'lamplightlaw02.CrcSame'. -/
def crcSameUptoCard : Claim7 := { stood := { row := crcSameUptoRow, standIns := [], harness := (true, "c66f05522e6cdd6bb355e660be453c6821de81accbf203a2afa081efb810f1c9"), looks := false }, kinds := [], alts := [], laidByText := true, laidKinds := [.sentinel, .data], laidTests := true, laidLooks := .later }
def CrcSameUptoCardSaid : Prop := Claim7.holds Tryd.pinned (.plain (OpenSpec.upto crcSameSpec)) crcSameUptoCard

/-- THE SECOND FORM's CARD OF 'lamplightlaw02.CrcByte'. -/
def crcByteUptoCard : Claim7 := { stood := { row := crcByteUptoRow, standIns := [], harness := (true, "c66f05522e6cdd6bb355e660be453c6821de81accbf203a2afa081efb810f1c9"), looks := false }, kinds := [], alts := [], laidByText := true, laidKinds := [.sentinel, .data], laidTests := true, laidLooks := .later }
def CrcByteUptoCardSaid : Prop := Claim7.holds Tryd.pinned (.plain (OpenSpec.upto crcByteSpec)) crcByteUptoCard

/-- THE SECOND FORM's CARD OF 'lamplightlaw02.CrcNone'. -/
def crcNoneUptoCard : Claim7 := { stood := { row := crcNoneUptoRow, standIns := [], harness := (true, "c66f05522e6cdd6bb355e660be453c6821de81accbf203a2afa081efb810f1c9"), looks := false }, kinds := [], alts := [], laidByText := true, laidKinds := [.sentinel, .data], laidTests := true, laidLooks := .later }
def CrcNoneUptoCardSaid : Prop := Claim7.holds Tryd.pinned (.plain (OpenSpec.upto crcNoneSpec)) crcNoneUptoCard
end Rows
end Go.Proofs.YtimlkmblfjoigaaDoor
