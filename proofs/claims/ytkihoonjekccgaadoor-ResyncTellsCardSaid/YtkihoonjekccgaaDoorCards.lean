/-
  DERIVED. GIVEN WITH THE SEED: THE CARDS: each row of YtkihoonjekccgaaDoorRows.lean that lists a variable, with what it lists TIED to the program's text (the seventh form; the later family's looks); each row that meets fmt, with fmt's text TOLD by the authors' own Lean function (tested against real Go, not proved from fmt's source: count such statements apart). THE CARD IS WHAT COUNTS. Prove the row's statement (the work); the ties are given (YtkihoonjekccgaaDoorTie.lean); close each card by the builder's one call (the guide's Derived/Test/ToyasCard.lean, 'card_holds'). Laid BY PROGRAM, IN A SANDBOX (cutbox-door.mjs). By AI agents, Wed Nov 11 2026. No macro, syntax, notation, axiom, sorry.
-/
import Derived.Test.YtkihoonjekccgaaDoorRows
import GoSem.ClaimSeven
namespace Go.Proofs.YtkihoonjekccgaaDoor
namespace Rows

/-- THE TIED CARD OF 'lamplightlaw05.ResyncTells'. -/
def resyncTellsCard : Claim7 := { stood := { row := resyncTellsRow, standIns := [], harness := (true, "e8dc8bcb96fb3d763b2440644c8ab593a16da6f00d5612ac33379d13ecea4f0f"), looks := false }, kinds := [], alts := [], laidByText := true, laidKinds := [.sentinel, .data], laidTests := true, laidLooks := .later }
def ResyncTellsCardSaid : Prop := Claim7.holds Tryd.pinned (.plain (OpenSpec.ofChange resyncTellsSpec)) resyncTellsCard

/-- THE TIED CARD OF 'lamplightlaw05.ResyncPortions'. -/
def resyncPortionsCard : Claim7 := { stood := { row := resyncPortionsRow, standIns := [], harness := (true, "e8dc8bcb96fb3d763b2440644c8ab593a16da6f00d5612ac33379d13ecea4f0f"), looks := false }, kinds := [], alts := [], laidByText := true, laidKinds := [.sentinel, .data], laidTests := true, laidLooks := .later }
def ResyncPortionsCardSaid : Prop := Claim7.holds Tryd.pinned (.plain (OpenSpec.ofChange resyncPortionsSpec)) resyncPortionsCard

/-- THE TIED CARD OF 'lamplightlaw05.ResyncThrough'. -/
def resyncThroughCard : Claim7 := { stood := { row := resyncThroughRow, standIns := [], harness := (true, "e8dc8bcb96fb3d763b2440644c8ab593a16da6f00d5612ac33379d13ecea4f0f"), looks := false }, kinds := [], alts := [], laidByText := true, laidKinds := [.sentinel, .data], laidTests := true, laidLooks := .later }
def ResyncThroughCardSaid : Prop := Claim7.holds Tryd.pinned (.plain (OpenSpec.ofChange resyncThroughSpec)) resyncThroughCard

/-- THE TIED CARD OF 'lamplightlaw05.ResyncBounds'. -/
def resyncBoundsCard : Claim7 := { stood := { row := resyncBoundsRow, standIns := [], harness := (true, "e8dc8bcb96fb3d763b2440644c8ab593a16da6f00d5612ac33379d13ecea4f0f"), looks := false }, kinds := [], alts := [], laidByText := true, laidKinds := [.sentinel, .data], laidTests := true, laidLooks := .later }
def ResyncBoundsCardSaid : Prop := Claim7.holds Tryd.pinned (.plain (OpenSpec.ofChange resyncBoundsSpec)) resyncBoundsCard

/-- THE TIED CARD OF 'lamplightlaw05.ResyncCounts'. -/
def resyncCountsCard : Claim7 := { stood := { row := resyncCountsRow, standIns := [], harness := (true, "e8dc8bcb96fb3d763b2440644c8ab593a16da6f00d5612ac33379d13ecea4f0f"), looks := false }, kinds := [], alts := [], laidByText := true, laidKinds := [.sentinel, .data], laidTests := true, laidLooks := .later }
def ResyncCountsCardSaid : Prop := Claim7.holds Tryd.pinned (.plain (OpenSpec.ofChange resyncCountsSpec)) resyncCountsCard

/-- THE TIED CARD OF 'lamplightlaw05.ResyncApart'. -/
def resyncApartCard : Claim7 := { stood := { row := resyncApartRow, standIns := [], harness := (true, "e8dc8bcb96fb3d763b2440644c8ab593a16da6f00d5612ac33379d13ecea4f0f"), looks := false }, kinds := [], alts := [], laidByText := true, laidKinds := [.sentinel, .data], laidTests := true, laidLooks := .later }
def ResyncApartCardSaid : Prop := Claim7.holds Tryd.pinned (.plain (OpenSpec.ofChange resyncApartSpec)) resyncApartCard

/-- THE SECOND FORM's CARD OF 'lamplightlaw05.ResyncTells'. -/
def resyncTellsUptoCard : Claim7 := { stood := { row := resyncTellsUptoRow, standIns := [], harness := (true, "e8dc8bcb96fb3d763b2440644c8ab593a16da6f00d5612ac33379d13ecea4f0f"), looks := false }, kinds := [], alts := [], laidByText := true, laidKinds := [.sentinel, .data], laidTests := true, laidLooks := .later }
def ResyncTellsUptoCardSaid : Prop := Claim7.holds Tryd.pinned (.plain (OpenSpec.upto resyncTellsSpec)) resyncTellsUptoCard

/-- THE SECOND FORM's CARD OF 'lamplightlaw05.ResyncPortions'. -/
def resyncPortionsUptoCard : Claim7 := { stood := { row := resyncPortionsUptoRow, standIns := [], harness := (true, "e8dc8bcb96fb3d763b2440644c8ab593a16da6f00d5612ac33379d13ecea4f0f"), looks := false }, kinds := [], alts := [], laidByText := true, laidKinds := [.sentinel, .data], laidTests := true, laidLooks := .later }
def ResyncPortionsUptoCardSaid : Prop := Claim7.holds Tryd.pinned (.plain (OpenSpec.upto resyncPortionsSpec)) resyncPortionsUptoCard

/-- THE SECOND FORM's CARD OF 'lamplightlaw05.ResyncThrough'. -/
def resyncThroughUptoCard : Claim7 := { stood := { row := resyncThroughUptoRow, standIns := [], harness := (true, "e8dc8bcb96fb3d763b2440644c8ab593a16da6f00d5612ac33379d13ecea4f0f"), looks := false }, kinds := [], alts := [], laidByText := true, laidKinds := [.sentinel, .data], laidTests := true, laidLooks := .later }
def ResyncThroughUptoCardSaid : Prop := Claim7.holds Tryd.pinned (.plain (OpenSpec.upto resyncThroughSpec)) resyncThroughUptoCard

/-- THE SECOND FORM's CARD OF 'lamplightlaw05.ResyncBounds'. -/
def resyncBoundsUptoCard : Claim7 := { stood := { row := resyncBoundsUptoRow, standIns := [], harness := (true, "e8dc8bcb96fb3d763b2440644c8ab593a16da6f00d5612ac33379d13ecea4f0f"), looks := false }, kinds := [], alts := [], laidByText := true, laidKinds := [.sentinel, .data], laidTests := true, laidLooks := .later }
def ResyncBoundsUptoCardSaid : Prop := Claim7.holds Tryd.pinned (.plain (OpenSpec.upto resyncBoundsSpec)) resyncBoundsUptoCard

/-- THE SECOND FORM's CARD OF 'lamplightlaw05.ResyncCounts'. -/
def resyncCountsUptoCard : Claim7 := { stood := { row := resyncCountsUptoRow, standIns := [], harness := (true, "e8dc8bcb96fb3d763b2440644c8ab593a16da6f00d5612ac33379d13ecea4f0f"), looks := false }, kinds := [], alts := [], laidByText := true, laidKinds := [.sentinel, .data], laidTests := true, laidLooks := .later }
def ResyncCountsUptoCardSaid : Prop := Claim7.holds Tryd.pinned (.plain (OpenSpec.upto resyncCountsSpec)) resyncCountsUptoCard

/-- THE SECOND FORM's CARD OF 'lamplightlaw05.ResyncApart'. -/
def resyncApartUptoCard : Claim7 := { stood := { row := resyncApartUptoRow, standIns := [], harness := (true, "e8dc8bcb96fb3d763b2440644c8ab593a16da6f00d5612ac33379d13ecea4f0f"), looks := false }, kinds := [], alts := [], laidByText := true, laidKinds := [.sentinel, .data], laidTests := true, laidLooks := .later }
def ResyncApartUptoCardSaid : Prop := Claim7.holds Tryd.pinned (.plain (OpenSpec.upto resyncApartSpec)) resyncApartUptoCard
end Rows
end Go.Proofs.YtkihoonjekccgaaDoor
