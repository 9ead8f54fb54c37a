/-
  DERIVED. GIVEN WITH THE SEED: THE CARDS: each row of YtfpjooekpjhbpaaDoorRows.lean that lists a variable, with what it lists TIED to the program's text (the seventh form; the later family's looks); each row that meets fmt, with fmt's text TOLD by the authors' own Lean function (tested against real Go, not proved from fmt's source: count such statements apart). THE CARD IS WHAT COUNTS. Prove the row's statement (the work); the ties are given (YtfpjooekpjhbpaaDoorTie.lean); close each card by the builder's one call (the guide's Derived/Test/ToyasCard.lean, 'card_holds'). Laid BY PROGRAM, IN A SANDBOX (cutbox-door.mjs). By AI agents, Wed Nov 11 2026. No macro, syntax, notation, axiom, sorry.
-/
import Derived.Test.YtfpjooekpjhbpaaDoorRows
import GoSem.ClaimSeven
namespace Go.Proofs.YtfpjooekpjhbpaaDoor
namespace Rows

/-- THE TIED CARD OF 'lamplightlaw01.OctetsJoins'. -/
def octetsJoinsCard : Claim7 := { stood := { row := octetsJoinsRow, standIns := [], harness := (true, "af2c91a0d71cf391d36f97a4dc3d353ffad63a84638a18d9c3b83eb702c8939f"), looks := false }, kinds := [], alts := [], laidByText := true, laidKinds := [.sentinel], laidTests := true, laidLooks := .later }
def OctetsJoinsCardSaid : Prop := Claim7.holds Tryd.pinned (.plain (OpenSpec.ofChange octetsJoinsSpec)) octetsJoinsCard

/-- THE TIED CARD OF 'lamplightlaw01.OctetsWrites'. -/
def octetsWritesCard : Claim7 := { stood := { row := octetsWritesRow, standIns := [], harness := (true, "af2c91a0d71cf391d36f97a4dc3d353ffad63a84638a18d9c3b83eb702c8939f"), looks := false }, kinds := [], alts := [], laidByText := true, laidKinds := [.sentinel], laidTests := true, laidLooks := .later }
def OctetsWritesCardSaid : Prop := Claim7.holds Tryd.pinned (.plain (OpenSpec.ofChange octetsWritesSpec)) octetsWritesCard

/-- THE TIED CARD OF 'lamplightlaw01.OctetsLater'. -/
def octetsLaterCard : Claim7 := { stood := { row := octetsLaterRow, standIns := [], harness := (true, "af2c91a0d71cf391d36f97a4dc3d353ffad63a84638a18d9c3b83eb702c8939f"), looks := false }, kinds := [], alts := [], laidByText := true, laidKinds := [.sentinel], laidTests := true, laidLooks := .later }
def OctetsLaterCardSaid : Prop := Claim7.holds Tryd.pinned (.plain (OpenSpec.ofChange octetsLaterSpec)) octetsLaterCard

/-- THE TIED CARD OF 'lamplightlaw01.OctetsStays'. -/
def octetsStaysCard : Claim7 := { stood := { row := octetsStaysRow, standIns := [], harness := (true, "af2c91a0d71cf391d36f97a4dc3d353ffad63a84638a18d9c3b83eb702c8939f"), looks := false }, kinds := [], alts := [], laidByText := true, laidKinds := [.sentinel], laidTests := true, laidLooks := .later }
def OctetsStaysCardSaid : Prop := Claim7.holds Tryd.pinned (.plain (OpenSpec.ofChange octetsStaysSpec)) octetsStaysCard

/-- THE TIED CARD OF 'lamplightlaw01.OctetsCuts'. -/
def octetsCutsCard : Claim7 := { stood := { row := octetsCutsRow, standIns := [], harness := (true, "af2c91a0d71cf391d36f97a4dc3d353ffad63a84638a18d9c3b83eb702c8939f"), looks := false }, kinds := [], alts := [], laidByText := true, laidKinds := [.sentinel], laidTests := true, laidLooks := .later }
def OctetsCutsCardSaid : Prop := Claim7.holds Tryd.pinned (.plain (OpenSpec.ofChange octetsCutsSpec)) octetsCutsCard

/-- THE TIED CARD OF 'lamplightlaw01.OctetsBack'. -/
def octetsBackCard : Claim7 := { stood := { row := octetsBackRow, standIns := [], harness := (true, "af2c91a0d71cf391d36f97a4dc3d353ffad63a84638a18d9c3b83eb702c8939f"), looks := false }, kinds := [], alts := [], laidByText := true, laidKinds := [.sentinel], laidTests := true, laidLooks := .later }
def OctetsBackCardSaid : Prop := Claim7.holds Tryd.pinned (.plain (OpenSpec.ofChange octetsBackSpec)) octetsBackCard

/-- THE TIED CARD OF 'lamplightlaw01.OctetsNumbers'. -/
def octetsNumbersCard : Claim7 := { stood := { row := octetsNumbersRow, standIns := [], harness := (true, "af2c91a0d71cf391d36f97a4dc3d353ffad63a84638a18d9c3b83eb702c8939f"), looks := false }, kinds := [], alts := [], laidByText := true, laidKinds := [.sentinel], laidTests := true, laidLooks := .later }
def OctetsNumbersCardSaid : Prop := Claim7.holds Tryd.pinned (.plain (OpenSpec.ofChange octetsNumbersSpec)) octetsNumbersCard

/-- THE TIED CARD OF 'lamplightlaw01.OctetsReads'. -/
def octetsReadsCard : Claim7 := { stood := { row := octetsReadsRow, standIns := [], harness := (true, "af2c91a0d71cf391d36f97a4dc3d353ffad63a84638a18d9c3b83eb702c8939f"), looks := false }, kinds := [], alts := [], laidByText := true, laidKinds := [.sentinel], laidTests := true, laidLooks := .later }
def OctetsReadsCardSaid : Prop := Claim7.holds Tryd.pinned (.plain (OpenSpec.ofChange octetsReadsSpec)) octetsReadsCard

/-- THE SECOND FORM's CARD OF 'lamplightlaw01.OctetsJoins'. -/
def octetsJoinsUptoCard : Claim7 := { stood := { row := octetsJoinsUptoRow, standIns := [], harness := (true, "af2c91a0d71cf391d36f97a4dc3d353ffad63a84638a18d9c3b83eb702c8939f"), looks := false }, kinds := [], alts := [], laidByText := true, laidKinds := [.sentinel], laidTests := true, laidLooks := .later }
def OctetsJoinsUptoCardSaid : Prop := Claim7.holds Tryd.pinned (.plain (OpenSpec.upto octetsJoinsSpec)) octetsJoinsUptoCard

/-- THE SECOND FORM's CARD OF 'lamplightlaw01.OctetsWrites'. -/
def octetsWritesUptoCard : Claim7 := { stood := { row := octetsWritesUptoRow, standIns := [], harness := (true, "af2c91a0d71cf391d36f97a4dc3d353ffad63a84638a18d9c3b83eb702c8939f"), looks := false }, kinds := [], alts := [], laidByText := true, laidKinds := [.sentinel], laidTests := true, laidLooks := .later }
def OctetsWritesUptoCardSaid : Prop := Claim7.holds Tryd.pinned (.plain (OpenSpec.upto octetsWritesSpec)) octetsWritesUptoCard

/-- THE SECOND FORM's CARD OF 'lamplightlaw01.OctetsLater'. -/
def octetsLaterUptoCard : Claim7 := { stood := { row := octetsLaterUptoRow, standIns := [], harness := (true, "af2c91a0d71cf391d36f97a4dc3d353ffad63a84638a18d9c3b83eb702c8939f"), looks := false }, kinds := [], alts := [], laidByText := true, laidKinds := [.sentinel], laidTests := true, laidLooks := .later }
def OctetsLaterUptoCardSaid : Prop := Claim7.holds Tryd.pinned (.plain (OpenSpec.upto octetsLaterSpec)) octetsLaterUptoCard

/-- THE SECOND FORM's CARD OF 'lamplightlaw01.OctetsStays'. -/
def octetsStaysUptoCard : Claim7 := { stood := { row := octetsStaysUptoRow, standIns := [], harness := (true, "af2c91a0d71cf391d36f97a4dc3d353ffad63a84638a18d9c3b83eb702c8939f"), looks := false }, kinds := [], alts := [], laidByText := true, laidKinds := [.sentinel], laidTests := true, laidLooks := .later }
def OctetsStaysUptoCardSaid : Prop := Claim7.holds Tryd.pinned (.plain (OpenSpec.upto octetsStaysSpec)) octetsStaysUptoCard

/-- THE SECOND FORM's CARD OF 'lamplightlaw01.OctetsCuts'. -/
def octetsCutsUptoCard : Claim7 := { stood := { row := octetsCutsUptoRow, standIns := [], harness := (true, "af2c91a0d71cf391d36f97a4dc3d353ffad63a84638a18d9c3b83eb702c8939f"), looks := false }, kinds := [], alts := [], laidByText := true, laidKinds := [.sentinel], laidTests := true, laidLooks := .later }
def OctetsCutsUptoCardSaid : Prop := Claim7.holds Tryd.pinned (.plain (OpenSpec.upto octetsCutsSpec)) octetsCutsUptoCard

/-- THE SECOND FORM's CARD OF 'lamplightlaw01.OctetsBack'. -/
def octetsBackUptoCard : Claim7 := { stood := { row := octetsBackUptoRow, standIns := [], harness := (true, "af2c91a0d71cf391d36f97a4dc3d353ffad63a84638a18d9c3b83eb702c8939f"), looks := false }, kinds := [], alts := [], laidByText := true, laidKinds := [.sentinel], laidTests := true, laidLooks := .later }
def OctetsBackUptoCardSaid : Prop := Claim7.holds Tryd.pinned (.plain (OpenSpec.upto octetsBackSpec)) octetsBackUptoCard

/-- THE SECOND FORM's CARD OF 'lamplightlaw01.OctetsNumbers'. -/
def octetsNumbersUptoCard : Claim7 := { stood := { row := octetsNumbersUptoRow, standIns := [], harness := (true, "af2c91a0d71cf391d36f97a4dc3d353ffad63a84638a18d9c3b83eb702c8939f"), looks := false }, kinds := [], alts := [], laidByText := true, laidKinds := [.sentinel], laidTests := true, laidLooks := .later }
def OctetsNumbersUptoCardSaid : Prop := Claim7.holds Tryd.pinned (.plain (OpenSpec.upto octetsNumbersSpec)) octetsNumbersUptoCard

/-- THE SECOND FORM's CARD OF 'lamplightlaw01.OctetsReads'. -/
def octetsReadsUptoCard : Claim7 := { stood := { row := octetsReadsUptoRow, standIns := [], harness := (true, "af2c91a0d71cf391d36f97a4dc3d353ffad63a84638a18d9c3b83eb702c8939f"), looks := false }, kinds := [], alts := [], laidByText := true, laidKinds := [.sentinel], laidTests := true, laidLooks := .later }
def OctetsReadsUptoCardSaid : Prop := Claim7.holds Tryd.pinned (.plain (OpenSpec.upto octetsReadsSpec)) octetsReadsUptoCard
end Rows
end Go.Proofs.YtfpjooekpjhbpaaDoor
