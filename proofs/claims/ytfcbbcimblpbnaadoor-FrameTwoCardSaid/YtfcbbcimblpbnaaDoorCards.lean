/-
  DERIVED. GIVEN WITH THE SEED: THE CARDS: each row of YtfcbbcimblpbnaaDoorRows.lean that lists a variable, with what it lists TIED to the program's text (the seventh form; the later family's looks); each row that meets fmt, with fmt's text TOLD by the authors' own Lean function (tested against real Go, not proved from fmt's source: count such statements apart). THE CARD IS WHAT COUNTS. Prove the row's statement (the work); the ties are given (YtfcbbcimblpbnaaDoorTie.lean); close each card by the builder's one call (the guide's Derived/Test/ToyasCard.lean, 'card_holds'). Laid BY PROGRAM, IN A SANDBOX (cutbox-door.mjs). By AI agents, Wed Nov 11 2026. No macro, syntax, notation, axiom, sorry.
-/
import Derived.Test.YtfcbbcimblpbnaaDoorRows
import GoSem.ClaimSeven
namespace Go.Proofs.YtfcbbcimblpbnaaDoor
namespace Rows

/-- THE TIED CARD OF 'lamplightlaw04.FrameBursts'. -/
def frameBurstsCard : Claim7 := { stood := { row := frameBurstsRow, standIns := [], harness := (true, "3387803f84249d8f21ef581e65a307bca232d5fb35a0c2c641c4927a4a9a4c42"), looks := false }, kinds := [], alts := [], laidByText := true, laidKinds := [.sentinel, .data], laidTests := true, laidLooks := .later }
def FrameBurstsCardSaid : Prop := Claim7.holds Tryd.pinned (.plain (OpenSpec.ofChange frameBurstsSpec)) frameBurstsCard

/-- THE TIED CARD OF 'lamplightlaw04.FrameCuts'. -/
def frameCutsCard : Claim7 := { stood := { row := frameCutsRow, standIns := [], harness := (true, "3387803f84249d8f21ef581e65a307bca232d5fb35a0c2c641c4927a4a9a4c42"), looks := false }, kinds := [], alts := [], laidByText := true, laidKinds := [.sentinel, .data], laidTests := true, laidLooks := .later }
def FrameCutsCardSaid : Prop := Claim7.holds Tryd.pinned (.plain (OpenSpec.ofChange frameCutsSpec)) frameCutsCard

/-- THE TIED CARD OF 'lamplightlaw04.FrameNumbers'. -/
def frameNumbersCard : Claim7 := { stood := { row := frameNumbersRow, standIns := [], harness := (true, "3387803f84249d8f21ef581e65a307bca232d5fb35a0c2c641c4927a4a9a4c42"), looks := false }, kinds := [], alts := [], laidByText := true, laidKinds := [.sentinel, .data], laidTests := true, laidLooks := .later }
def FrameNumbersCardSaid : Prop := Claim7.holds Tryd.pinned (.plain (OpenSpec.ofChange frameNumbersSpec)) frameNumbersCard

/-- THE TIED CARD OF 'lamplightlaw04.FrameSealed'. -/
def frameSealedCard : Claim7 := { stood := { row := frameSealedRow, standIns := [], harness := (true, "3387803f84249d8f21ef581e65a307bca232d5fb35a0c2c641c4927a4a9a4c42"), looks := false }, kinds := [], alts := [], laidByText := true, laidKinds := [.sentinel, .data], laidTests := true, laidLooks := .later }
def FrameSealedCardSaid : Prop := Claim7.holds Tryd.pinned (.plain (OpenSpec.ofChange frameSealedSpec)) frameSealedCard

/-- THE TIED CARD OF 'lamplightlaw04.FrameOwn'. -/
def frameOwnCard : Claim7 := { stood := { row := frameOwnRow, standIns := [], harness := (true, "3387803f84249d8f21ef581e65a307bca232d5fb35a0c2c641c4927a4a9a4c42"), looks := false }, kinds := [], alts := [], laidByText := true, laidKinds := [.sentinel, .data], laidTests := true, laidLooks := .later }
def FrameOwnCardSaid : Prop := Claim7.holds Tryd.pinned (.plain (OpenSpec.ofChange frameOwnSpec)) frameOwnCard

/-- THE TIED CARD OF 'lamplightlaw04.FrameTwo'. -/
def frameTwoCard : Claim7 := { stood := { row := frameTwoRow, standIns := [], harness := (true, "3387803f84249d8f21ef581e65a307bca232d5fb35a0c2c641c4927a4a9a4c42"), looks := false }, kinds := [], alts := [], laidByText := true, laidKinds := [.sentinel, .data], laidTests := true, laidLooks := .later }
def FrameTwoCardSaid : Prop := Claim7.holds Tryd.pinned (.plain (OpenSpec.ofChange frameTwoSpec)) frameTwoCard

/-- THE SECOND FORM's CARD OF 'lamplightlaw04.FrameBursts'. -/
def frameBurstsUptoCard : Claim7 := { stood := { row := frameBurstsUptoRow, standIns := [], harness := (true, "3387803f84249d8f21ef581e65a307bca232d5fb35a0c2c641c4927a4a9a4c42"), looks := false }, kinds := [], alts := [], laidByText := true, laidKinds := [.sentinel, .data], laidTests := true, laidLooks := .later }
def FrameBurstsUptoCardSaid : Prop := Claim7.holds Tryd.pinned (.plain (OpenSpec.upto frameBurstsSpec)) frameBurstsUptoCard

/-- THE SECOND FORM's CARD OF 'lamplightlaw04.FrameCuts'. -/
def frameCutsUptoCard : Claim7 := { stood := { row := frameCutsUptoRow, standIns := [], harness := (true, "3387803f84249d8f21ef581e65a307bca232d5fb35a0c2c641c4927a4a9a4c42"), looks := false }, kinds := [], alts := [], laidByText := true, laidKinds := [.sentinel, .data], laidTests := true, laidLooks := .later }
def FrameCutsUptoCardSaid : Prop := Claim7.holds Tryd.pinned (.plain (OpenSpec.upto frameCutsSpec)) frameCutsUptoCard

/-- THE SECOND FORM's CARD OF 'lamplightlaw04.FrameNumbers'. -/
def frameNumbersUptoCard : Claim7 := { stood := { row := frameNumbersUptoRow, standIns := [], harness := (true, "3387803f84249d8f21ef581e65a307bca232d5fb35a0c2c641c4927a4a9a4c42"), looks := false }, kinds := [], alts := [], laidByText := true, laidKinds := [.sentinel, .data], laidTests := true, laidLooks := .later }
def FrameNumbersUptoCardSaid : Prop := Claim7.holds Tryd.pinned (.plain (OpenSpec.upto frameNumbersSpec)) frameNumbersUptoCard

/-- THE SECOND FORM's CARD OF 'lamplightlaw04.FrameSealed'. -/
def frameSealedUptoCard : Claim7 := { stood := { row := frameSealedUptoRow, standIns := [], harness := (true, "3387803f84249d8f21ef581e65a307bca232d5fb35a0c2c641c4927a4a9a4c42"), looks := false }, kinds := [], alts := [], laidByText := true, laidKinds := [.sentinel, .data], laidTests := true, laidLooks := .later }
def FrameSealedUptoCardSaid : Prop := Claim7.holds Tryd.pinned (.plain (OpenSpec.upto frameSealedSpec)) frameSealedUptoCard

/-- THE SECOND FORM's CARD OF 'lamplightlaw04.FrameOwn'. -/
def frameOwnUptoCard : Claim7 := { stood := { row := frameOwnUptoRow, standIns := [], harness := (true, "3387803f84249d8f21ef581e65a307bca232d5fb35a0c2c641c4927a4a9a4c42"), looks := false }, kinds := [], alts := [], laidByText := true, laidKinds := [.sentinel, .data], laidTests := true, laidLooks := .later }
def FrameOwnUptoCardSaid : Prop := Claim7.holds Tryd.pinned (.plain (OpenSpec.upto frameOwnSpec)) frameOwnUptoCard

/-- THE SECOND FORM's CARD OF 'lamplightlaw04.FrameTwo'. -/
def frameTwoUptoCard : Claim7 := { stood := { row := frameTwoUptoRow, standIns := [], harness := (true, "3387803f84249d8f21ef581e65a307bca232d5fb35a0c2c641c4927a4a9a4c42"), looks := false }, kinds := [], alts := [], laidByText := true, laidKinds := [.sentinel, .data], laidTests := true, laidLooks := .later }
def FrameTwoUptoCardSaid : Prop := Claim7.holds Tryd.pinned (.plain (OpenSpec.upto frameTwoSpec)) frameTwoUptoCard
end Rows
end Go.Proofs.YtfcbbcimblpbnaaDoor
