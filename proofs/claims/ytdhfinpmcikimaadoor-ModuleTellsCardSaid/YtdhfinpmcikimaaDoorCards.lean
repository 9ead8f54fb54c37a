/-
  DERIVED. GIVEN WITH THE SEED: THE CARDS: each row of YtdhfinpmcikimaaDoorRows.lean that lists a variable, with what it lists TIED to the program's text (the seventh form; the later family's looks); each row that meets fmt, with fmt's text TOLD by the authors' own Lean function (tested against real Go, not proved from fmt's source: count such statements apart). THE CARD IS WHAT COUNTS. Prove the row's statement (the work); the ties are given (YtdhfinpmcikimaaDoorTie.lean); close each card by the builder's one call (the guide's Derived/Test/ToyasCard.lean, 'card_holds'). Laid BY PROGRAM, IN A SANDBOX (cutbox-door.mjs). By AI agents, Wed Nov 11 2026. No macro, syntax, notation, axiom, sorry.
-/
import Derived.Test.YtdhfinpmcikimaaDoorRows
import GoSem.ClaimSeven
namespace Go.Proofs.YtdhfinpmcikimaaDoor
namespace Rows

/-- THE TIED CARD OF 'lamplightlaw11.ModuleBytes'. -/
def moduleBytesCard : Claim7 := { stood := { row := moduleBytesRow, standIns := [], harness := (true, "62d46cf228e96da6dca260a927adc7b5869793804f344667e719990d7b52bad6"), looks := false }, kinds := [], alts := [], laidByText := true, laidKinds := [.sentinel, .mapped], laidTests := true, laidLooks := .later }
def ModuleBytesCardSaid : Prop := Claim7.holds Tryd.pinned (.plain (OpenSpec.ofChange moduleBytesSpec)) moduleBytesCard

/-- THE TIED CARD OF 'lamplightlaw11.ModuleOnce'. -/
def moduleOnceCard : Claim7 := { stood := { row := moduleOnceRow, standIns := [], harness := (true, "62d46cf228e96da6dca260a927adc7b5869793804f344667e719990d7b52bad6"), looks := false }, kinds := [], alts := [], laidByText := true, laidKinds := [.sentinel, .mapped], laidTests := true, laidLooks := .later }
def ModuleOnceCardSaid : Prop := Claim7.holds Tryd.pinned (.plain (OpenSpec.ofChange moduleOnceSpec)) moduleOnceCard

/-- THE TIED CARD OF 'lamplightlaw11.ModuleSame'. -/
def moduleSameCard : Claim7 := { stood := { row := moduleSameRow, standIns := [], harness := (true, "62d46cf228e96da6dca260a927adc7b5869793804f344667e719990d7b52bad6"), looks := false }, kinds := [], alts := [], laidByText := true, laidKinds := [.sentinel, .mapped], laidTests := true, laidLooks := .later }
def ModuleSameCardSaid : Prop := Claim7.holds Tryd.pinned (.plain (OpenSpec.ofChange moduleSameSpec)) moduleSameCard

/-- THE TIED CARD OF 'lamplightlaw11.ModuleDark'. -/
def moduleDarkCard : Claim7 := { stood := { row := moduleDarkRow, standIns := [], harness := (true, "62d46cf228e96da6dca260a927adc7b5869793804f344667e719990d7b52bad6"), looks := false }, kinds := [], alts := [], laidByText := true, laidKinds := [.sentinel, .mapped], laidTests := true, laidLooks := .later }
def ModuleDarkCardSaid : Prop := Claim7.holds Tryd.pinned (.plain (OpenSpec.ofChange moduleDarkSpec)) moduleDarkCard

/-- THE TIED CARD OF 'lamplightlaw11.ModuleReset'. -/
def moduleResetCard : Claim7 := { stood := { row := moduleResetRow, standIns := [], harness := (true, "62d46cf228e96da6dca260a927adc7b5869793804f344667e719990d7b52bad6"), looks := false }, kinds := [], alts := [], laidByText := true, laidKinds := [.sentinel, .mapped], laidTests := true, laidLooks := .later }
def ModuleResetCardSaid : Prop := Claim7.holds Tryd.pinned (.plain (OpenSpec.ofChange moduleResetSpec)) moduleResetCard

/-- THE TIED CARD OF 'lamplightlaw11.ModuleTells'. -/
def moduleTellsCard : Claim7 := { stood := { row := moduleTellsRow, standIns := [], harness := (true, "62d46cf228e96da6dca260a927adc7b5869793804f344667e719990d7b52bad6"), looks := false }, kinds := [], alts := [], laidByText := true, laidKinds := [.sentinel, .mapped], laidTests := true, laidLooks := .later }
def ModuleTellsCardSaid : Prop := Claim7.holds Tryd.pinned (.plain (OpenSpec.ofChange moduleTellsSpec)) moduleTellsCard

/-- THE SECOND FORM's CARD OF 'lamplightlaw11.ModuleBytes'. -/
def moduleBytesUptoCard : Claim7 := { stood := { row := moduleBytesUptoRow, standIns := [], harness := (true, "62d46cf228e96da6dca260a927adc7b5869793804f344667e719990d7b52bad6"), looks := false }, kinds := [], alts := [], laidByText := true, laidKinds := [.sentinel, .mapped], laidTests := true, laidLooks := .later }
def ModuleBytesUptoCardSaid : Prop := Claim7.holds Tryd.pinned (.plain (OpenSpec.upto moduleBytesSpec)) moduleBytesUptoCard

/-- THE SECOND FORM's CARD OF 'lamplightlaw11.ModuleOnce'. -/
def moduleOnceUptoCard : Claim7 := { stood := { row := moduleOnceUptoRow, standIns := [], harness := (true, "62d46cf228e96da6dca260a927adc7b5869793804f344667e719990d7b52bad6"), looks := false }, kinds := [], alts := [], laidByText := true, laidKinds := [.sentinel, .mapped], laidTests := true, laidLooks := .later }
def ModuleOnceUptoCardSaid : Prop := Claim7.holds Tryd.pinned (.plain (OpenSpec.upto moduleOnceSpec)) moduleOnceUptoCard

/-- THE SECOND FORM's CARD OF 'lamplightlaw11.ModuleSame'. -/
def moduleSameUptoCard : Claim7 := { stood := { row := moduleSameUptoRow, standIns := [], harness := (true, "62d46cf228e96da6dca260a927adc7b5869793804f344667e719990d7b52bad6"), looks := false }, kinds := [], alts := [], laidByText := true, laidKinds := [.sentinel, .mapped], laidTests := true, laidLooks := .later }
def ModuleSameUptoCardSaid : Prop := Claim7.holds Tryd.pinned (.plain (OpenSpec.upto moduleSameSpec)) moduleSameUptoCard

/-- THE SECOND FORM's CARD OF 'lamplightlaw11.ModuleDark'. -/
def moduleDarkUptoCard : Claim7 := { stood := { row := moduleDarkUptoRow, standIns := [], harness := (true, "62d46cf228e96da6dca260a927adc7b5869793804f344667e719990d7b52bad6"), looks := false }, kinds := [], alts := [], laidByText := true, laidKinds := [.sentinel, .mapped], laidTests := true, laidLooks := .later }
def ModuleDarkUptoCardSaid : Prop := Claim7.holds Tryd.pinned (.plain (OpenSpec.upto moduleDarkSpec)) moduleDarkUptoCard

/-- THE SECOND FORM's CARD OF 'lamplightlaw11.ModuleReset'. -/
def moduleResetUptoCard : Claim7 := { stood := { row := moduleResetUptoRow, standIns := [], harness := (true, "62d46cf228e96da6dca260a927adc7b5869793804f344667e719990d7b52bad6"), looks := false }, kinds := [], alts := [], laidByText := true, laidKinds := [.sentinel, .mapped], laidTests := true, laidLooks := .later }
def ModuleResetUptoCardSaid : Prop := Claim7.holds Tryd.pinned (.plain (OpenSpec.upto moduleResetSpec)) moduleResetUptoCard

/-- THE SECOND FORM's CARD OF 'lamplightlaw11.ModuleTells'. -/
def moduleTellsUptoCard : Claim7 := { stood := { row := moduleTellsUptoRow, standIns := [], harness := (true, "62d46cf228e96da6dca260a927adc7b5869793804f344667e719990d7b52bad6"), looks := false }, kinds := [], alts := [], laidByText := true, laidKinds := [.sentinel, .mapped], laidTests := true, laidLooks := .later }
def ModuleTellsUptoCardSaid : Prop := Claim7.holds Tryd.pinned (.plain (OpenSpec.upto moduleTellsSpec)) moduleTellsUptoCard
end Rows
end Go.Proofs.YtdhfinpmcikimaaDoor
