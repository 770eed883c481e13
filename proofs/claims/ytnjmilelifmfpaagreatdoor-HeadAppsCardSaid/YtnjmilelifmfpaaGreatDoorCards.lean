/-
  DERIVED. GIVEN WITH THE SEED: THE CARDS: each row of YtnjmilelifmfpaaGreatDoorRows.lean that lists a variable, with what it lists TIED to the program's text (the seventh form; the later family's looks); each row that meets fmt, with fmt's text TOLD by the authors' own Lean function (tested against real Go, not proved from fmt's source: count such statements apart). THE CARD IS WHAT COUNTS. Prove the row's statement (the work); the ties are given (YtnjmilelifmfpaaGreatDoorTie.lean); close each card by the builder's one call (the guide's Derived/Test/ToyasCard.lean, 'card_holds'). Laid BY PROGRAM, IN A SANDBOX (cutbox-door.mjs). By AI agents, Wed Nov 11 2026. No macro, syntax, notation, axiom, sorry.
-/
import Derived.Test.YtnjmilelifmfpaaGreatDoorRows
import GoSem.ClaimSeven
namespace Go.Proofs.YtnjmilelifmfpaaGreatDoor
namespace Rows

/-- THE TIED CARD OF 'gossamerlaw09.HeadTells'. -/
def headTellsCard : Claim7 := { stood := { row := headTellsRow, standIns := [], harness := (true, "305529867e0743b86d3b4c1e2e4aa7e0a9417f172dec5a6de93f264f7e7a44a6"), looks := true }, kinds := [], alts := [], laidByText := true, laidKinds := [.data, .data, .data, .data, .sentinel, .sentinel, .pinned], laidTests := true, laidLooks := .later }
def HeadTellsCardSaid : Prop := Claim7.holds Tryz.pinned (.plain (OpenSpec.ofChange headTellsSpec)) headTellsCard

/-- THE TIED CARD OF 'gossamerlaw09.HeadRuns'. -/
def headRunsCard : Claim7 := { stood := { row := headRunsRow, standIns := [], harness := (true, "305529867e0743b86d3b4c1e2e4aa7e0a9417f172dec5a6de93f264f7e7a44a6"), looks := true }, kinds := [], alts := [], laidByText := true, laidKinds := [.data, .data, .data, .data, .sentinel, .sentinel, .pinned], laidTests := true, laidLooks := .later }
def HeadRunsCardSaid : Prop := Claim7.holds Tryz.pinned (.plain (OpenSpec.ofChange headRunsSpec)) headRunsCard

/-- THE TIED CARD OF 'gossamerlaw09.HeadFuel'. -/
def headFuelCard : Claim7 := { stood := { row := headFuelRow, standIns := [], harness := (true, "305529867e0743b86d3b4c1e2e4aa7e0a9417f172dec5a6de93f264f7e7a44a6"), looks := true }, kinds := [], alts := [], laidByText := true, laidKinds := [.data, .data, .data, .data, .sentinel, .sentinel, .pinned], laidTests := true, laidLooks := .later }
def HeadFuelCardSaid : Prop := Claim7.holds Tryz.pinned (.plain (OpenSpec.ofChange headFuelSpec)) headFuelCard

/-- THE TIED CARD OF 'gossamerlaw09.HeadLazy'. -/
def headLazyCard : Claim7 := { stood := { row := headLazyRow, standIns := [], harness := (true, "305529867e0743b86d3b4c1e2e4aa7e0a9417f172dec5a6de93f264f7e7a44a6"), looks := true }, kinds := [], alts := [], laidByText := true, laidKinds := [.data, .data, .data, .data, .sentinel, .sentinel, .pinned], laidTests := true, laidLooks := .later }
def HeadLazyCardSaid : Prop := Claim7.holds Tryz.pinned (.plain (OpenSpec.ofChange headLazySpec)) headLazyCard

/-- THE TIED CARD OF 'gossamerlaw09.HeadApps'. -/
def headAppsCard : Claim7 := { stood := { row := headAppsRow, standIns := [], harness := (true, "305529867e0743b86d3b4c1e2e4aa7e0a9417f172dec5a6de93f264f7e7a44a6"), looks := true }, kinds := [], alts := [], laidByText := true, laidKinds := [.data, .data, .data, .data, .sentinel, .sentinel, .pinned], laidTests := true, laidLooks := .later }
def HeadAppsCardSaid : Prop := Claim7.holds Tryz.pinned (.plain (OpenSpec.ofChange headAppsSpec)) headAppsCard

/-- THE TIED CARD OF 'gossamerlaw09.HeadInts'. -/
def headIntsCard : Claim7 := { stood := { row := headIntsRow, standIns := [], harness := (true, "305529867e0743b86d3b4c1e2e4aa7e0a9417f172dec5a6de93f264f7e7a44a6"), looks := true }, kinds := [], alts := [], laidByText := true, laidKinds := [.data, .data, .data, .data, .sentinel, .sentinel, .pinned], laidTests := true, laidLooks := .later }
def HeadIntsCardSaid : Prop := Claim7.holds Tryz.pinned (.plain (OpenSpec.ofChange headIntsSpec)) headIntsCard

/-- THE SECOND FORM's CARD OF 'gossamerlaw09.HeadTells'. -/
def headTellsUptoCard : Claim7 := { stood := { row := headTellsUptoRow, standIns := [], harness := (true, "305529867e0743b86d3b4c1e2e4aa7e0a9417f172dec5a6de93f264f7e7a44a6"), looks := true }, kinds := [], alts := [], laidByText := true, laidKinds := [.data, .data, .data, .data, .sentinel, .sentinel, .pinned], laidTests := true, laidLooks := .later }
def HeadTellsUptoCardSaid : Prop := Claim7.holds Tryz.pinned (.plain (OpenSpec.upto headTellsSpec)) headTellsUptoCard

/-- THE SECOND FORM's CARD OF 'gossamerlaw09.HeadRuns'. -/
def headRunsUptoCard : Claim7 := { stood := { row := headRunsUptoRow, standIns := [], harness := (true, "305529867e0743b86d3b4c1e2e4aa7e0a9417f172dec5a6de93f264f7e7a44a6"), looks := true }, kinds := [], alts := [], laidByText := true, laidKinds := [.data, .data, .data, .data, .sentinel, .sentinel, .pinned], laidTests := true, laidLooks := .later }
def HeadRunsUptoCardSaid : Prop := Claim7.holds Tryz.pinned (.plain (OpenSpec.upto headRunsSpec)) headRunsUptoCard

/-- THE SECOND FORM's CARD OF 'gossamerlaw09.HeadFuel'. -/
def headFuelUptoCard : Claim7 := { stood := { row := headFuelUptoRow, standIns := [], harness := (true, "305529867e0743b86d3b4c1e2e4aa7e0a9417f172dec5a6de93f264f7e7a44a6"), looks := true }, kinds := [], alts := [], laidByText := true, laidKinds := [.data, .data, .data, .data, .sentinel, .sentinel, .pinned], laidTests := true, laidLooks := .later }
def HeadFuelUptoCardSaid : Prop := Claim7.holds Tryz.pinned (.plain (OpenSpec.upto headFuelSpec)) headFuelUptoCard

/-- THE SECOND FORM's CARD OF 'gossamerlaw09.HeadLazy'. -/
def headLazyUptoCard : Claim7 := { stood := { row := headLazyUptoRow, standIns := [], harness := (true, "305529867e0743b86d3b4c1e2e4aa7e0a9417f172dec5a6de93f264f7e7a44a6"), looks := true }, kinds := [], alts := [], laidByText := true, laidKinds := [.data, .data, .data, .data, .sentinel, .sentinel, .pinned], laidTests := true, laidLooks := .later }
def HeadLazyUptoCardSaid : Prop := Claim7.holds Tryz.pinned (.plain (OpenSpec.upto headLazySpec)) headLazyUptoCard

/-- THE SECOND FORM's CARD OF 'gossamerlaw09.HeadApps'. -/
def headAppsUptoCard : Claim7 := { stood := { row := headAppsUptoRow, standIns := [], harness := (true, "305529867e0743b86d3b4c1e2e4aa7e0a9417f172dec5a6de93f264f7e7a44a6"), looks := true }, kinds := [], alts := [], laidByText := true, laidKinds := [.data, .data, .data, .data, .sentinel, .sentinel, .pinned], laidTests := true, laidLooks := .later }
def HeadAppsUptoCardSaid : Prop := Claim7.holds Tryz.pinned (.plain (OpenSpec.upto headAppsSpec)) headAppsUptoCard

/-- THE SECOND FORM's CARD OF 'gossamerlaw09.HeadInts'. -/
def headIntsUptoCard : Claim7 := { stood := { row := headIntsUptoRow, standIns := [], harness := (true, "305529867e0743b86d3b4c1e2e4aa7e0a9417f172dec5a6de93f264f7e7a44a6"), looks := true }, kinds := [], alts := [], laidByText := true, laidKinds := [.data, .data, .data, .data, .sentinel, .sentinel, .pinned], laidTests := true, laidLooks := .later }
def HeadIntsUptoCardSaid : Prop := Claim7.holds Tryz.pinned (.plain (OpenSpec.upto headIntsSpec)) headIntsUptoCard
end Rows
end Go.Proofs.YtnjmilelifmfpaaGreatDoor
