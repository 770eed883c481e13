/-
  DERIVED. GIVEN WITH THE SEED: THE CARDS: each row of YthgmpflfgicmbaaDoorRows.lean that lists a variable, with what it lists TIED to the program's text (the seventh form; the later family's looks); each row that meets fmt, with fmt's text TOLD by the authors' own Lean function (tested against real Go, not proved from fmt's source: count such statements apart). THE CARD IS WHAT COUNTS. Prove the row's statement (the work); the ties are given (YthgmpflfgicmbaaDoorTie.lean); close each card by the builder's one call (the guide's Derived/Test/ToyasCard.lean, 'card_holds'). Laid BY PROGRAM, IN A SANDBOX (cutbox-door.mjs). By AI agents, Wed Nov 11 2026. No macro, syntax, notation, axiom, sorry.
-/
import Derived.Test.YthgmpflfgicmbaaDoorRows
import GoSem.ClaimSeven
namespace Go.Proofs.YthgmpflfgicmbaaDoor
namespace Rows

/-- THE TIED CARD OF 'gossamerlaw01.LexTells'. -/
def lexTellsCard : Claim7 := { stood := { row := lexTellsRow, standIns := [], harness := (true, "ee9e3df26aa4b29dcb24482996a2299911ee829b7d37b92127dbab7bc3dfb71d"), looks := true }, kinds := [], alts := [], laidByText := true, laidKinds := [.data, .data, .data, .data, .sentinel, .sentinel, .pinned], laidTests := true, laidLooks := .later }
def LexTellsCardSaid : Prop := Claim7.holds Tryd.pinned (.plain (OpenSpec.ofChange lexTellsSpec)) lexTellsCard

/-- THE TIED CARD OF 'gossamerlaw01.LexAgain'. -/
def lexAgainCard : Claim7 := { stood := { row := lexAgainRow, standIns := [], harness := (true, "ee9e3df26aa4b29dcb24482996a2299911ee829b7d37b92127dbab7bc3dfb71d"), looks := true }, kinds := [], alts := [], laidByText := true, laidKinds := [.data, .data, .data, .data, .sentinel, .sentinel, .pinned], laidTests := true, laidLooks := .later }
def LexAgainCardSaid : Prop := Claim7.holds Tryd.pinned (.plain (OpenSpec.ofChange lexAgainSpec)) lexAgainCard

/-- THE TIED CARD OF 'gossamerlaw01.LexStands'. -/
def lexStandsCard : Claim7 := { stood := { row := lexStandsRow, standIns := [], harness := (true, "ee9e3df26aa4b29dcb24482996a2299911ee829b7d37b92127dbab7bc3dfb71d"), looks := true }, kinds := [], alts := [], laidByText := true, laidKinds := [.data, .data, .data, .data, .sentinel, .sentinel, .pinned], laidTests := true, laidLooks := .later }
def LexStandsCardSaid : Prop := Claim7.holds Tryd.pinned (.plain (OpenSpec.ofChange lexStandsSpec)) lexStandsCard

/-- THE TIED CARD OF 'gossamerlaw01.LexBoth'. -/
def lexBothCard : Claim7 := { stood := { row := lexBothRow, standIns := [], harness := (true, "ee9e3df26aa4b29dcb24482996a2299911ee829b7d37b92127dbab7bc3dfb71d"), looks := true }, kinds := [], alts := [], laidByText := true, laidKinds := [.data, .data, .data, .data, .sentinel, .sentinel, .pinned], laidTests := true, laidLooks := .later }
def LexBothCardSaid : Prop := Claim7.holds Tryd.pinned (.plain (OpenSpec.ofChange lexBothSpec)) lexBothCard

/-- THE TIED CARD OF 'gossamerlaw01.LexSpaces'. -/
def lexSpacesCard : Claim7 := { stood := { row := lexSpacesRow, standIns := [], harness := (true, "ee9e3df26aa4b29dcb24482996a2299911ee829b7d37b92127dbab7bc3dfb71d"), looks := true }, kinds := [], alts := [], laidByText := true, laidKinds := [.data, .data, .data, .data, .sentinel, .sentinel, .pinned], laidTests := true, laidLooks := .later }
def LexSpacesCardSaid : Prop := Claim7.holds Tryd.pinned (.plain (OpenSpec.ofChange lexSpacesSpec)) lexSpacesCard

/-- THE TIED CARD OF 'gossamerlaw01.LexKinds'. -/
def lexKindsCard : Claim7 := { stood := { row := lexKindsRow, standIns := [], harness := (true, "ee9e3df26aa4b29dcb24482996a2299911ee829b7d37b92127dbab7bc3dfb71d"), looks := true }, kinds := [], alts := [], laidByText := true, laidKinds := [.data, .data, .data, .data, .sentinel, .sentinel, .pinned], laidTests := true, laidLooks := .later }
def LexKindsCardSaid : Prop := Claim7.holds Tryd.pinned (.plain (OpenSpec.ofChange lexKindsSpec)) lexKindsCard

/-- THE SECOND FORM's CARD OF 'gossamerlaw01.LexTells'. -/
def lexTellsUptoCard : Claim7 := { stood := { row := lexTellsUptoRow, standIns := [], harness := (true, "ee9e3df26aa4b29dcb24482996a2299911ee829b7d37b92127dbab7bc3dfb71d"), looks := true }, kinds := [], alts := [], laidByText := true, laidKinds := [.data, .data, .data, .data, .sentinel, .sentinel, .pinned], laidTests := true, laidLooks := .later }
def LexTellsUptoCardSaid : Prop := Claim7.holds Tryd.pinned (.plain (OpenSpec.upto lexTellsSpec)) lexTellsUptoCard

/-- THE SECOND FORM's CARD OF 'gossamerlaw01.LexAgain'. -/
def lexAgainUptoCard : Claim7 := { stood := { row := lexAgainUptoRow, standIns := [], harness := (true, "ee9e3df26aa4b29dcb24482996a2299911ee829b7d37b92127dbab7bc3dfb71d"), looks := true }, kinds := [], alts := [], laidByText := true, laidKinds := [.data, .data, .data, .data, .sentinel, .sentinel, .pinned], laidTests := true, laidLooks := .later }
def LexAgainUptoCardSaid : Prop := Claim7.holds Tryd.pinned (.plain (OpenSpec.upto lexAgainSpec)) lexAgainUptoCard

/-- THE SECOND FORM's CARD OF 'gossamerlaw01.LexStands'. -/
def lexStandsUptoCard : Claim7 := { stood := { row := lexStandsUptoRow, standIns := [], harness := (true, "ee9e3df26aa4b29dcb24482996a2299911ee829b7d37b92127dbab7bc3dfb71d"), looks := true }, kinds := [], alts := [], laidByText := true, laidKinds := [.data, .data, .data, .data, .sentinel, .sentinel, .pinned], laidTests := true, laidLooks := .later }
def LexStandsUptoCardSaid : Prop := Claim7.holds Tryd.pinned (.plain (OpenSpec.upto lexStandsSpec)) lexStandsUptoCard

/-- THE SECOND FORM's CARD OF 'gossamerlaw01.LexBoth'. -/
def lexBothUptoCard : Claim7 := { stood := { row := lexBothUptoRow, standIns := [], harness := (true, "ee9e3df26aa4b29dcb24482996a2299911ee829b7d37b92127dbab7bc3dfb71d"), looks := true }, kinds := [], alts := [], laidByText := true, laidKinds := [.data, .data, .data, .data, .sentinel, .sentinel, .pinned], laidTests := true, laidLooks := .later }
def LexBothUptoCardSaid : Prop := Claim7.holds Tryd.pinned (.plain (OpenSpec.upto lexBothSpec)) lexBothUptoCard

/-- THE SECOND FORM's CARD OF 'gossamerlaw01.LexSpaces'. -/
def lexSpacesUptoCard : Claim7 := { stood := { row := lexSpacesUptoRow, standIns := [], harness := (true, "ee9e3df26aa4b29dcb24482996a2299911ee829b7d37b92127dbab7bc3dfb71d"), looks := true }, kinds := [], alts := [], laidByText := true, laidKinds := [.data, .data, .data, .data, .sentinel, .sentinel, .pinned], laidTests := true, laidLooks := .later }
def LexSpacesUptoCardSaid : Prop := Claim7.holds Tryd.pinned (.plain (OpenSpec.upto lexSpacesSpec)) lexSpacesUptoCard

/-- THE SECOND FORM's CARD OF 'gossamerlaw01.LexKinds'. -/
def lexKindsUptoCard : Claim7 := { stood := { row := lexKindsUptoRow, standIns := [], harness := (true, "ee9e3df26aa4b29dcb24482996a2299911ee829b7d37b92127dbab7bc3dfb71d"), looks := true }, kinds := [], alts := [], laidByText := true, laidKinds := [.data, .data, .data, .data, .sentinel, .sentinel, .pinned], laidTests := true, laidLooks := .later }
def LexKindsUptoCardSaid : Prop := Claim7.holds Tryd.pinned (.plain (OpenSpec.upto lexKindsSpec)) lexKindsUptoCard
end Rows
end Go.Proofs.YthgmpflfgicmbaaDoor
