/-
  DERIVED. GIVEN WITH THE SEED: THE CARDS: each row of YthdkjfhpbigdpaaDoorRows.lean that lists a variable, with what it lists TIED to the program's text (the seventh form; the later family's looks); each row that meets fmt, with fmt's text TOLD by the authors' own Lean function (tested against real Go, not proved from fmt's source: count such statements apart). THE CARD IS WHAT COUNTS. Prove the row's statement (the work); the ties are given (YthdkjfhpbigdpaaDoorTie.lean); close each card by the builder's one call (the guide's Derived/Test/ToyasCard.lean, 'card_holds'). Laid BY PROGRAM, IN A SANDBOX (cutbox-door.mjs). By AI agents, Wed Nov 11 2026. No macro, syntax, notation, axiom, sorry.
-/
import Derived.Test.YthdkjfhpbigdpaaDoorRows
import GoSem.ClaimSeven
namespace Go.Proofs.YthdkjfhpbigdpaaDoor
namespace Rows

/-- THE TIED CARD OF 'gossamerlaw02.TreeSame'. -/
def treeSameCard : Claim7 := { stood := { row := treeSameRow, standIns := [], harness := (true, "c974f3124d63773a062a21b5cafc55cc2260c1f9bb83e7a9a27e018a3a09017d"), looks := true }, kinds := [], alts := [], laidByText := true, laidKinds := [.data, .data, .data, .data, .sentinel, .sentinel, .listed, .data, .pinned], laidTests := true, laidLooks := .later }
def TreeSameCardSaid : Prop := Claim7.holds Tryd.pinned (.plain (OpenSpec.ofChange treeSameSpec)) treeSameCard

/-- THE TIED CARD OF 'gossamerlaw02.TreeParts'. -/
def treePartsCard : Claim7 := { stood := { row := treePartsRow, standIns := [], harness := (true, "c974f3124d63773a062a21b5cafc55cc2260c1f9bb83e7a9a27e018a3a09017d"), looks := true }, kinds := [], alts := [], laidByText := true, laidKinds := [.data, .data, .data, .data, .sentinel, .sentinel, .listed, .data, .pinned], laidTests := true, laidLooks := .later }
def TreePartsCardSaid : Prop := Claim7.holds Tryd.pinned (.plain (OpenSpec.ofChange treePartsSpec)) treePartsCard

/-- THE TIED CARD OF 'gossamerlaw02.TreeBuilt'. -/
def treeBuiltCard : Claim7 := { stood := { row := treeBuiltRow, standIns := [], harness := (true, "c974f3124d63773a062a21b5cafc55cc2260c1f9bb83e7a9a27e018a3a09017d"), looks := true }, kinds := [], alts := [], laidByText := true, laidKinds := [.data, .data, .data, .data, .sentinel, .sentinel, .listed, .data, .pinned], laidTests := true, laidLooks := .later }
def TreeBuiltCardSaid : Prop := Claim7.holds Tryd.pinned (.plain (OpenSpec.ofChange treeBuiltSpec)) treeBuiltCard

/-- THE TIED CARD OF 'gossamerlaw02.TreeNames'. -/
def treeNamesCard : Claim7 := { stood := { row := treeNamesRow, standIns := [], harness := (true, "c974f3124d63773a062a21b5cafc55cc2260c1f9bb83e7a9a27e018a3a09017d"), looks := true }, kinds := [], alts := [], laidByText := true, laidKinds := [.data, .data, .data, .data, .sentinel, .sentinel, .listed, .data, .pinned], laidTests := true, laidLooks := .later }
def TreeNamesCardSaid : Prop := Claim7.holds Tryd.pinned (.plain (OpenSpec.ofChange treeNamesSpec)) treeNamesCard

/-- THE TIED CARD OF 'gossamerlaw02.TreeAlts'. -/
def treeAltsCard : Claim7 := { stood := { row := treeAltsRow, standIns := [], harness := (true, "c974f3124d63773a062a21b5cafc55cc2260c1f9bb83e7a9a27e018a3a09017d"), looks := true }, kinds := [], alts := [], laidByText := true, laidKinds := [.data, .data, .data, .data, .sentinel, .sentinel, .listed, .data, .pinned], laidTests := true, laidLooks := .later }
def TreeAltsCardSaid : Prop := Claim7.holds Tryd.pinned (.plain (OpenSpec.ofChange treeAltsSpec)) treeAltsCard

/-- THE SECOND FORM's CARD OF 'gossamerlaw02.TreeSame'. -/
def treeSameUptoCard : Claim7 := { stood := { row := treeSameUptoRow, standIns := [], harness := (true, "c974f3124d63773a062a21b5cafc55cc2260c1f9bb83e7a9a27e018a3a09017d"), looks := true }, kinds := [], alts := [], laidByText := true, laidKinds := [.data, .data, .data, .data, .sentinel, .sentinel, .listed, .data, .pinned], laidTests := true, laidLooks := .later }
def TreeSameUptoCardSaid : Prop := Claim7.holds Tryd.pinned (.plain (OpenSpec.upto treeSameSpec)) treeSameUptoCard

/-- THE SECOND FORM's CARD OF 'gossamerlaw02.TreeParts'. -/
def treePartsUptoCard : Claim7 := { stood := { row := treePartsUptoRow, standIns := [], harness := (true, "c974f3124d63773a062a21b5cafc55cc2260c1f9bb83e7a9a27e018a3a09017d"), looks := true }, kinds := [], alts := [], laidByText := true, laidKinds := [.data, .data, .data, .data, .sentinel, .sentinel, .listed, .data, .pinned], laidTests := true, laidLooks := .later }
def TreePartsUptoCardSaid : Prop := Claim7.holds Tryd.pinned (.plain (OpenSpec.upto treePartsSpec)) treePartsUptoCard

/-- THE SECOND FORM's CARD OF 'gossamerlaw02.TreeBuilt'. -/
def treeBuiltUptoCard : Claim7 := { stood := { row := treeBuiltUptoRow, standIns := [], harness := (true, "c974f3124d63773a062a21b5cafc55cc2260c1f9bb83e7a9a27e018a3a09017d"), looks := true }, kinds := [], alts := [], laidByText := true, laidKinds := [.data, .data, .data, .data, .sentinel, .sentinel, .listed, .data, .pinned], laidTests := true, laidLooks := .later }
def TreeBuiltUptoCardSaid : Prop := Claim7.holds Tryd.pinned (.plain (OpenSpec.upto treeBuiltSpec)) treeBuiltUptoCard

/-- THE SECOND FORM's CARD OF 'gossamerlaw02.TreeNames'. -/
def treeNamesUptoCard : Claim7 := { stood := { row := treeNamesUptoRow, standIns := [], harness := (true, "c974f3124d63773a062a21b5cafc55cc2260c1f9bb83e7a9a27e018a3a09017d"), looks := true }, kinds := [], alts := [], laidByText := true, laidKinds := [.data, .data, .data, .data, .sentinel, .sentinel, .listed, .data, .pinned], laidTests := true, laidLooks := .later }
def TreeNamesUptoCardSaid : Prop := Claim7.holds Tryd.pinned (.plain (OpenSpec.upto treeNamesSpec)) treeNamesUptoCard

/-- THE SECOND FORM's CARD OF 'gossamerlaw02.TreeAlts'. -/
def treeAltsUptoCard : Claim7 := { stood := { row := treeAltsUptoRow, standIns := [], harness := (true, "c974f3124d63773a062a21b5cafc55cc2260c1f9bb83e7a9a27e018a3a09017d"), looks := true }, kinds := [], alts := [], laidByText := true, laidKinds := [.data, .data, .data, .data, .sentinel, .sentinel, .listed, .data, .pinned], laidTests := true, laidLooks := .later }
def TreeAltsUptoCardSaid : Prop := Claim7.holds Tryd.pinned (.plain (OpenSpec.upto treeAltsSpec)) treeAltsUptoCard
end Rows
end Go.Proofs.YthdkjfhpbigdpaaDoor
