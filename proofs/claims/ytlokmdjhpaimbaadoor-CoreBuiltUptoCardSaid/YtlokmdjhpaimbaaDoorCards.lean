/-
  DERIVED. GIVEN WITH THE SEED: THE CARDS: each row of YtlokmdjhpaimbaaDoorRows.lean that lists a variable, with what it lists TIED to the program's text (the seventh form; the later family's looks); each row that meets fmt, with fmt's text TOLD by the authors' own Lean function (tested against real Go, not proved from fmt's source: count such statements apart). THE CARD IS WHAT COUNTS. Prove the row's statement (the work); the ties are given (YtlokmdjhpaimbaaDoorTie.lean); close each card by the builder's one call (the guide's Derived/Test/ToyasCard.lean, 'card_holds'). Laid BY PROGRAM, IN A SANDBOX (cutbox-door.mjs). By AI agents, Wed Nov 11 2026. No macro, syntax, notation, axiom, sorry.
-/
import Derived.Test.YtlokmdjhpaimbaaDoorRows
import GoSem.ClaimSeven
namespace Go.Proofs.YtlokmdjhpaimbaaDoor
namespace Rows

/-- THE TIED CARD OF 'gossamerlaw06.CoreTexts'. -/
def coreTextsCard : Claim7 := { stood := { row := coreTextsRow, standIns := [], harness := (true, "da445eae54ff76443c9f03af430fc7cf0c245840d7fcc6f960f03eb23feaf442"), looks := true }, kinds := [], alts := [], laidByText := true, laidKinds := [.data, .data, .data, .data, .sentinel, .sentinel, .pinned], laidTests := true, laidLooks := .later }
def CoreTextsCardSaid : Prop := Claim7.holds Tryd.pinned (.plain (OpenSpec.ofChange coreTextsSpec)) coreTextsCard

/-- THE TIED CARD OF 'gossamerlaw06.CoreSame'. -/
def coreSameCard : Claim7 := { stood := { row := coreSameRow, standIns := [], harness := (true, "da445eae54ff76443c9f03af430fc7cf0c245840d7fcc6f960f03eb23feaf442"), looks := true }, kinds := [], alts := [], laidByText := true, laidKinds := [.data, .data, .data, .data, .sentinel, .sentinel, .pinned], laidTests := true, laidLooks := .later }
def CoreSameCardSaid : Prop := Claim7.holds Tryd.pinned (.plain (OpenSpec.ofChange coreSameSpec)) coreSameCard

/-- THE TIED CARD OF 'gossamerlaw06.CoreParts'. -/
def corePartsCard : Claim7 := { stood := { row := corePartsRow, standIns := [], harness := (true, "da445eae54ff76443c9f03af430fc7cf0c245840d7fcc6f960f03eb23feaf442"), looks := true }, kinds := [], alts := [], laidByText := true, laidKinds := [.data, .data, .data, .data, .sentinel, .sentinel, .pinned], laidTests := true, laidLooks := .later }
def CorePartsCardSaid : Prop := Claim7.holds Tryd.pinned (.plain (OpenSpec.ofChange corePartsSpec)) corePartsCard

/-- THE TIED CARD OF 'gossamerlaw06.CoreBuilt'. -/
def coreBuiltCard : Claim7 := { stood := { row := coreBuiltRow, standIns := [], harness := (true, "da445eae54ff76443c9f03af430fc7cf0c245840d7fcc6f960f03eb23feaf442"), looks := true }, kinds := [], alts := [], laidByText := true, laidKinds := [.data, .data, .data, .data, .sentinel, .sentinel, .pinned], laidTests := true, laidLooks := .later }
def CoreBuiltCardSaid : Prop := Claim7.holds Tryd.pinned (.plain (OpenSpec.ofChange coreBuiltSpec)) coreBuiltCard

/-- THE TIED CARD OF 'gossamerlaw06.CoreOrder'. -/
def coreOrderCard : Claim7 := { stood := { row := coreOrderRow, standIns := [], harness := (true, "da445eae54ff76443c9f03af430fc7cf0c245840d7fcc6f960f03eb23feaf442"), looks := true }, kinds := [], alts := [], laidByText := true, laidKinds := [.data, .data, .data, .data, .sentinel, .sentinel, .pinned], laidTests := true, laidLooks := .later }
def CoreOrderCardSaid : Prop := Claim7.holds Tryd.pinned (.plain (OpenSpec.ofChange coreOrderSpec)) coreOrderCard

/-- THE SECOND FORM's CARD OF 'gossamerlaw06.CoreTexts'. -/
def coreTextsUptoCard : Claim7 := { stood := { row := coreTextsUptoRow, standIns := [], harness := (true, "da445eae54ff76443c9f03af430fc7cf0c245840d7fcc6f960f03eb23feaf442"), looks := true }, kinds := [], alts := [], laidByText := true, laidKinds := [.data, .data, .data, .data, .sentinel, .sentinel, .pinned], laidTests := true, laidLooks := .later }
def CoreTextsUptoCardSaid : Prop := Claim7.holds Tryd.pinned (.plain (OpenSpec.upto coreTextsSpec)) coreTextsUptoCard

/-- THE SECOND FORM's CARD OF 'gossamerlaw06.CoreSame'. -/
def coreSameUptoCard : Claim7 := { stood := { row := coreSameUptoRow, standIns := [], harness := (true, "da445eae54ff76443c9f03af430fc7cf0c245840d7fcc6f960f03eb23feaf442"), looks := true }, kinds := [], alts := [], laidByText := true, laidKinds := [.data, .data, .data, .data, .sentinel, .sentinel, .pinned], laidTests := true, laidLooks := .later }
def CoreSameUptoCardSaid : Prop := Claim7.holds Tryd.pinned (.plain (OpenSpec.upto coreSameSpec)) coreSameUptoCard

/-- THE SECOND FORM's CARD OF 'gossamerlaw06.CoreParts'. -/
def corePartsUptoCard : Claim7 := { stood := { row := corePartsUptoRow, standIns := [], harness := (true, "da445eae54ff76443c9f03af430fc7cf0c245840d7fcc6f960f03eb23feaf442"), looks := true }, kinds := [], alts := [], laidByText := true, laidKinds := [.data, .data, .data, .data, .sentinel, .sentinel, .pinned], laidTests := true, laidLooks := .later }
def CorePartsUptoCardSaid : Prop := Claim7.holds Tryd.pinned (.plain (OpenSpec.upto corePartsSpec)) corePartsUptoCard

/-- THE SECOND FORM's CARD OF 'gossamerlaw06.CoreBuilt'. -/
def coreBuiltUptoCard : Claim7 := { stood := { row := coreBuiltUptoRow, standIns := [], harness := (true, "da445eae54ff76443c9f03af430fc7cf0c245840d7fcc6f960f03eb23feaf442"), looks := true }, kinds := [], alts := [], laidByText := true, laidKinds := [.data, .data, .data, .data, .sentinel, .sentinel, .pinned], laidTests := true, laidLooks := .later }
def CoreBuiltUptoCardSaid : Prop := Claim7.holds Tryd.pinned (.plain (OpenSpec.upto coreBuiltSpec)) coreBuiltUptoCard

/-- THE SECOND FORM's CARD OF 'gossamerlaw06.CoreOrder'. -/
def coreOrderUptoCard : Claim7 := { stood := { row := coreOrderUptoRow, standIns := [], harness := (true, "da445eae54ff76443c9f03af430fc7cf0c245840d7fcc6f960f03eb23feaf442"), looks := true }, kinds := [], alts := [], laidByText := true, laidKinds := [.data, .data, .data, .data, .sentinel, .sentinel, .pinned], laidTests := true, laidLooks := .later }
def CoreOrderUptoCardSaid : Prop := Claim7.holds Tryd.pinned (.plain (OpenSpec.upto coreOrderSpec)) coreOrderUptoCard
end Rows
end Go.Proofs.YtlokmdjhpaimbaaDoor
