/-
  DERIVED. GIVEN WITH THE SEED: THE CARDS: each row of YtjjgiigbhjfkaaaGreatDoorRows.lean that lists a variable, with what it lists TIED to the program's text (the seventh form; the later family's looks); each row that meets fmt, with fmt's text TOLD by the authors' own Lean function (tested against real Go, not proved from fmt's source: count such statements apart). THE CARD IS WHAT COUNTS. Prove the row's statement (the work); the ties are given (YtjjgiigbhjfkaaaGreatDoorTie.lean); close each card by the builder's one call (the guide's Derived/Test/ToyasCard.lean, 'card_holds'). Laid BY PROGRAM, IN A SANDBOX (cutbox-door.mjs). By AI agents, Wed Nov 11 2026. No macro, syntax, notation, axiom, sorry.
-/
import Derived.Test.YtjjgiigbhjfkaaaGreatDoorRows
import GoSem.ClaimSeven
namespace Go.Proofs.YtjjgiigbhjfkaaaGreatDoor
namespace Rows

/-- THE TIED CARD OF 'cupellaw16.ModuleCircles'. -/
def moduleCirclesCard : Claim7 := { stood := { row := moduleCirclesRow, standIns := [], harness := (true, "6ca5ee0ea9b9ee42fce2d21be48103703e8d759a47502e1925668f466b78608c"), looks := true }, kinds := [], alts := [], laidByText := true, laidKinds := [.data, .data, .data, .sentinel, .sentinel], laidTests := true, laidLooks := .later }
def ModuleCirclesCardSaid : Prop := Claim7.holds Tryz.pinned (.plain (OpenSpec.ofChange moduleCirclesSpec)) moduleCirclesCard

/-- THE TIED CARD OF 'cupellaw23.ReportSums'. -/
def reportSumsCard : Claim7 := { stood := { row := reportSumsRow, standIns := [], harness := (true, "6ca5ee0ea9b9ee42fce2d21be48103703e8d759a47502e1925668f466b78608c"), looks := true }, kinds := [], alts := [], laidByText := true, laidKinds := [.data, .data, .data, .sentinel, .sentinel], laidTests := true, laidLooks := .later }
def ReportSumsCardSaid : Prop := Claim7.holds Tryz.pinned (.plain (OpenSpec.ofChange reportSumsSpec)) reportSumsCard

/-- THE TIED CARD OF 'cupellaw21.ScriptEmpty'. -/
def scriptEmptyCard : Claim7 := { stood := { row := scriptEmptyRow, standIns := [], harness := (true, "6ca5ee0ea9b9ee42fce2d21be48103703e8d759a47502e1925668f466b78608c"), looks := true }, kinds := [], alts := [], laidByText := true, laidKinds := [.data, .data, .data, .data, .sentinel, .sentinel, .pinned], laidTests := true, laidLooks := .later }
def ScriptEmptyCardSaid : Prop := Claim7.holds Tryz.pinned (.plain (OpenSpec.ofChange scriptEmptySpec)) scriptEmptyCard

/-- THE SECOND FORM's CARD OF 'cupellaw16.ModuleCircles'. -/
def moduleCirclesUptoCard : Claim7 := { stood := { row := moduleCirclesUptoRow, standIns := [], harness := (true, "6ca5ee0ea9b9ee42fce2d21be48103703e8d759a47502e1925668f466b78608c"), looks := true }, kinds := [], alts := [], laidByText := true, laidKinds := [.data, .data, .data, .sentinel, .sentinel], laidTests := true, laidLooks := .later }
def ModuleCirclesUptoCardSaid : Prop := Claim7.holds Tryz.pinned (.plain (OpenSpec.upto moduleCirclesSpec)) moduleCirclesUptoCard

/-- THE SECOND FORM's CARD OF 'cupellaw23.ReportSums'. -/
def reportSumsUptoCard : Claim7 := { stood := { row := reportSumsUptoRow, standIns := [], harness := (true, "6ca5ee0ea9b9ee42fce2d21be48103703e8d759a47502e1925668f466b78608c"), looks := true }, kinds := [], alts := [], laidByText := true, laidKinds := [.data, .data, .data, .sentinel, .sentinel], laidTests := true, laidLooks := .later }
def ReportSumsUptoCardSaid : Prop := Claim7.holds Tryz.pinned (.plain (OpenSpec.upto reportSumsSpec)) reportSumsUptoCard

/-- THE SECOND FORM's CARD OF 'cupellaw21.ScriptEmpty'. -/
def scriptEmptyUptoCard : Claim7 := { stood := { row := scriptEmptyUptoRow, standIns := [], harness := (true, "6ca5ee0ea9b9ee42fce2d21be48103703e8d759a47502e1925668f466b78608c"), looks := true }, kinds := [], alts := [], laidByText := true, laidKinds := [.data, .data, .data, .data, .sentinel, .sentinel, .pinned], laidTests := true, laidLooks := .later }
def ScriptEmptyUptoCardSaid : Prop := Claim7.holds Tryz.pinned (.plain (OpenSpec.upto scriptEmptySpec)) scriptEmptyUptoCard
end Rows
end Go.Proofs.YtjjgiigbhjfkaaaGreatDoor
