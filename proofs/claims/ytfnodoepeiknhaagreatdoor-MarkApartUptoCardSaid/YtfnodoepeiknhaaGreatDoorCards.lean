/-
  DERIVED. GIVEN WITH THE SEED: THE CARDS: each row of YtfnodoepeiknhaaGreatDoorRows.lean that lists a variable, with what it lists TIED to the program's text (the seventh form; the later family's looks); each row that meets fmt, with fmt's text TOLD by the authors' own Lean function (tested against real Go, not proved from fmt's source: count such statements apart). THE CARD IS WHAT COUNTS. Prove the row's statement (the work); the ties are given (YtfnodoepeiknhaaGreatDoorTie.lean); close each card by the builder's one call (the guide's Derived/Test/ToyasCard.lean, 'card_holds'). Laid BY PROGRAM, IN A SANDBOX (cutbox-door.mjs). By AI agents, Wed Nov 11 2026. No macro, syntax, notation, axiom, sorry.
-/
import Derived.Test.YtfnodoepeiknhaaGreatDoorRows
import GoSem.ClaimSeven
namespace Go.Proofs.YtfnodoepeiknhaaGreatDoor
namespace Rows

/-- THE TIED CARD OF 'tarifflaw04.CharsEscapes'. -/
def charsEscapesCard : Claim7 := { stood := { row := charsEscapesRow, standIns := [], harness := (true, "44078c309f5032e8c3d38ee30a81af3d5a5e8b247c85397b311d16260b10ed6f"), looks := true }, kinds := [], alts := [], laidByText := true, laidKinds := [.data, .data, .data, .data, .sentinel, .sentinel, .pinned], laidTests := true, laidLooks := .later }
def CharsEscapesCardSaid : Prop := Claim7.holds Tryz.pinned (.plain (OpenSpec.ofChange charsEscapesSpec)) charsEscapesCard

/-- THE TIED CARD OF 'tarifflaw05.MarkNames'. -/
def markNamesCard : Claim7 := { stood := { row := markNamesRow, standIns := [], harness := (true, "44078c309f5032e8c3d38ee30a81af3d5a5e8b247c85397b311d16260b10ed6f"), looks := true }, kinds := [], alts := [], laidByText := true, laidKinds := [.data, .data, .data, .data, .sentinel, .sentinel, .pinned], laidTests := true, laidLooks := .later }
def MarkNamesCardSaid : Prop := Claim7.holds Tryz.pinned (.plain (OpenSpec.ofChange markNamesSpec)) markNamesCard

/-- THE TIED CARD OF 'tarifflaw05.MarkApart'. -/
def markApartCard : Claim7 := { stood := { row := markApartRow, standIns := [], harness := (true, "44078c309f5032e8c3d38ee30a81af3d5a5e8b247c85397b311d16260b10ed6f"), looks := true }, kinds := [], alts := [], laidByText := true, laidKinds := [.data, .data, .data, .data, .sentinel, .sentinel, .pinned], laidTests := true, laidLooks := .later }
def MarkApartCardSaid : Prop := Claim7.holds Tryz.pinned (.plain (OpenSpec.ofChange markApartSpec)) markApartCard

/-- THE TIED CARD OF 'tarifflaw05.MarkSpells'. -/
def markSpellsCard : Claim7 := { stood := { row := markSpellsRow, standIns := [], harness := (true, "44078c309f5032e8c3d38ee30a81af3d5a5e8b247c85397b311d16260b10ed6f"), looks := true }, kinds := [], alts := [], laidByText := true, laidKinds := [.data, .data, .data, .data, .sentinel, .sentinel, .pinned], laidTests := true, laidLooks := .later }
def MarkSpellsCardSaid : Prop := Claim7.holds Tryz.pinned (.plain (OpenSpec.ofChange markSpellsSpec)) markSpellsCard

/-- THE SECOND FORM's CARD OF 'tarifflaw04.CharsEscapes'. -/
def charsEscapesUptoCard : Claim7 := { stood := { row := charsEscapesUptoRow, standIns := [], harness := (true, "44078c309f5032e8c3d38ee30a81af3d5a5e8b247c85397b311d16260b10ed6f"), looks := true }, kinds := [], alts := [], laidByText := true, laidKinds := [.data, .data, .data, .data, .sentinel, .sentinel, .pinned], laidTests := true, laidLooks := .later }
def CharsEscapesUptoCardSaid : Prop := Claim7.holds Tryz.pinned (.plain (OpenSpec.upto charsEscapesSpec)) charsEscapesUptoCard

/-- THE SECOND FORM's CARD OF 'tarifflaw05.MarkNames'. -/
def markNamesUptoCard : Claim7 := { stood := { row := markNamesUptoRow, standIns := [], harness := (true, "44078c309f5032e8c3d38ee30a81af3d5a5e8b247c85397b311d16260b10ed6f"), looks := true }, kinds := [], alts := [], laidByText := true, laidKinds := [.data, .data, .data, .data, .sentinel, .sentinel, .pinned], laidTests := true, laidLooks := .later }
def MarkNamesUptoCardSaid : Prop := Claim7.holds Tryz.pinned (.plain (OpenSpec.upto markNamesSpec)) markNamesUptoCard

/-- THE SECOND FORM's CARD OF 'tarifflaw05.MarkApart'. -/
def markApartUptoCard : Claim7 := { stood := { row := markApartUptoRow, standIns := [], harness := (true, "44078c309f5032e8c3d38ee30a81af3d5a5e8b247c85397b311d16260b10ed6f"), looks := true }, kinds := [], alts := [], laidByText := true, laidKinds := [.data, .data, .data, .data, .sentinel, .sentinel, .pinned], laidTests := true, laidLooks := .later }
def MarkApartUptoCardSaid : Prop := Claim7.holds Tryz.pinned (.plain (OpenSpec.upto markApartSpec)) markApartUptoCard

/-- THE SECOND FORM's CARD OF 'tarifflaw05.MarkSpells'. -/
def markSpellsUptoCard : Claim7 := { stood := { row := markSpellsUptoRow, standIns := [], harness := (true, "44078c309f5032e8c3d38ee30a81af3d5a5e8b247c85397b311d16260b10ed6f"), looks := true }, kinds := [], alts := [], laidByText := true, laidKinds := [.data, .data, .data, .data, .sentinel, .sentinel, .pinned], laidTests := true, laidLooks := .later }
def MarkSpellsUptoCardSaid : Prop := Claim7.holds Tryz.pinned (.plain (OpenSpec.upto markSpellsSpec)) markSpellsUptoCard
end Rows
end Go.Proofs.YtfnodoepeiknhaaGreatDoor
