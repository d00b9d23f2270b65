/-
  DERIVED. GIVEN WITH THE SEED: THE CARDS: each row of YtheimopjglkgjaaGreatDoorRows.lean that lists a variable, with what it lists TIED to the program's text (the seventh form; the later family's looks); each row that meets fmt, with fmt's text TOLD by the authors' own Lean function (tested against real Go, not proved from fmt's source: count such statements apart). THE CARD IS WHAT COUNTS. Prove the row's statement (the work); the ties are given (YtheimopjglkgjaaGreatDoorTie.lean); close each card by the builder's one call (the guide's Derived/Test/ToyasCard.lean, 'card_holds'). Laid BY PROGRAM, IN A SANDBOX (cutbox-door.mjs). By AI agents, Wed Nov 11 2026. No macro, syntax, notation, axiom, sorry.
-/
import Derived.Test.YtheimopjglkgjaaGreatDoorRows
import GoSem.ClaimSeven
namespace Go.Proofs.YtheimopjglkgjaaGreatDoor
namespace Rows

/-- THE TIED CARD OF 'tarifflaw10.ExprApart'. -/
def exprApartCard : Claim7 := { stood := { row := exprApartRow, standIns := [], harness := (true, "703d441084d96d3b304d8ac454485244ec74a63a7c6ab2e585fa757c14e6b518"), looks := true }, kinds := [], alts := [], laidByText := true, laidKinds := [.data, .data, .data, .data, .sentinel, .sentinel, .pinned], laidTests := true, laidLooks := .later }
def ExprApartCardSaid : Prop := Claim7.holds Tryz.pinned (.plain (OpenSpec.ofChange exprApartSpec)) exprApartCard

/-- THE TIED CARD OF 'tarifflaw13.CheckJoins'. -/
def checkJoinsCard : Claim7 := { stood := { row := checkJoinsRow, standIns := [], harness := (true, "703d441084d96d3b304d8ac454485244ec74a63a7c6ab2e585fa757c14e6b518"), looks := true }, kinds := [], alts := [], laidByText := true, laidKinds := [.data, .data, .data, .data, .sentinel, .sentinel, .pinned], laidTests := true, laidLooks := .later }
def CheckJoinsCardSaid : Prop := Claim7.holds Tryz.pinned (.plain (OpenSpec.ofChange checkJoinsSpec)) checkJoinsCard

/-- THE TIED CARD OF 'tarifflaw13.CheckIns'. -/
def checkInsCard : Claim7 := { stood := { row := checkInsRow, standIns := [], harness := (true, "703d441084d96d3b304d8ac454485244ec74a63a7c6ab2e585fa757c14e6b518"), looks := true }, kinds := [], alts := [], laidByText := true, laidKinds := [.data, .data, .data, .data, .sentinel, .sentinel, .pinned], laidTests := true, laidLooks := .later }
def CheckInsCardSaid : Prop := Claim7.holds Tryz.pinned (.plain (OpenSpec.ofChange checkInsSpec)) checkInsCard

/-- THE SECOND FORM's CARD OF 'tarifflaw10.ExprApart'. -/
def exprApartUptoCard : Claim7 := { stood := { row := exprApartUptoRow, standIns := [], harness := (true, "703d441084d96d3b304d8ac454485244ec74a63a7c6ab2e585fa757c14e6b518"), looks := true }, kinds := [], alts := [], laidByText := true, laidKinds := [.data, .data, .data, .data, .sentinel, .sentinel, .pinned], laidTests := true, laidLooks := .later }
def ExprApartUptoCardSaid : Prop := Claim7.holds Tryz.pinned (.plain (OpenSpec.upto exprApartSpec)) exprApartUptoCard

/-- THE SECOND FORM's CARD OF 'tarifflaw13.CheckJoins'. -/
def checkJoinsUptoCard : Claim7 := { stood := { row := checkJoinsUptoRow, standIns := [], harness := (true, "703d441084d96d3b304d8ac454485244ec74a63a7c6ab2e585fa757c14e6b518"), looks := true }, kinds := [], alts := [], laidByText := true, laidKinds := [.data, .data, .data, .data, .sentinel, .sentinel, .pinned], laidTests := true, laidLooks := .later }
def CheckJoinsUptoCardSaid : Prop := Claim7.holds Tryz.pinned (.plain (OpenSpec.upto checkJoinsSpec)) checkJoinsUptoCard

/-- THE SECOND FORM's CARD OF 'tarifflaw13.CheckIns'. -/
def checkInsUptoCard : Claim7 := { stood := { row := checkInsUptoRow, standIns := [], harness := (true, "703d441084d96d3b304d8ac454485244ec74a63a7c6ab2e585fa757c14e6b518"), looks := true }, kinds := [], alts := [], laidByText := true, laidKinds := [.data, .data, .data, .data, .sentinel, .sentinel, .pinned], laidTests := true, laidLooks := .later }
def CheckInsUptoCardSaid : Prop := Claim7.holds Tryz.pinned (.plain (OpenSpec.upto checkInsSpec)) checkInsUptoCard
end Rows
end Go.Proofs.YtheimopjglkgjaaGreatDoor
