/-
  DERIVED. GIVEN WITH THE SEED: THE CARDS: each row of YtpjcjgikfplgnaaDoorRows.lean that lists a variable, with what it lists TIED to the program's text (the seventh form; the later family's looks); each row that meets fmt, with fmt's text TOLD by the authors' own Lean function (tested against real Go, not proved from fmt's source: count such statements apart). THE CARD IS WHAT COUNTS. Prove the row's statement (the work); the ties are given (YtpjcjgikfplgnaaDoorTie.lean); close each card by the builder's one call (the guide's Derived/Test/ToyasCard.lean, 'card_holds'). Laid BY PROGRAM, IN A SANDBOX (cutbox-door.mjs). By AI agents, Wed Nov 11 2026. No macro, syntax, notation, axiom, sorry.
-/
import Derived.Test.YtpjcjgikfplgnaaDoorRows
import GoSem.ClaimSeven
namespace Go.Proofs.YtpjcjgikfplgnaaDoor
namespace Rows

/-- THE TIED CARD OF 'tarifflaw13.CheckFunctions'. -/
def checkFunctionsCard : Claim7 := { stood := { row := checkFunctionsRow, standIns := [], harness := (true, "07240594a98d8441c190ad576fd84b19a9c98f8606057d579cb31356810b7d4b"), looks := false }, kinds := [], alts := [], laidByText := true, laidKinds := [.data, .pinned], laidTests := true, laidLooks := .later }
def CheckFunctionsCardSaid : Prop := Claim7.holds Tryd.pinned (.plain (OpenSpec.ofChange checkFunctionsSpec)) checkFunctionsCard

/-- THE TIED CARD OF 'tarifflaw13.CheckExprs'. -/
def checkExprsCard : Claim7 := { stood := { row := checkExprsRow, standIns := [], harness := (true, "07240594a98d8441c190ad576fd84b19a9c98f8606057d579cb31356810b7d4b"), looks := false }, kinds := [], alts := [], laidByText := true, laidKinds := [.data, .pinned], laidTests := true, laidLooks := .later }
def CheckExprsCardSaid : Prop := Claim7.holds Tryd.pinned (.plain (OpenSpec.ofChange checkExprsSpec)) checkExprsCard

/-- THE TIED CARD OF 'tarifflaw13.CheckTests'. -/
def checkTestsCard : Claim7 := { stood := { row := checkTestsRow, standIns := [], harness := (true, "07240594a98d8441c190ad576fd84b19a9c98f8606057d579cb31356810b7d4b"), looks := false }, kinds := [], alts := [], laidByText := true, laidKinds := [.data, .pinned], laidTests := true, laidLooks := .later }
def CheckTestsCardSaid : Prop := Claim7.holds Tryd.pinned (.plain (OpenSpec.ofChange checkTestsSpec)) checkTestsCard

/-- THE TIED CARD OF 'tarifflaw13.CheckApart'. -/
def checkApartCard : Claim7 := { stood := { row := checkApartRow, standIns := [], harness := (true, "07240594a98d8441c190ad576fd84b19a9c98f8606057d579cb31356810b7d4b"), looks := false }, kinds := [], alts := [], laidByText := true, laidKinds := [.data, .pinned], laidTests := true, laidLooks := .later }
def CheckApartCardSaid : Prop := Claim7.holds Tryd.pinned (.plain (OpenSpec.ofChange checkApartSpec)) checkApartCard

/-- THE SECOND FORM's CARD OF 'tarifflaw13.CheckFunctions'. -/
def checkFunctionsUptoCard : Claim7 := { stood := { row := checkFunctionsUptoRow, standIns := [], harness := (true, "07240594a98d8441c190ad576fd84b19a9c98f8606057d579cb31356810b7d4b"), looks := false }, kinds := [], alts := [], laidByText := true, laidKinds := [.data, .pinned], laidTests := true, laidLooks := .later }
def CheckFunctionsUptoCardSaid : Prop := Claim7.holds Tryd.pinned (.plain (OpenSpec.upto checkFunctionsSpec)) checkFunctionsUptoCard

/-- THE SECOND FORM's CARD OF 'tarifflaw13.CheckExprs'. -/
def checkExprsUptoCard : Claim7 := { stood := { row := checkExprsUptoRow, standIns := [], harness := (true, "07240594a98d8441c190ad576fd84b19a9c98f8606057d579cb31356810b7d4b"), looks := false }, kinds := [], alts := [], laidByText := true, laidKinds := [.data, .pinned], laidTests := true, laidLooks := .later }
def CheckExprsUptoCardSaid : Prop := Claim7.holds Tryd.pinned (.plain (OpenSpec.upto checkExprsSpec)) checkExprsUptoCard

/-- THE SECOND FORM's CARD OF 'tarifflaw13.CheckTests'. -/
def checkTestsUptoCard : Claim7 := { stood := { row := checkTestsUptoRow, standIns := [], harness := (true, "07240594a98d8441c190ad576fd84b19a9c98f8606057d579cb31356810b7d4b"), looks := false }, kinds := [], alts := [], laidByText := true, laidKinds := [.data, .pinned], laidTests := true, laidLooks := .later }
def CheckTestsUptoCardSaid : Prop := Claim7.holds Tryd.pinned (.plain (OpenSpec.upto checkTestsSpec)) checkTestsUptoCard

/-- THE SECOND FORM's CARD OF 'tarifflaw13.CheckApart'. -/
def checkApartUptoCard : Claim7 := { stood := { row := checkApartUptoRow, standIns := [], harness := (true, "07240594a98d8441c190ad576fd84b19a9c98f8606057d579cb31356810b7d4b"), looks := false }, kinds := [], alts := [], laidByText := true, laidKinds := [.data, .pinned], laidTests := true, laidLooks := .later }
def CheckApartUptoCardSaid : Prop := Claim7.holds Tryd.pinned (.plain (OpenSpec.upto checkApartSpec)) checkApartUptoCard
end Rows
end Go.Proofs.YtpjcjgikfplgnaaDoor
