/-
  DERIVED. GIVEN WITH THE SEED: THE CARDS: each row of YtkackccmhghphaaGreatDoorRows.lean that lists a variable, with what it lists TIED to the program's text (the seventh form; the later family's looks); each row that meets fmt, with fmt's text TOLD by the authors' own Lean function (tested against real Go, not proved from fmt's source: count such statements apart). THE CARD IS WHAT COUNTS. Prove the row's statement (the work); the ties are given (YtkackccmhghphaaGreatDoorTie.lean); close each card by the builder's one call (the guide's Derived/Test/ToyasCard.lean, 'card_holds'). Laid BY PROGRAM, IN A SANDBOX (cutbox-door.mjs). By AI agents, Wed Nov 11 2026. No macro, syntax, notation, axiom, sorry.
-/
import Derived.Test.YtkackccmhghphaaGreatDoorRows
import GoSem.ClaimSeven
namespace Go.Proofs.YtkackccmhghphaaGreatDoor
namespace Rows

/-- THE TIED CARD OF 'tarifflaw10.ExprParses'. -/
def exprParsesCard : Claim7 := { stood := { row := exprParsesRow, standIns := [], harness := (true, "6f78a988081e5bb5d381f45b5f8fe68a4e89d512a45421e316d31a7b6d84e345"), looks := true }, kinds := [], alts := [], laidByText := true, laidKinds := [.data, .data, .data, .data, .sentinel, .sentinel, .pinned], laidTests := true, laidLooks := .later }
def ExprParsesCardSaid : Prop := Claim7.holds Tryz.pinned (.plain (OpenSpec.ofChange exprParsesSpec)) exprParsesCard

/-- THE TIED CARD OF 'tarifflaw10.ExprTests'. -/
def exprTestsCard : Claim7 := { stood := { row := exprTestsRow, standIns := [], harness := (true, "6f78a988081e5bb5d381f45b5f8fe68a4e89d512a45421e316d31a7b6d84e345"), looks := true }, kinds := [], alts := [], laidByText := true, laidKinds := [.data, .data, .data, .data, .sentinel, .sentinel, .pinned], laidTests := true, laidLooks := .later }
def ExprTestsCardSaid : Prop := Claim7.holds Tryz.pinned (.plain (OpenSpec.ofChange exprTestsSpec)) exprTestsCard

/-- THE TIED CARD OF 'tarifflaw10.ExprBrackets'. -/
def exprBracketsCard : Claim7 := { stood := { row := exprBracketsRow, standIns := [], harness := (true, "6f78a988081e5bb5d381f45b5f8fe68a4e89d512a45421e316d31a7b6d84e345"), looks := true }, kinds := [], alts := [], laidByText := true, laidKinds := [.data, .data, .data, .data, .sentinel, .sentinel, .pinned], laidTests := true, laidLooks := .later }
def ExprBracketsCardSaid : Prop := Claim7.holds Tryz.pinned (.plain (OpenSpec.ofChange exprBracketsSpec)) exprBracketsCard

/-- THE TIED CARD OF 'tarifflaw10.ExprChecks'. -/
def exprChecksCard : Claim7 := { stood := { row := exprChecksRow, standIns := [], harness := (true, "6f78a988081e5bb5d381f45b5f8fe68a4e89d512a45421e316d31a7b6d84e345"), looks := true }, kinds := [], alts := [], laidByText := true, laidKinds := [.data, .data, .data, .data, .sentinel, .sentinel, .pinned], laidTests := true, laidLooks := .later }
def ExprChecksCardSaid : Prop := Claim7.holds Tryz.pinned (.plain (OpenSpec.ofChange exprChecksSpec)) exprChecksCard

/-- THE TIED CARD OF 'tarifflaw10.ExprTrees'. -/
def exprTreesCard : Claim7 := { stood := { row := exprTreesRow, standIns := [], harness := (true, "6f78a988081e5bb5d381f45b5f8fe68a4e89d512a45421e316d31a7b6d84e345"), looks := true }, kinds := [], alts := [], laidByText := true, laidKinds := [.data, .data, .data, .data, .sentinel, .sentinel, .pinned], laidTests := true, laidLooks := .later }
def ExprTreesCardSaid : Prop := Claim7.holds Tryz.pinned (.plain (OpenSpec.ofChange exprTreesSpec)) exprTreesCard

/-- THE TIED CARD OF 'tarifflaw10.ExprApart'. -/
def exprApartCard : Claim7 := { stood := { row := exprApartRow, standIns := [], harness := (true, "6f78a988081e5bb5d381f45b5f8fe68a4e89d512a45421e316d31a7b6d84e345"), looks := true }, kinds := [], alts := [], laidByText := true, laidKinds := [.data, .data, .data, .data, .sentinel, .sentinel, .pinned], laidTests := true, laidLooks := .later }
def ExprApartCardSaid : Prop := Claim7.holds Tryz.pinned (.plain (OpenSpec.ofChange exprApartSpec)) exprApartCard

/-- THE TIED CARD OF 'tarifflaw13.CheckJoins'. -/
def checkJoinsCard : Claim7 := { stood := { row := checkJoinsRow, standIns := [], harness := (true, "6f78a988081e5bb5d381f45b5f8fe68a4e89d512a45421e316d31a7b6d84e345"), looks := true }, kinds := [], alts := [], laidByText := true, laidKinds := [.data, .data, .data, .data, .sentinel, .sentinel, .pinned], laidTests := true, laidLooks := .later }
def CheckJoinsCardSaid : Prop := Claim7.holds Tryz.pinned (.plain (OpenSpec.ofChange checkJoinsSpec)) checkJoinsCard

/-- THE TIED CARD OF 'tarifflaw13.CheckIns'. -/
def checkInsCard : Claim7 := { stood := { row := checkInsRow, standIns := [], harness := (true, "6f78a988081e5bb5d381f45b5f8fe68a4e89d512a45421e316d31a7b6d84e345"), looks := true }, kinds := [], alts := [], laidByText := true, laidKinds := [.data, .data, .data, .data, .sentinel, .sentinel, .pinned], laidTests := true, laidLooks := .later }
def CheckInsCardSaid : Prop := Claim7.holds Tryz.pinned (.plain (OpenSpec.ofChange checkInsSpec)) checkInsCard

/-- THE SECOND FORM's CARD OF 'tarifflaw10.ExprParses'. -/
def exprParsesUptoCard : Claim7 := { stood := { row := exprParsesUptoRow, standIns := [], harness := (true, "6f78a988081e5bb5d381f45b5f8fe68a4e89d512a45421e316d31a7b6d84e345"), looks := true }, kinds := [], alts := [], laidByText := true, laidKinds := [.data, .data, .data, .data, .sentinel, .sentinel, .pinned], laidTests := true, laidLooks := .later }
def ExprParsesUptoCardSaid : Prop := Claim7.holds Tryz.pinned (.plain (OpenSpec.upto exprParsesSpec)) exprParsesUptoCard

/-- THE SECOND FORM's CARD OF 'tarifflaw10.ExprTests'. -/
def exprTestsUptoCard : Claim7 := { stood := { row := exprTestsUptoRow, standIns := [], harness := (true, "6f78a988081e5bb5d381f45b5f8fe68a4e89d512a45421e316d31a7b6d84e345"), looks := true }, kinds := [], alts := [], laidByText := true, laidKinds := [.data, .data, .data, .data, .sentinel, .sentinel, .pinned], laidTests := true, laidLooks := .later }
def ExprTestsUptoCardSaid : Prop := Claim7.holds Tryz.pinned (.plain (OpenSpec.upto exprTestsSpec)) exprTestsUptoCard

/-- THE SECOND FORM's CARD OF 'tarifflaw10.ExprBrackets'. -/
def exprBracketsUptoCard : Claim7 := { stood := { row := exprBracketsUptoRow, standIns := [], harness := (true, "6f78a988081e5bb5d381f45b5f8fe68a4e89d512a45421e316d31a7b6d84e345"), looks := true }, kinds := [], alts := [], laidByText := true, laidKinds := [.data, .data, .data, .data, .sentinel, .sentinel, .pinned], laidTests := true, laidLooks := .later }
def ExprBracketsUptoCardSaid : Prop := Claim7.holds Tryz.pinned (.plain (OpenSpec.upto exprBracketsSpec)) exprBracketsUptoCard

/-- THE SECOND FORM's CARD OF 'tarifflaw10.ExprChecks'. -/
def exprChecksUptoCard : Claim7 := { stood := { row := exprChecksUptoRow, standIns := [], harness := (true, "6f78a988081e5bb5d381f45b5f8fe68a4e89d512a45421e316d31a7b6d84e345"), looks := true }, kinds := [], alts := [], laidByText := true, laidKinds := [.data, .data, .data, .data, .sentinel, .sentinel, .pinned], laidTests := true, laidLooks := .later }
def ExprChecksUptoCardSaid : Prop := Claim7.holds Tryz.pinned (.plain (OpenSpec.upto exprChecksSpec)) exprChecksUptoCard

/-- THE SECOND FORM's CARD OF 'tarifflaw10.ExprTrees'. -/
def exprTreesUptoCard : Claim7 := { stood := { row := exprTreesUptoRow, standIns := [], harness := (true, "6f78a988081e5bb5d381f45b5f8fe68a4e89d512a45421e316d31a7b6d84e345"), looks := true }, kinds := [], alts := [], laidByText := true, laidKinds := [.data, .data, .data, .data, .sentinel, .sentinel, .pinned], laidTests := true, laidLooks := .later }
def ExprTreesUptoCardSaid : Prop := Claim7.holds Tryz.pinned (.plain (OpenSpec.upto exprTreesSpec)) exprTreesUptoCard

/-- THE SECOND FORM's CARD OF 'tarifflaw10.ExprApart'. -/
def exprApartUptoCard : Claim7 := { stood := { row := exprApartUptoRow, standIns := [], harness := (true, "6f78a988081e5bb5d381f45b5f8fe68a4e89d512a45421e316d31a7b6d84e345"), looks := true }, kinds := [], alts := [], laidByText := true, laidKinds := [.data, .data, .data, .data, .sentinel, .sentinel, .pinned], laidTests := true, laidLooks := .later }
def ExprApartUptoCardSaid : Prop := Claim7.holds Tryz.pinned (.plain (OpenSpec.upto exprApartSpec)) exprApartUptoCard

/-- THE SECOND FORM's CARD OF 'tarifflaw13.CheckJoins'. -/
def checkJoinsUptoCard : Claim7 := { stood := { row := checkJoinsUptoRow, standIns := [], harness := (true, "6f78a988081e5bb5d381f45b5f8fe68a4e89d512a45421e316d31a7b6d84e345"), looks := true }, kinds := [], alts := [], laidByText := true, laidKinds := [.data, .data, .data, .data, .sentinel, .sentinel, .pinned], laidTests := true, laidLooks := .later }
def CheckJoinsUptoCardSaid : Prop := Claim7.holds Tryz.pinned (.plain (OpenSpec.upto checkJoinsSpec)) checkJoinsUptoCard

/-- THE SECOND FORM's CARD OF 'tarifflaw13.CheckIns'. -/
def checkInsUptoCard : Claim7 := { stood := { row := checkInsUptoRow, standIns := [], harness := (true, "6f78a988081e5bb5d381f45b5f8fe68a4e89d512a45421e316d31a7b6d84e345"), looks := true }, kinds := [], alts := [], laidByText := true, laidKinds := [.data, .data, .data, .data, .sentinel, .sentinel, .pinned], laidTests := true, laidLooks := .later }
def CheckInsUptoCardSaid : Prop := Claim7.holds Tryz.pinned (.plain (OpenSpec.upto checkInsSpec)) checkInsUptoCard
end Rows
end Go.Proofs.YtkackccmhghphaaGreatDoor
