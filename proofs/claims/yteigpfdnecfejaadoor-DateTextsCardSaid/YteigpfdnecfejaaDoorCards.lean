/-
  DERIVED. GIVEN WITH THE SEED: THE CARDS: each row of YteigpfdnecfejaaDoorRows.lean that lists a variable, with what it lists TIED to the program's text (the seventh form; the later family's looks); each row that meets fmt, with fmt's text TOLD by the authors' own Lean function (tested against real Go, not proved from fmt's source: count such statements apart). THE CARD IS WHAT COUNTS. Prove the row's statement (the work); the ties are given (YteigpfdnecfejaaDoorTie.lean); close each card by the builder's one call (the guide's Derived/Test/ToyasCard.lean, 'card_holds'). Laid BY PROGRAM, IN A SANDBOX (cutbox-door.mjs). By AI agents, Wed Nov 11 2026. No macro, syntax, notation, axiom, sorry.
-/
import Derived.Test.YteigpfdnecfejaaDoorRows
import GoSem.ClaimSeven
namespace Go.Proofs.YteigpfdnecfejaaDoor
namespace Rows

/-- THE TIED CARD OF 'tarifflaw03.DateDays'. -/
def dateDaysCard : Claim7 := { stood := { row := dateDaysRow, standIns := [], harness := (true, "02a4dfc248226bc91160f9c89d775db4fe4eb0d0e3ce05ee00b5b87a45f10c27"), looks := true }, kinds := [], alts := [], laidByText := true, laidKinds := [.data, .data, .data], laidTests := true, laidLooks := .later }
def DateDaysCardSaid : Prop := Claim7.holds Tryd.pinned (.plain (OpenSpec.ofChange dateDaysSpec)) dateDaysCard

/-- THE TIED CARD OF 'tarifflaw03.DateSplits'. -/
def dateSplitsCard : Claim7 := { stood := { row := dateSplitsRow, standIns := [], harness := (true, "02a4dfc248226bc91160f9c89d775db4fe4eb0d0e3ce05ee00b5b87a45f10c27"), looks := true }, kinds := [], alts := [], laidByText := true, laidKinds := [.data, .data, .data], laidTests := true, laidLooks := .later }
def DateSplitsCardSaid : Prop := Claim7.holds Tryd.pinned (.plain (OpenSpec.ofChange dateSplitsSpec)) dateSplitsCard

/-- THE TIED CARD OF 'tarifflaw03.DateSteps'. -/
def dateStepsCard : Claim7 := { stood := { row := dateStepsRow, standIns := [], harness := (true, "02a4dfc248226bc91160f9c89d775db4fe4eb0d0e3ce05ee00b5b87a45f10c27"), looks := true }, kinds := [], alts := [], laidByText := true, laidKinds := [.data, .data, .data], laidTests := true, laidLooks := .later }
def DateStepsCardSaid : Prop := Claim7.holds Tryd.pinned (.plain (OpenSpec.ofChange dateStepsSpec)) dateStepsCard

/-- THE TIED CARD OF 'tarifflaw03.DateWalks'. -/
def dateWalksCard : Claim7 := { stood := { row := dateWalksRow, standIns := [], harness := (true, "02a4dfc248226bc91160f9c89d775db4fe4eb0d0e3ce05ee00b5b87a45f10c27"), looks := true }, kinds := [], alts := [], laidByText := true, laidKinds := [.data, .data, .data], laidTests := true, laidLooks := .later }
def DateWalksCardSaid : Prop := Claim7.holds Tryd.pinned (.plain (OpenSpec.ofChange dateWalksSpec)) dateWalksCard

/-- THE TIED CARD OF 'tarifflaw03.DateTexts'. -/
def dateTextsCard : Claim7 := { stood := { row := dateTextsRow, standIns := [], harness := (true, "02a4dfc248226bc91160f9c89d775db4fe4eb0d0e3ce05ee00b5b87a45f10c27"), looks := true }, kinds := [], alts := [], laidByText := true, laidKinds := [.data, .data, .data, .data, .sentinel, .sentinel, .pinned], laidTests := true, laidLooks := .later }
def DateTextsCardSaid : Prop := Claim7.holds Tryd.pinned (.plain (OpenSpec.ofChange dateTextsSpec)) dateTextsCard

/-- THE SECOND FORM's CARD OF 'tarifflaw03.DateDays'. -/
def dateDaysUptoCard : Claim7 := { stood := { row := dateDaysUptoRow, standIns := [], harness := (true, "02a4dfc248226bc91160f9c89d775db4fe4eb0d0e3ce05ee00b5b87a45f10c27"), looks := true }, kinds := [], alts := [], laidByText := true, laidKinds := [.data, .data, .data], laidTests := true, laidLooks := .later }
def DateDaysUptoCardSaid : Prop := Claim7.holds Tryd.pinned (.plain (OpenSpec.upto dateDaysSpec)) dateDaysUptoCard

/-- THE SECOND FORM's CARD OF 'tarifflaw03.DateSplits'. -/
def dateSplitsUptoCard : Claim7 := { stood := { row := dateSplitsUptoRow, standIns := [], harness := (true, "02a4dfc248226bc91160f9c89d775db4fe4eb0d0e3ce05ee00b5b87a45f10c27"), looks := true }, kinds := [], alts := [], laidByText := true, laidKinds := [.data, .data, .data], laidTests := true, laidLooks := .later }
def DateSplitsUptoCardSaid : Prop := Claim7.holds Tryd.pinned (.plain (OpenSpec.upto dateSplitsSpec)) dateSplitsUptoCard

/-- THE SECOND FORM's CARD OF 'tarifflaw03.DateSteps'. -/
def dateStepsUptoCard : Claim7 := { stood := { row := dateStepsUptoRow, standIns := [], harness := (true, "02a4dfc248226bc91160f9c89d775db4fe4eb0d0e3ce05ee00b5b87a45f10c27"), looks := true }, kinds := [], alts := [], laidByText := true, laidKinds := [.data, .data, .data], laidTests := true, laidLooks := .later }
def DateStepsUptoCardSaid : Prop := Claim7.holds Tryd.pinned (.plain (OpenSpec.upto dateStepsSpec)) dateStepsUptoCard

/-- THE SECOND FORM's CARD OF 'tarifflaw03.DateWalks'. -/
def dateWalksUptoCard : Claim7 := { stood := { row := dateWalksUptoRow, standIns := [], harness := (true, "02a4dfc248226bc91160f9c89d775db4fe4eb0d0e3ce05ee00b5b87a45f10c27"), looks := true }, kinds := [], alts := [], laidByText := true, laidKinds := [.data, .data, .data], laidTests := true, laidLooks := .later }
def DateWalksUptoCardSaid : Prop := Claim7.holds Tryd.pinned (.plain (OpenSpec.upto dateWalksSpec)) dateWalksUptoCard

/-- THE SECOND FORM's CARD OF 'tarifflaw03.DateTexts'. -/
def dateTextsUptoCard : Claim7 := { stood := { row := dateTextsUptoRow, standIns := [], harness := (true, "02a4dfc248226bc91160f9c89d775db4fe4eb0d0e3ce05ee00b5b87a45f10c27"), looks := true }, kinds := [], alts := [], laidByText := true, laidKinds := [.data, .data, .data, .data, .sentinel, .sentinel, .pinned], laidTests := true, laidLooks := .later }
def DateTextsUptoCardSaid : Prop := Claim7.holds Tryd.pinned (.plain (OpenSpec.upto dateTextsSpec)) dateTextsUptoCard
end Rows
end Go.Proofs.YteigpfdnecfejaaDoor
