/-
  DERIVED. GIVEN WITH THE SEED: THE CARDS: each row of YtamimkekjcjcjaaGreatDoorRows.lean that lists a variable, with what it lists TIED to the program's text (the seventh form; the later family's looks); each row that meets fmt, with fmt's text TOLD by the authors' own Lean function (tested against real Go, not proved from fmt's source: count such statements apart). THE CARD IS WHAT COUNTS. Prove the row's statement (the work); the ties are given (YtamimkekjcjcjaaGreatDoorTie.lean); close each card by the builder's one call (the guide's Derived/Test/ToyasCard.lean, 'card_holds'). Laid BY PROGRAM, IN A SANDBOX (cutbox-door.mjs). By AI agents, Wed Nov 11 2026. No macro, syntax, notation, axiom, sorry.
-/
import Derived.Test.YtamimkekjcjcjaaGreatDoorRows
import GoSem.ClaimSeven
namespace Go.Proofs.YtamimkekjcjcjaaGreatDoor
namespace Rows

/-- THE TIED CARD OF 'tarifflaw04.CharsTexts'. -/
def charsTextsCard : Claim7 := { stood := { row := charsTextsRow, standIns := [], harness := (true, "7c907d7ab0f2f7440d72fed94dfa126a9d139d17eab9f8cf6b1113ffd33fadb3"), looks := true }, kinds := [], alts := [], laidByText := true, laidKinds := [.data, .pinned], laidTests := true, laidLooks := .later }
def CharsTextsCardSaid : Prop := Claim7.holds Tryz.pinned (.plain (OpenSpec.ofChange charsTextsSpec)) charsTextsCard

/-- THE TIED CARD OF 'tarifflaw04.CharsEscapes'. -/
def charsEscapesCard : Claim7 := { stood := { row := charsEscapesRow, standIns := [], harness := (true, "7c907d7ab0f2f7440d72fed94dfa126a9d139d17eab9f8cf6b1113ffd33fadb3"), looks := true }, kinds := [], alts := [], laidByText := true, laidKinds := [.data, .data, .data, .data, .sentinel, .sentinel, .pinned], laidTests := true, laidLooks := .later }
def CharsEscapesCardSaid : Prop := Claim7.holds Tryz.pinned (.plain (OpenSpec.ofChange charsEscapesSpec)) charsEscapesCard

/-- THE SECOND FORM's CARD OF 'tarifflaw04.CharsTexts'. -/
def charsTextsUptoCard : Claim7 := { stood := { row := charsTextsUptoRow, standIns := [], harness := (true, "7c907d7ab0f2f7440d72fed94dfa126a9d139d17eab9f8cf6b1113ffd33fadb3"), looks := true }, kinds := [], alts := [], laidByText := true, laidKinds := [.data, .pinned], laidTests := true, laidLooks := .later }
def CharsTextsUptoCardSaid : Prop := Claim7.holds Tryz.pinned (.plain (OpenSpec.upto charsTextsSpec)) charsTextsUptoCard

/-- THE SECOND FORM's CARD OF 'tarifflaw04.CharsEscapes'. -/
def charsEscapesUptoCard : Claim7 := { stood := { row := charsEscapesUptoRow, standIns := [], harness := (true, "7c907d7ab0f2f7440d72fed94dfa126a9d139d17eab9f8cf6b1113ffd33fadb3"), looks := true }, kinds := [], alts := [], laidByText := true, laidKinds := [.data, .data, .data, .data, .sentinel, .sentinel, .pinned], laidTests := true, laidLooks := .later }
def CharsEscapesUptoCardSaid : Prop := Claim7.holds Tryz.pinned (.plain (OpenSpec.upto charsEscapesSpec)) charsEscapesUptoCard
end Rows
end Go.Proofs.YtamimkekjcjcjaaGreatDoor
