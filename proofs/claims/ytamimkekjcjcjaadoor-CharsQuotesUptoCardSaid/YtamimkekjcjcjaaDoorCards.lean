/-
  DERIVED. GIVEN WITH THE SEED: THE CARDS: each row of YtamimkekjcjcjaaDoorRows.lean that lists a variable, with what it lists TIED to the program's text (the seventh form; the later family's looks); each row that meets fmt, with fmt's text TOLD by the authors' own Lean function (tested against real Go, not proved from fmt's source: count such statements apart). THE CARD IS WHAT COUNTS. Prove the row's statement (the work); the ties are given (YtamimkekjcjcjaaDoorTie.lean); close each card by the builder's one call (the guide's Derived/Test/ToyasCard.lean, 'card_holds'). Laid BY PROGRAM, IN A SANDBOX (cutbox-door.mjs). By AI agents, Wed Nov 11 2026. No macro, syntax, notation, axiom, sorry.
-/
import Derived.Test.YtamimkekjcjcjaaDoorRows
import GoSem.ClaimSeven
namespace Go.Proofs.YtamimkekjcjcjaaDoor
namespace Rows

/-- THE TIED CARD OF 'tarifflaw04.CharsNames'. -/
def charsNamesCard : Claim7 := { stood := { row := charsNamesRow, standIns := [], harness := (true, "d18e833af13c102f8b6ea047c7b175d88e876e1c0d7af1281e47fe79ce26707f"), looks := true }, kinds := [], alts := [], laidByText := true, laidKinds := [.data, .pinned], laidTests := true, laidLooks := .later }
def CharsNamesCardSaid : Prop := Claim7.holds Tryd.pinned (.plain (OpenSpec.ofChange charsNamesSpec)) charsNamesCard

/-- THE TIED CARD OF 'tarifflaw04.CharsCuts'. -/
def charsCutsCard : Claim7 := { stood := { row := charsCutsRow, standIns := [], harness := (true, "d18e833af13c102f8b6ea047c7b175d88e876e1c0d7af1281e47fe79ce26707f"), looks := true }, kinds := [], alts := [], laidByText := true, laidKinds := [.data, .pinned], laidTests := true, laidLooks := .later }
def CharsCutsCardSaid : Prop := Claim7.holds Tryd.pinned (.plain (OpenSpec.ofChange charsCutsSpec)) charsCutsCard

/-- THE TIED CARD OF 'tarifflaw04.CharsQuotes'. -/
def charsQuotesCard : Claim7 := { stood := { row := charsQuotesRow, standIns := [], harness := (true, "d18e833af13c102f8b6ea047c7b175d88e876e1c0d7af1281e47fe79ce26707f"), looks := true }, kinds := [], alts := [], laidByText := true, laidKinds := [.data, .pinned], laidTests := true, laidLooks := .later }
def CharsQuotesCardSaid : Prop := Claim7.holds Tryd.pinned (.plain (OpenSpec.ofChange charsQuotesSpec)) charsQuotesCard

/-- THE SECOND FORM's CARD OF 'tarifflaw04.CharsNames'. -/
def charsNamesUptoCard : Claim7 := { stood := { row := charsNamesUptoRow, standIns := [], harness := (true, "d18e833af13c102f8b6ea047c7b175d88e876e1c0d7af1281e47fe79ce26707f"), looks := true }, kinds := [], alts := [], laidByText := true, laidKinds := [.data, .pinned], laidTests := true, laidLooks := .later }
def CharsNamesUptoCardSaid : Prop := Claim7.holds Tryd.pinned (.plain (OpenSpec.upto charsNamesSpec)) charsNamesUptoCard

/-- THE SECOND FORM's CARD OF 'tarifflaw04.CharsCuts'. -/
def charsCutsUptoCard : Claim7 := { stood := { row := charsCutsUptoRow, standIns := [], harness := (true, "d18e833af13c102f8b6ea047c7b175d88e876e1c0d7af1281e47fe79ce26707f"), looks := true }, kinds := [], alts := [], laidByText := true, laidKinds := [.data, .pinned], laidTests := true, laidLooks := .later }
def CharsCutsUptoCardSaid : Prop := Claim7.holds Tryd.pinned (.plain (OpenSpec.upto charsCutsSpec)) charsCutsUptoCard

/-- THE SECOND FORM's CARD OF 'tarifflaw04.CharsQuotes'. -/
def charsQuotesUptoCard : Claim7 := { stood := { row := charsQuotesUptoRow, standIns := [], harness := (true, "d18e833af13c102f8b6ea047c7b175d88e876e1c0d7af1281e47fe79ce26707f"), looks := true }, kinds := [], alts := [], laidByText := true, laidKinds := [.data, .pinned], laidTests := true, laidLooks := .later }
def CharsQuotesUptoCardSaid : Prop := Claim7.holds Tryd.pinned (.plain (OpenSpec.upto charsQuotesSpec)) charsQuotesUptoCard
end Rows
end Go.Proofs.YtamimkekjcjcjaaDoor
