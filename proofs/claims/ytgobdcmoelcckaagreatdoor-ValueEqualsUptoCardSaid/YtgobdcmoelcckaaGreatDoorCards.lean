/-
  DERIVED. GIVEN WITH THE SEED: THE CARDS: each row of YtgobdcmoelcckaaGreatDoorRows.lean that lists a variable, with what it lists TIED to the program's text (the seventh form; the later family's looks); each row that meets fmt, with fmt's text TOLD by the authors' own Lean function (tested against real Go, not proved from fmt's source: count such statements apart). THE CARD IS WHAT COUNTS. Prove the row's statement (the work); the ties are given (YtgobdcmoelcckaaGreatDoorTie.lean); close each card by the builder's one call (the guide's Derived/Test/ToyasCard.lean, 'card_holds'). Laid BY PROGRAM, IN A SANDBOX (cutbox-door.mjs). By AI agents, Wed Nov 11 2026. No macro, syntax, notation, axiom, sorry.
-/
import Derived.Test.YtgobdcmoelcckaaGreatDoorRows
import GoSem.ClaimSeven
namespace Go.Proofs.YtgobdcmoelcckaaGreatDoor
namespace Rows

/-- THE TIED CARD OF 'tarifflaw07.ValueEquals'. -/
def valueEqualsCard : Claim7 := { stood := { row := valueEqualsRow, standIns := [], harness := (true, "23bf3a116478ca5510c468fd284037027f05d1ef0f27aee5399425535f0ad162"), looks := true }, kinds := [], alts := [], laidByText := true, laidKinds := [.data, .data, .data, .data, .pinned], laidTests := true, laidLooks := .later }
def ValueEqualsCardSaid : Prop := Claim7.holds Tryz.pinned (.plain (OpenSpec.ofChange valueEqualsSpec)) valueEqualsCard

/-- THE TIED CARD OF 'tarifflaw07.ValueForms'. -/
def valueFormsCard : Claim7 := { stood := { row := valueFormsRow, standIns := [], harness := (true, "23bf3a116478ca5510c468fd284037027f05d1ef0f27aee5399425535f0ad162"), looks := true }, kinds := [], alts := [], laidByText := true, laidKinds := [.data, .data, .data, .data, .pinned], laidTests := true, laidLooks := .later }
def ValueFormsCardSaid : Prop := Claim7.holds Tryz.pinned (.plain (OpenSpec.ofChange valueFormsSpec)) valueFormsCard

/-- THE TIED CARD OF 'tarifflaw07.ValueTruths'. -/
def valueTruthsCard : Claim7 := { stood := { row := valueTruthsRow, standIns := [], harness := (true, "23bf3a116478ca5510c468fd284037027f05d1ef0f27aee5399425535f0ad162"), looks := true }, kinds := [], alts := [], laidByText := true, laidKinds := [.data, .data, .data, .data, .pinned], laidTests := true, laidLooks := .later }
def ValueTruthsCardSaid : Prop := Claim7.holds Tryz.pinned (.plain (OpenSpec.ofChange valueTruthsSpec)) valueTruthsCard

/-- THE TIED CARD OF 'tarifflaw07.ValueLogic'. -/
def valueLogicCard : Claim7 := { stood := { row := valueLogicRow, standIns := [], harness := (true, "23bf3a116478ca5510c468fd284037027f05d1ef0f27aee5399425535f0ad162"), looks := true }, kinds := [], alts := [], laidByText := true, laidKinds := [.data, .data, .data, .data, .pinned], laidTests := true, laidLooks := .later }
def ValueLogicCardSaid : Prop := Claim7.holds Tryz.pinned (.plain (OpenSpec.ofChange valueLogicSpec)) valueLogicCard

/-- THE TIED CARD OF 'tarifflaw07.ValueTexts'. -/
def valueTextsCard : Claim7 := { stood := { row := valueTextsRow, standIns := [], harness := (true, "23bf3a116478ca5510c468fd284037027f05d1ef0f27aee5399425535f0ad162"), looks := true }, kinds := [], alts := [], laidByText := true, laidKinds := [.data, .data, .data, .data, .sentinel, .sentinel, .pinned], laidTests := true, laidLooks := .later }
def ValueTextsCardSaid : Prop := Claim7.holds Tryz.pinned (.plain (OpenSpec.ofChange valueTextsSpec)) valueTextsCard

/-- THE TIED CARD OF 'tarifflaw07.ValueApart'. -/
def valueApartCard : Claim7 := { stood := { row := valueApartRow, standIns := [], harness := (true, "23bf3a116478ca5510c468fd284037027f05d1ef0f27aee5399425535f0ad162"), looks := true }, kinds := [], alts := [], laidByText := true, laidKinds := [.data, .data, .data, .data, .sentinel, .sentinel, .pinned], laidTests := true, laidLooks := .later }
def ValueApartCardSaid : Prop := Claim7.holds Tryz.pinned (.plain (OpenSpec.ofChange valueApartSpec)) valueApartCard

/-- THE SECOND FORM's CARD OF 'tarifflaw07.ValueEquals'. -/
def valueEqualsUptoCard : Claim7 := { stood := { row := valueEqualsUptoRow, standIns := [], harness := (true, "23bf3a116478ca5510c468fd284037027f05d1ef0f27aee5399425535f0ad162"), looks := true }, kinds := [], alts := [], laidByText := true, laidKinds := [.data, .data, .data, .data, .pinned], laidTests := true, laidLooks := .later }
def ValueEqualsUptoCardSaid : Prop := Claim7.holds Tryz.pinned (.plain (OpenSpec.upto valueEqualsSpec)) valueEqualsUptoCard

/-- THE SECOND FORM's CARD OF 'tarifflaw07.ValueForms'. -/
def valueFormsUptoCard : Claim7 := { stood := { row := valueFormsUptoRow, standIns := [], harness := (true, "23bf3a116478ca5510c468fd284037027f05d1ef0f27aee5399425535f0ad162"), looks := true }, kinds := [], alts := [], laidByText := true, laidKinds := [.data, .data, .data, .data, .pinned], laidTests := true, laidLooks := .later }
def ValueFormsUptoCardSaid : Prop := Claim7.holds Tryz.pinned (.plain (OpenSpec.upto valueFormsSpec)) valueFormsUptoCard

/-- THE SECOND FORM's CARD OF 'tarifflaw07.ValueTruths'. -/
def valueTruthsUptoCard : Claim7 := { stood := { row := valueTruthsUptoRow, standIns := [], harness := (true, "23bf3a116478ca5510c468fd284037027f05d1ef0f27aee5399425535f0ad162"), looks := true }, kinds := [], alts := [], laidByText := true, laidKinds := [.data, .data, .data, .data, .pinned], laidTests := true, laidLooks := .later }
def ValueTruthsUptoCardSaid : Prop := Claim7.holds Tryz.pinned (.plain (OpenSpec.upto valueTruthsSpec)) valueTruthsUptoCard

/-- THE SECOND FORM's CARD OF 'tarifflaw07.ValueLogic'. -/
def valueLogicUptoCard : Claim7 := { stood := { row := valueLogicUptoRow, standIns := [], harness := (true, "23bf3a116478ca5510c468fd284037027f05d1ef0f27aee5399425535f0ad162"), looks := true }, kinds := [], alts := [], laidByText := true, laidKinds := [.data, .data, .data, .data, .pinned], laidTests := true, laidLooks := .later }
def ValueLogicUptoCardSaid : Prop := Claim7.holds Tryz.pinned (.plain (OpenSpec.upto valueLogicSpec)) valueLogicUptoCard

/-- THE SECOND FORM's CARD OF 'tarifflaw07.ValueTexts'. -/
def valueTextsUptoCard : Claim7 := { stood := { row := valueTextsUptoRow, standIns := [], harness := (true, "23bf3a116478ca5510c468fd284037027f05d1ef0f27aee5399425535f0ad162"), looks := true }, kinds := [], alts := [], laidByText := true, laidKinds := [.data, .data, .data, .data, .sentinel, .sentinel, .pinned], laidTests := true, laidLooks := .later }
def ValueTextsUptoCardSaid : Prop := Claim7.holds Tryz.pinned (.plain (OpenSpec.upto valueTextsSpec)) valueTextsUptoCard

/-- THE SECOND FORM's CARD OF 'tarifflaw07.ValueApart'. -/
def valueApartUptoCard : Claim7 := { stood := { row := valueApartUptoRow, standIns := [], harness := (true, "23bf3a116478ca5510c468fd284037027f05d1ef0f27aee5399425535f0ad162"), looks := true }, kinds := [], alts := [], laidByText := true, laidKinds := [.data, .data, .data, .data, .sentinel, .sentinel, .pinned], laidTests := true, laidLooks := .later }
def ValueApartUptoCardSaid : Prop := Claim7.holds Tryz.pinned (.plain (OpenSpec.upto valueApartSpec)) valueApartUptoCard
end Rows
end Go.Proofs.YtgobdcmoelcckaaGreatDoor
