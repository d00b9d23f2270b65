/-
  DERIVED. GIVEN WITH THE SEED: THE CARDS: each row of YtanncakdlflopaaGreatDoorRows.lean that lists a variable, with what it lists TIED to the program's text (the seventh form; the later family's looks); each row that meets fmt, with fmt's text TOLD by the authors' own Lean function (tested against real Go, not proved from fmt's source: count such statements apart). THE CARD IS WHAT COUNTS. Prove the row's statement (the work); the ties are given (YtanncakdlflopaaGreatDoorTie.lean); close each card by the builder's one call (the guide's Derived/Test/ToyasCard.lean, 'card_holds'). Laid BY PROGRAM, IN A SANDBOX (cutbox-door.mjs). By AI agents, Wed Nov 11 2026. No macro, syntax, notation, axiom, sorry.
-/
import Derived.Test.YtanncakdlflopaaGreatDoorRows
import GoSem.ClaimSeven
namespace Go.Proofs.YtanncakdlflopaaGreatDoor
namespace Rows

/-- THE TIED CARD OF 'tarifflaw06.TreeReads'. -/
def treeReadsCard : Claim7 := { stood := { row := treeReadsRow, standIns := [], harness := (true, "02721174025014ce1e19e5250f8561a92d1281d3a2d14c44feafe8163af37731"), looks := true }, kinds := [], alts := [], laidByText := true, laidKinds := [.data, .data, .data, .data, .sentinel, .sentinel, .pinned], laidTests := true, laidLooks := .later }
def TreeReadsCardSaid : Prop := Claim7.holds Tryz.pinned (.plain (OpenSpec.ofChange treeReadsSpec)) treeReadsCard

/-- THE TIED CARD OF 'tarifflaw06.TreeChecks'. -/
def treeChecksCard : Claim7 := { stood := { row := treeChecksRow, standIns := [], harness := (true, "02721174025014ce1e19e5250f8561a92d1281d3a2d14c44feafe8163af37731"), looks := true }, kinds := [], alts := [], laidByText := true, laidKinds := [.data, .data, .data, .data, .sentinel, .sentinel, .pinned], laidTests := true, laidLooks := .later }
def TreeChecksCardSaid : Prop := Claim7.holds Tryz.pinned (.plain (OpenSpec.ofChange treeChecksSpec)) treeChecksCard

/-- THE TIED CARD OF 'tarifflaw06.TreeWrites'. -/
def treeWritesCard : Claim7 := { stood := { row := treeWritesRow, standIns := [], harness := (true, "02721174025014ce1e19e5250f8561a92d1281d3a2d14c44feafe8163af37731"), looks := true }, kinds := [], alts := [], laidByText := true, laidKinds := [.data, .data, .data, .data, .sentinel, .sentinel, .pinned], laidTests := true, laidLooks := .later }
def TreeWritesCardSaid : Prop := Claim7.holds Tryz.pinned (.plain (OpenSpec.ofChange treeWritesSpec)) treeWritesCard

/-- THE TIED CARD OF 'tarifflaw06.TreeFixed'. -/
def treeFixedCard : Claim7 := { stood := { row := treeFixedRow, standIns := [], harness := (true, "02721174025014ce1e19e5250f8561a92d1281d3a2d14c44feafe8163af37731"), looks := true }, kinds := [], alts := [], laidByText := true, laidKinds := [.data, .data, .data, .data, .sentinel, .sentinel, .pinned], laidTests := true, laidLooks := .later }
def TreeFixedCardSaid : Prop := Claim7.holds Tryz.pinned (.plain (OpenSpec.ofChange treeFixedSpec)) treeFixedCard

/-- THE TIED CARD OF 'tarifflaw06.TreeApart'. -/
def treeApartCard : Claim7 := { stood := { row := treeApartRow, standIns := [], harness := (true, "02721174025014ce1e19e5250f8561a92d1281d3a2d14c44feafe8163af37731"), looks := true }, kinds := [], alts := [], laidByText := true, laidKinds := [.data, .data, .data, .data, .sentinel, .sentinel, .pinned], laidTests := true, laidLooks := .later }
def TreeApartCardSaid : Prop := Claim7.holds Tryz.pinned (.plain (OpenSpec.ofChange treeApartSpec)) treeApartCard

/-- THE SECOND FORM's CARD OF 'tarifflaw06.TreeReads'. -/
def treeReadsUptoCard : Claim7 := { stood := { row := treeReadsUptoRow, standIns := [], harness := (true, "02721174025014ce1e19e5250f8561a92d1281d3a2d14c44feafe8163af37731"), looks := true }, kinds := [], alts := [], laidByText := true, laidKinds := [.data, .data, .data, .data, .sentinel, .sentinel, .pinned], laidTests := true, laidLooks := .later }
def TreeReadsUptoCardSaid : Prop := Claim7.holds Tryz.pinned (.plain (OpenSpec.upto treeReadsSpec)) treeReadsUptoCard

/-- THE SECOND FORM's CARD OF 'tarifflaw06.TreeChecks'. -/
def treeChecksUptoCard : Claim7 := { stood := { row := treeChecksUptoRow, standIns := [], harness := (true, "02721174025014ce1e19e5250f8561a92d1281d3a2d14c44feafe8163af37731"), looks := true }, kinds := [], alts := [], laidByText := true, laidKinds := [.data, .data, .data, .data, .sentinel, .sentinel, .pinned], laidTests := true, laidLooks := .later }
def TreeChecksUptoCardSaid : Prop := Claim7.holds Tryz.pinned (.plain (OpenSpec.upto treeChecksSpec)) treeChecksUptoCard

/-- THE SECOND FORM's CARD OF 'tarifflaw06.TreeWrites'. -/
def treeWritesUptoCard : Claim7 := { stood := { row := treeWritesUptoRow, standIns := [], harness := (true, "02721174025014ce1e19e5250f8561a92d1281d3a2d14c44feafe8163af37731"), looks := true }, kinds := [], alts := [], laidByText := true, laidKinds := [.data, .data, .data, .data, .sentinel, .sentinel, .pinned], laidTests := true, laidLooks := .later }
def TreeWritesUptoCardSaid : Prop := Claim7.holds Tryz.pinned (.plain (OpenSpec.upto treeWritesSpec)) treeWritesUptoCard

/-- THE SECOND FORM's CARD OF 'tarifflaw06.TreeFixed'. -/
def treeFixedUptoCard : Claim7 := { stood := { row := treeFixedUptoRow, standIns := [], harness := (true, "02721174025014ce1e19e5250f8561a92d1281d3a2d14c44feafe8163af37731"), looks := true }, kinds := [], alts := [], laidByText := true, laidKinds := [.data, .data, .data, .data, .sentinel, .sentinel, .pinned], laidTests := true, laidLooks := .later }
def TreeFixedUptoCardSaid : Prop := Claim7.holds Tryz.pinned (.plain (OpenSpec.upto treeFixedSpec)) treeFixedUptoCard

/-- THE SECOND FORM's CARD OF 'tarifflaw06.TreeApart'. -/
def treeApartUptoCard : Claim7 := { stood := { row := treeApartUptoRow, standIns := [], harness := (true, "02721174025014ce1e19e5250f8561a92d1281d3a2d14c44feafe8163af37731"), looks := true }, kinds := [], alts := [], laidByText := true, laidKinds := [.data, .data, .data, .data, .sentinel, .sentinel, .pinned], laidTests := true, laidLooks := .later }
def TreeApartUptoCardSaid : Prop := Claim7.holds Tryz.pinned (.plain (OpenSpec.upto treeApartSpec)) treeApartUptoCard
end Rows
end Go.Proofs.YtanncakdlflopaaGreatDoor
