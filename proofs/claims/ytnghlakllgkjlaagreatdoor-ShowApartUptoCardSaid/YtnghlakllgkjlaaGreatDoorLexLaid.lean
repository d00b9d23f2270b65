/- What the rows' list gives the walks: the decoder's two tables, wherever they stand in the list. -/
import Derived.Test.YtnghlakllgkjlaaGreatDoorReplA
namespace Go.Proofs.YtnghlakllgkjlaaGreatDoor
open Go.RowKit
theorem u8_in {W : World} {L : List (String × DataW Unit)} (hL : laidMet Tryz.prog L W) (h1 : ("unicode/utf8.first", Rows.laid_unicode_utf8_first) ∈ L) (h2 : ("unicode/utf8.acceptRanges", Rows.laid_unicode_utf8_acceptRanges) ∈ L) : U8 W :=
 utf8Tabs_of_readsT (U8Types.of196 Tryz.lays196) ⟨by kernel_rfl,by kernel_rfl,by kernel_rfl,by kernel_rfl,by kernel_rfl,by kernel_rfl,by kernel_rfl⟩
  (first_same▸Lib.laidMet.reads hL h1) (accept_same▸Lib.laidMet.reads hL h2)
end Go.Proofs.YtnghlakllgkjlaaGreatDoor
