/- What the rows' list gives the walks: the table of powers of ten. -/
import Derived.Test.YtnghlakllgkjlaaGreatDoorRows
import Derived.Lib.LaidTab
import Derived.Stop.LaidErr
import Derived.Lib.ItoaNum
import Derived.Test.YtnghlakllgkjlaaGreatDoorDateA
namespace Go.Proofs.YtnghlakllgkjlaaGreatDoor
open Go.RowKit
theorem gPow : Tryz.prog.globalNamed "internal/strconv.uint64pow10" = some 7 := by kernel_rfl
theorem gPowType:(Tryz.prog.globals[7]?).map (·.type)=some 337:=by kernel_rfl
theorem cellsPow:Tryz.prog.cellsOf 337=20:=by kernel_rfl
theorem cellsPowE:Tryz.prog.cellsOf 22=1:=by kernel_rfl
theorem tab_laid_more {rest : List (String × DataW Unit)} {W : World} (h1 : laidMet Tryz.prog (("math/bits.deBruijn32tab", Rows.laid_math_bits_deBruijn32tab) :: ("math/bits.deBruijn64tab", Rows.laid_math_bits_deBruijn64tab) :: ("internal/strconv.uint64pow10", Rows.laid_internal_strconv_uint64pow10) :: rest) W) :
  Lib.TabIs Tryz.prog W "internal/strconv.uint64pow10" .u64 Lib.pow10Tab :=
 Lib.tabIs_of_head (rest:=rest) gPow gPowType Tryz.underlying337 Tryz.underlying22 cellsPowE cellsPow h1.tail.tail
theorem tab_laid {W : World} (h : laidMetH Tryz.prog (("math/bits.deBruijn32tab", Rows.laid_math_bits_deBruijn32tab) :: ("math/bits.deBruijn64tab", Rows.laid_math_bits_deBruijn64tab) :: ("internal/strconv.uint64pow10", Rows.laid_internal_strconv_uint64pow10) :: []) W) :
  Lib.TabIs Tryz.prog W "internal/strconv.uint64pow10" .u64 Lib.pow10Tab :=
 have h1 : laidMet Tryz.prog (("math/bits.deBruijn32tab", Rows.laid_math_bits_deBruijn32tab) :: ("math/bits.deBruijn64tab", Rows.laid_math_bits_deBruijn64tab) :: ("internal/strconv.uint64pow10", Rows.laid_internal_strconv_uint64pow10) :: []) W := h
 Lib.tabIs_of_head (rest:=[]) gPow gPowType Tryz.underlying337 Tryz.underlying22 cellsPowE cellsPow h1.tail.tail
end Go.Proofs.YtnghlakllgkjlaaGreatDoor
