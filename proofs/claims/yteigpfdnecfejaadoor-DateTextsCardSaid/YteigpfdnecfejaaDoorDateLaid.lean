/- What the rows' list gives the walks: the table of powers of ten. -/
import Derived.Test.YteigpfdnecfejaaDoorRows
import Derived.Lib.LaidTab
import Derived.Stop.LaidErr
import Derived.Lib.ItoaNum
import Derived.Test.YteigpfdnecfejaaDoorDateLaws
namespace Go.Proofs.YteigpfdnecfejaaDoor
open Go.RowKit

theorem gPow : Tryd.prog.globalNamed "internal/strconv.uint64pow10" = some 4 := by kernel_rfl
theorem gPowType : (Tryd.prog.globals[4]?).map (·.type) = some 117 := by kernel_rfl
theorem cellsPow : Tryd.prog.cellsOf 117 = 20 := by kernel_rfl
theorem cellsPowE : Tryd.prog.cellsOf 85 = 1 := by kernel_rfl

theorem tab_laid_more {rest : List (String × DataW Unit)} {W : World} (h1 : laidMet Tryd.prog (("math/bits.deBruijn32tab", Rows.laid_math_bits_deBruijn32tab) :: ("math/bits.deBruijn64tab", Rows.laid_math_bits_deBruijn64tab) :: ("internal/strconv.uint64pow10", Rows.laid_internal_strconv_uint64pow10) :: rest) W) :
    Lib.TabIs Tryd.prog W "internal/strconv.uint64pow10" .u64 Lib.pow10Tab :=
  Lib.tabIs_of_head (rest := rest) gPow gPowType Tryd.underlying117 Tryd.underlying85 cellsPowE cellsPow h1.tail.tail

theorem tab_laid {W : World} (h : laidMetH Tryd.prog (("math/bits.deBruijn32tab", Rows.laid_math_bits_deBruijn32tab) :: ("math/bits.deBruijn64tab", Rows.laid_math_bits_deBruijn64tab) :: ("internal/strconv.uint64pow10", Rows.laid_internal_strconv_uint64pow10) :: []) W) :
    Lib.TabIs Tryd.prog W "internal/strconv.uint64pow10" .u64 Lib.pow10Tab :=
  have h1 : laidMet Tryd.prog (("math/bits.deBruijn32tab", Rows.laid_math_bits_deBruijn32tab) :: ("math/bits.deBruijn64tab", Rows.laid_math_bits_deBruijn64tab) :: ("internal/strconv.uint64pow10", Rows.laid_internal_strconv_uint64pow10) :: []) W := h
  Lib.tabIs_of_head (rest := []) gPow gPowType Tryd.underlying117 Tryd.underlying85 cellsPowE cellsPow h1.tail.tail
end Go.Proofs.YteigpfdnecfejaaDoor
