/- What the rows' list gives the walks: the variables ErrSyntax and ErrRange. -/
import Derived.Test.YtfnodoepeiknhaaGreatDoorLexLaid
import Derived.Test.YtfnodoepeiknhaaGreatDoorMeantA
import Derived.Stop.LaidErr
import Derived.FnData
namespace Go.Proofs.YtfnodoepeiknhaaGreatDoor
open Go.RowKit

theorem errStar : "*" ++ "errors.errorString" = "*errors.errorString" := by decide
theorem errRow (u : TypeId) (h : Tryz.prog.typeName? 3 u = some "*errors.errorString") : u = 195 :=
  typeName_ptr_named (nm := "errors.errorString") (by rw [errStar]; kernel_rfl) (by kernel_rfl) (by decide) u (by rw [errStar]; exact h)
theorem gErrR : Tryz.prog.globalNamed "strconv.ErrRange" = some 4 := by kernel_rfl
theorem gErrS : Tryz.prog.globalNamed "strconv.ErrSyntax" = some 3 := by kernel_rfl
theorem gErrRT : (Tryz.prog.globals[4]?).map (·.type) = some 58 := by kernel_rfl
theorem gErrST : (Tryz.prog.globals[3]?).map (·.type) = some 58 := by kernel_rfl
theorem errCells : Tryz.prog.cellsOf 197 = 1 := by kernel_rfl
theorem strCells1 : Tryz.prog.cellsOf 9 = 1 := by kernel_rfl
theorem errs_laid {W : World} {rest : List (String × DataW Unit)} (hR : laidMet Tryz.prog (("strconv.ErrRange", Rows.laid_strconv_ErrRange) :: ("strconv.ErrSyntax", Rows.laid_strconv_ErrSyntax) :: rest) W) : ErrsAt W := by
  obtain ⟨a0, sa, hva, _, _, _⟩ := laid_sentinel hR gErrR gErrRT Tryz.underlying58 errRow Tryz.underlying195 Tryz.underlying197 rfl rfl Tryz.underlying9 errCells strCells1
  obtain ⟨b0, sb, hvb, _, _, _⟩ := laid_sentinel hR.tail gErrS gErrST Tryz.underlying58 errRow Tryz.underlying195 Tryz.underlying197 rfl rfl Tryz.underlying9 errCells strCells1
  exact ⟨⟨_, by simpa using World.var?_cell gErrS hvb 0, .inr ⟨_, _, rfl⟩⟩, ⟨_, by simpa using World.var?_cell gErrR hva 0, .inr ⟨_, _, rfl⟩⟩⟩
end Go.Proofs.YtfnodoepeiknhaaGreatDoor
