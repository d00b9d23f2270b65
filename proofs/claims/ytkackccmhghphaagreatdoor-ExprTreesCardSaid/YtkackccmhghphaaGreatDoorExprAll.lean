/- The reader of expressions: all rules, by one induction on the fuel. -/
import Derived.Test.YtkackccmhghphaaGreatDoorExprRd2
import Derived.Test.YtkackccmhghphaaGreatDoorExprRd3
import Derived.Test.YtkackccmhghphaaGreatDoorExprRd5
import Derived.Test.YtkackccmhghphaaGreatDoorExprRd9
namespace Go.Proofs.YtkackccmhghphaaGreatDoor
open Go.RowKit
set_option linter.unusedVariables false

structure XAll (T : List TokD) (g : Nat) : Prop where
 expr : XC T 49 .expr g
 or : XC T 77 .or g
 and : XC T 114 .and g
 cmp : XC T 149 .cmp g
 sum : XC T 146 .sum g
 prod : XC T 173 .prod g
 sgn : XC T 192 .sgn g
 sing : XC T 207 .sing g
 grp : XC T 74 .grp g
 tests : XC T 75 .tests g
 test : XC T 113 .test g
theorem xc_zero (T : List TokD) (f : FuncId) (N : NT) : XC T f N 0 := fun _ _ _ _ _ _ _ _ _ _ _ _ _ _ hne => absurd rfl hne
theorem xAll {T : List TokD} (hT : TksOk T) (hK : KndOk T) : ∀ f g, g ≤ f → XAll T g := by
 intro f
 induction f with
 | zero =>
  intro g hg
  obtain rfl : g = 0 := by omega
  exact ⟨xc_zero _ _ _, xc_zero _ _ _, xc_zero _ _ _, xc_zero _ _ _, xc_zero _ _ _, xc_zero _ _ _, xc_zero _ _ _, xc_zero _ _ _, xc_zero _ _ _, xc_zero _ _ _, xc_zero _ _ _⟩
 | succ f ih =>
  intro g hg
  by_cases h : g ≤ f
  ·exact ih g h
  ·obtain rfl : g = f + 1 := by omega
   exact ⟨xExpr hT f (fun g h => (ih g h).expr) (fun g h => (ih g h).or), xOr hT f (fun g h => (ih g h).and), xAnd hT f (fun g h => (ih g h).cmp), xCmp hT f (fun g h => (ih g h).sum) (fun g h => (ih g h).grp), xSum hT f (fun g h => (ih g h).prod), xProd hT f (fun g h => (ih g h).sgn), xSigned hT f (fun g h => (ih g h).sing), xSingle hT hK f (fun g h => (ih g h).expr), xGroup hT f (fun g h => (ih g h).tests), xTests hT f (fun g h => (ih g h).test), xTest hT f (fun g h => (ih g h).sum)⟩
/-- The whole: an expression, or all as unary tests. -/
theorem xTop {T : List TokD} (hT : TksOk T) (hK : KndOk T) (tests : Bool) (w0 W : World) (R : Nat) (tp : Option Addr) (tc : Nat) (op : Option Addr) (oc : Nat) (rest : List Res) (HTk : Sl w0 tp (T.flatMap TokD.cs)) (HM0 : Mem w0 W (.box R 94 [.slice tp T.length tc, .int .i64 0, .slice op 0 oc] :: .row op oc 36 8 0 [] :: rest)) :
  Calls Tryz.prog (if tests then 48 else 49) #[.pointer (some ⟨R, 0, none⟩)] W (XPost (topG T tests) unitV w0 R tp T.length tc [] rest) := by
 have hne := topG_out T tests
 unfold topG topN at hne ⊢
 cases tests with
 | true => exact xUnary hT _ (fun g h => (xAll hT hK _ g h).grp) (fun g h => (xAll hT hK _ g h).tests) w0 W R tp tc op oc [] rest HTk HM0 (Nat.zero_le _) hne
 | false => exact (xAll hT hK _ _ (Nat.le_refl _)).expr w0 W R tp tc 0 op oc [] rest HTk HM0 (Nat.zero_le _) (Nat.zero_le _) hne
end Go.Proofs.YtkackccmhghphaaGreatDoor
