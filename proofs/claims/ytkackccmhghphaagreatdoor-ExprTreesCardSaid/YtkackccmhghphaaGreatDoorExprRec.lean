/- The deferred function of expr.read: it takes the reader's panic up. -/
import Derived.Test.YtkackccmhghphaaGreatDoorExprAll
import Derived.Defers
import Derived.Recover
namespace Go.Proofs.YtkackccmhghphaaGreatDoor
open Go.RowKit
set_option linter.unusedVariables false
set_option linter.unusedSimpArgs false
set_option maxRecDepth 100000

theorem recIdle (p q : Option Addr) (W : World) :
  CallsD Tryz.prog 47 #[.pointer p, .pointer q] .returning W fun e u' w' => e = .returned (.tuple #[]) ∧ u' = .returning ∧ w' = W := by
 refine callsD_of_wpS Tryz.func47 rfl fun c₀ cs hu => ?_
 apply wpS_seq
 apply wpS_region
 simp [wpOpsS, go_sem, recoverD, hu, Tryz.ntmps47, Exit.thenS]
 apply wpS_seq
 apply wpS_region
 simp [wpOpsS, go_sem, Exit.thenS]
 refine wpS_cond (t := false) (by simp [Act.eval, Array.replicate]) ?_
 simp only [Bool.false_eq_true, if_false]
 refine wpS_of_wp (wp_skip ?_)
 cases c₀
 simp_all [bodyPostS, results, Tryz.results47]

set_option maxHeartbeats 4000000 in
theorem recPanic (g4 g5 : Nat) (a b : Value) (L : List Res) (older : List PanicEntry) (w0 W : World) (HM : Mem w0 W (.box g4 23 [a] :: .box g5 24 [b] :: L)) :
  CallsD Tryz.prog 47 #[.pointer (some ⟨g4, 0, none⟩), .pointer (some ⟨g5, 0, none⟩)] (.panicking ({ v := .iface 90 (.agg #[]), recovered := false } :: older)) W fun e u' w' => e = .returned (.tuple #[]) ∧ u' = .panicking ({ v := .iface 90 (.agg #[]), recovered := true } :: older) ∧ Mem w0 w' (.box g4 23 [.slice none 0 0] :: .box g5 24 [.int .i64 5] :: L) := by
 have hta : ∀ W : World, (Instr.typeAssert (.iface 90 (.agg #[])) 20 90 true).run Tryz.prog W = .ok (.tuple #[.agg #[], .bool true]) W := fun W => by kernel_rfl
 refine callsD_of_wpS Tryz.func47 rfl fun c₀ cs hu => ?_
 rw [show (#[Value.pointer (some ⟨g4, 0, none⟩), Value.pointer (some ⟨g5, 0, none⟩)] ++ Array.replicate (Tryz.f47.ntmps - (#[Value.pointer (some ⟨g4, 0, none⟩), Value.pointer (some ⟨g5, 0, none⟩)] : Array Value).size) undef : Array Value) = #[Value.pointer (some ⟨g4, 0, none⟩), Value.pointer (some ⟨g5, 0, none⟩), undef, undef, undef, undef, undef, undef, undef, undef, undef, undef, undef, undef, undef, undef] by kernel_rfl]
 apply wpS_seq
 apply wpS_region
 simp [wpOpsS, go_sem, recoverD, hu, Exit.thenS]
 refine wpS_of_wp ?_
 have HM1 := Lib.hid HM
 clear HM
 have HM := HM1
 clear HM1
 go_wp2_with (first | ((with_reducible refine iload ?_); first | refine ldb1 HM.out 0 rfl rfl rfl ?_ | refine ldb1 HM.out 1 rfl rfl rfl ?_ | refine ldb1 HM.out 2 rfl rfl rfl ?_ | refine ldbW HM.out 0 rfl rfl rfl ?_ | refine ldbW HM.out 1 rfl rfl rfl ?_ | refine ldbW HM.out 2 rfl rfl rfl ?_ | ((first | refine ldbS HM.out 0 rfl rfl rfl ?_ | refine ldbS HM.out 1 rfl rfl rfl ?_ | refine ldbS HM.out 2 rfl rfl rfl ?_); simp only [List.take, List.drop])) | ((with_reducible refine istore ?_); (first | ((first | refine stb1 (v := .int _ _) rfl HM.out 0 rfl rfl rfl rfl rfl ?_ | refine stb1 (v := .bool _) rfl HM.out 0 rfl rfl rfl rfl rfl ?_ | refine stb1 (v := .string _) rfl HM.out 0 rfl rfl rfl rfl rfl ?_ | refine stb1 (v := .slice _ _ _) rfl HM.out 0 rfl rfl rfl rfl rfl ?_ | refine stb1 (v := .pointer _) rfl HM.out 0 rfl rfl rfl rfl rfl ?_ | refine stb1 (v := .map _) rfl HM.out 0 rfl rfl rfl rfl rfl ?_ | refine stb1 (v := .int _ _) rfl HM.out 1 rfl rfl rfl rfl rfl ?_ | refine stb1 (v := .bool _) rfl HM.out 1 rfl rfl rfl rfl rfl ?_ | refine stb1 (v := .string _) rfl HM.out 1 rfl rfl rfl rfl rfl ?_ | refine stb1 (v := .slice _ _ _) rfl HM.out 1 rfl rfl rfl rfl rfl ?_ | refine stb1 (v := .pointer _) rfl HM.out 1 rfl rfl rfl rfl rfl ?_ | refine stb1 (v := .map _) rfl HM.out 1 rfl rfl rfl rfl rfl ?_ | refine stb1 (v := .int _ _) rfl HM.out 2 rfl rfl rfl rfl rfl ?_ | refine stb1 (v := .bool _) rfl HM.out 2 rfl rfl rfl rfl rfl ?_ | refine stb1 (v := .string _) rfl HM.out 2 rfl rfl rfl rfl rfl ?_ | refine stb1 (v := .slice _ _ _) rfl HM.out 2 rfl rfl rfl rfl rfl ?_ | refine stb1 (v := .pointer _) rfl HM.out 2 rfl rfl rfl rfl rfl ?_ | refine stb1 (v := .map _) rfl HM.out 2 rfl rfl rfl rfl rfl ?_ | refine stbW rfl HM.out 0 rfl rfl rfl rfl rfl rfl ?_ | refine stbW rfl HM.out 1 rfl rfl rfl rfl rfl rfl ?_ | refine stbW rfl HM.out 2 rfl rfl rfl rfl rfl rfl ?_); intro W1 HM1; replace HM := Lib.hid HM1; clear HM1; simp only [List.set] at HM) | ((first | refine stbS rfl HM.out 0 rfl rfl rfl rfl rfl rfl ?_ | refine stbS rfl HM.out 1 rfl rfl rfl rfl rfl rfl ?_ | refine stbS rfl HM.out 2 rfl rfl rfl rfl rfl rfl ?_); intro W1 HM1; replace HM := Lib.hid HM1; clear HM1; simp only [lss, Nat.reduceAdd] at HM))) | ((with_reducible refine ibuildSlice ?_); (first | refine bs0 rfl HM.out ?_ | refine bs1c (v := .bool _) rfl HM.out rfl rfl ?_ | refine bs1c (v := .int _ _) rfl HM.out rfl rfl ?_ | refine bs1c (v := .map _) rfl HM.out rfl rfl ?_ | refine bs1c (v := .pointer _) rfl HM.out rfl rfl ?_ | refine bs1c (v := .slice _ _ _) rfl HM.out rfl rfl ?_ | refine bs1c (v := .string _) rfl HM.out rfl rfl ?_ | refine bs1A rfl HM.out rfl rfl rfl ?_); intro g1 W1 HM1; replace HM := Lib.hid HM1; clear HM1) | ((with_reducible refine ialloc (d := some 3) ?_); refine alb rfl HM.out ?_; intro g3 W1 HM1; replace HM := Lib.hid HM1; clear HM1) | ((with_reducible refine ibox (d := some 3) ?_); (first | refine bxA rfl HM.out rfl ?_ | refine bx1 (v := .int _ _) rfl HM.out rfl rfl ?_ | refine bx1 (v := .bool _) rfl HM.out rfl rfl ?_ | refine bx1 (v := .string _) rfl HM.out rfl rfl ?_ | refine bx1 (v := .slice _ _ _) rfl HM.out rfl rfl ?_ | refine bx1 (v := .pointer _) rfl HM.out rfl rfl ?_ | refine bx1 (v := .map _) rfl HM.out rfl rfl ?_); intro g3 W1 HM1; replace HM := Lib.hid HM1; clear HM1) | ((with_reducible refine ialloc ?_); refine alb rfl HM.out ?_; intro g1 W1 HM1; replace HM := Lib.hid HM1; clear HM1) | ((with_reducible refine ibox ?_); (first | refine bxA rfl HM.out rfl ?_ | refine bx1 (v := .int _ _) rfl HM.out rfl rfl ?_ | refine bx1 (v := .bool _) rfl HM.out rfl rfl ?_ | refine bx1 (v := .string _) rfl HM.out rfl rfl ?_ | refine bx1 (v := .slice _ _ _) rfl HM.out rfl rfl ?_ | refine bx1 (v := .pointer _) rfl HM.out rfl rfl ?_ | refine bx1 (v := .map _) rfl HM.out rfl rfl ?_); intro g1 W1 HM1; replace HM := Lib.hid HM1; clear HM1))
 exact ⟨rfl, _, rfl, _, results_none rfl _ _ _, rfl, rfl, HM.out.sub (.cons _ (.refl _))⟩
end Go.Proofs.YtkackccmhghphaaGreatDoor
