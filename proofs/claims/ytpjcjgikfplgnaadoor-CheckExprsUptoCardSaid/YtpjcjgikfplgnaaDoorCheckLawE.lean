/- CheckExprs: the law's walk. (fast) -/
import Derived.Test.YtpjcjgikfplgnaaDoorCheckKnown
import Derived.Test.YtpjcjgikfplgnaaDoorRefTopE
namespace Go.Proofs.YtpjcjgikfplgnaaDoor
open Go.RowKit
set_option linter.unusedVariables false
set_option linter.unusedSimpArgs false
set_option maxRecDepth 100000

set_option maxHeartbeats 4000000 in
theorem checkExprs_walk (p : Option Addr) (c : Nat) (ns : List NodeD) (q : Option Addr) (c2 : Nat) (l : List SymD) (w : World) (hN : Sl w p (ns.flatMap NodeD.cs)) (hwf : ∀ (i : Nat) (n : NodeD), ns[i]? = some n → n.wf) (hl : ns.length ≤ 1048576) (hL : Sl w q (l.flatMap SymD.cs)) (hl2 : l.length ≤ 1048576) (hT : U8 w) :
    Calls Tryd.prog 4 #[.slice p ns.length c, .slice q l.length c2] w fun e w' => e = .returned (.bool true) ∧ Below w.heap.size w w' := by
  have HM := Lib.hid (Mem.start w)
  have HN := Lib.hid hN
  have HL := Lib.hid hL
  have HT := Lib.hid hT
  obtain ⟨⟨⟨rk, ro⟩, re⟩, hre⟩ : ∃ r, exprF ns l = r := ⟨_, rfl⟩
  have HDe := Lib.hid (fun W (h1 : Sl W p (ns.flatMap NodeD.cs)) (h2 : Sl W q (l.flatMap SymD.cs)) => (show Calls Tryd.prog 11 #[.slice p ns.length c, .slice q l.length c2] W fun e w' => e = .returned (.tuple #[.agg #[.int .i64 rk, .int .i64 ro], .int .i64 re]) ∧ Below W.heap.size W w' from by
    have h := rDocExpr_any p c ns q c2 l W h1 hwf (by omega) h2 (by omega)
    rw [hre] at h
    exact h))
  have HEx := Lib.hid (fun W (h1 : Sl W p (ns.flatMap NodeD.cs)) (h2 : Sl W q (l.flatMap SymD.cs)) (h3 : U8 W) => (show Calls Tryd.prog 12 #[.slice p ns.length c, .slice q l.length c2] W fun e w' => e = .returned (.tuple #[.agg #[.int .i64 rk, .int .i64 ro], .int .i64 re]) ∧ Below W.heap.size W w' from by
    have h := cExpr_any p c ns q c2 l W h1 hwf (by omega) h2 (by omega) h3
    rw [hre] at h
    exact h))
  clear hN hL hT hwf hre
  go_enter Tryd.func4, Tryd.ntmps4
  go_wp2_with (first | (go_at_call 7; (with_reducible refine (known_any _ (U8.below HT.out HM.out.below)).mono ?_); rintro e W1 ⟨rfl, hb⟩; replace HM := Lib.hid (HM.out.next hb); clear hb) | (go_at_call 11; (with_reducible refine (HDe.out _ (HM.out.sl HN.out) (HM.out.sl HL.out)).mono ?_); rintro e W1 ⟨rfl, hb⟩; replace HM := Lib.hid (HM.out.next hb); clear hb) | (go_at_call 12; (with_reducible refine (HEx.out _ (HM.out.sl HN.out) (HM.out.sl HL.out) (U8.below HT.out HM.out.below)).mono ?_); rintro e W1 ⟨rfl, hb⟩; replace HM := Lib.hid (HM.out.next hb); clear hb) | ((with_reducible refine igd ?_); (with_reducible refine skip_op ?_ ?_); (exact rfl)) | ((with_reducible refine iload ?_); first | refine ldbW HM.out 0 rfl rfl rfl ?_ | refine ldbW HM.out 1 rfl rfl rfl ?_ | ((first | refine ldbS HM.out 0 rfl rfl rfl ?_ | refine ldbS HM.out 1 rfl rfl rfl ?_); simp only [List.take, List.drop])) | ((with_reducible refine istore ?_); (first | ((first | refine stbW rfl HM.out 0 rfl rfl rfl rfl rfl rfl ?_ | refine stbW rfl HM.out 1 rfl rfl rfl rfl rfl rfl ?_); intro W1 HM1; replace HM := Lib.hid HM1; clear HM1; simp only [List.set] at HM) | ((first | refine stbS rfl HM.out 0 rfl rfl rfl rfl rfl rfl ?_ | refine stbS rfl HM.out 1 rfl rfl rfl rfl rfl rfl ?_); intro W1 HM1; replace HM := Lib.hid HM1; clear HM1; simp only [lss, Nat.reduceAdd] at HM))) | ((with_reducible refine ialloc (d := some 5) ?_); refine alb rfl HM.out ?_; intro g5 W1 HM1; replace HM := Lib.hid HM1; clear HM1) | ((with_reducible refine ialloc (d := some 7) ?_); refine alb rfl HM.out ?_; intro g7 W1 HM1; replace HM := Lib.hid HM1; clear HM1))
  go_ret
  exact ⟨rfl, HM.out.below⟩
end Go.Proofs.YtpjcjgikfplgnaaDoor
