/- known of the laws. (fast) -/
import Derived.Test.YtpjcjgikfplgnaaDoorCheckExpr
import Derived.Test.YtpjcjgikfplgnaaDoorSepA
namespace Go.Proofs.YtpjcjgikfplgnaaDoor
open Go.RowKit
set_option linter.unusedVariables false
set_option linter.unusedSimpArgs false
set_option maxRecDepth 100000

def kOne : NodeD := ⟨4, 0, ⟨#[]⟩, false, 0, 1, 0, 0⟩
def kList : NodeD := ⟨26, 2, ⟨#[]⟩, false, 0, 0, 0, 0⟩
def kText : NodeD := ⟨5, 0, ⟨#[]⟩, false, 0, 0, 0, 0⟩
def kAdd : NodeD := ⟨9, 2, ⟨#[]⟩, false, 0, 0, 0, 0⟩
theorem k_small (n : NodeD) (h : n = kOne ∨ n = kList ∨ n = kText ∨ n = kAdd) : n.wf := by
  rcases h with rfl | rfl | rfl | rfl <;> exact ⟨by decide, by decide, by decide, by decide⟩
theorem known_list : exprF [kOne, kOne, kList] [] = (⟨5, 2⟩, 0) := by kernel_rfl
theorem known_add : exprF [kOne, kText, kAdd] [] = (⟨0, 0⟩, 9) := by kernel_rfl
theorem expr_three (a b c : NodeD) (ha : a = kOne ∨ a = kList ∨ a = kText ∨ a = kAdd) (hb : b = kOne ∨ b = kList ∨ b = kText ∨ b = kAdd) (hc : c = kOne ∨ c = kList ∨ c = kText ∨ c = kAdd) {k o e : Int} (hr : exprF [a, b, c] [] = (⟨k, o⟩, e)) (g : Nat) (W : World) (h : Cells W ⟨g, 0, none⟩ (a.cs ++ b.cs ++ c.cs)) (hT : U8 W) :
    Calls Tryd.prog 12 #[.slice (some ⟨g, 0, none⟩) 3 3, .slice none 0 0] W fun e' w' => e' = .returned (.tuple #[.agg #[.int .i64 k, .int .i64 o], .int .i64 e]) ∧ Below W.heap.size W w' := by
  have h1 := cExpr_any (some ⟨g, 0, none⟩) 3 [a, b, c] none 0 [] W ⟨(fun e => by cases e), (fun a' e => by cases e; exact h)⟩ (fun i n hn => by
    have hm := List.mem_of_getElem? hn
    simp only [List.mem_cons, List.not_mem_nil, or_false] at hm
    rcases hm with rfl | rfl | rfl
    · exact k_small _ ha
    · exact k_small _ hb
    · exact k_small _ hc) (by simp) ⟨(fun _ => rfl), (fun a e => by cases e)⟩ (by simp) hT
  rw [hr] at h1
  exact h1

set_option maxHeartbeats 4000000 in
theorem known_any (w : World) (hT : U8 w) :
    Calls Tryd.prog 7 #[] w fun e w' => e = .returned (.bool true) ∧ Below w.heap.size w w' := by
  have HM := Lib.hid (Mem.start w)
  have HT := Lib.hid hT
  have H1 := Lib.hid (expr_three kOne kOne kList (Or.inl rfl) (Or.inl rfl) (Or.inr (Or.inl rfl)) known_list)
  have H2 := Lib.hid (expr_three kOne kText kAdd (Or.inl rfl) (Or.inr (Or.inr (Or.inl rfl))) (Or.inr (Or.inr (Or.inr rfl))) known_add)
  clear hT
  go_enter Tryd.func7, Tryd.ntmps7
  go_wp2_with (first | (refine bs3 rfl HM.out rfl rfl rfl rfl rfl rfl rfl ?_; intro g1 W1 HM1; replace HM := Lib.hid HM1; clear HM1) | (go_at_call 12; first | ((with_reducible refine (H1.out _ _ (box_cells (HM.out.get (k := 0) rfl) 0) (U8.below HT.out HM.out.below)).mono ?_); rintro e W1 ⟨rfl, hb⟩; replace HM := Lib.hid (HM.out.next hb); clear hb) | ((with_reducible refine (H2.out _ _ (box_cells (HM.out.get (k := 0) rfl) 0) (U8.below HT.out HM.out.below)).mono ?_); rintro e W1 ⟨rfl, hb⟩; replace HM := Lib.hid (HM.out.next hb); clear hb)) | ((with_reducible refine igd ?_); (with_reducible refine skip_op ?_ ?_); (exact rfl)) | ((with_reducible refine iload ?_); first | refine ldbW HM.out 0 rfl rfl rfl ?_ | refine ldbW HM.out 1 rfl rfl rfl ?_ | refine ldbW HM.out 2 rfl rfl rfl ?_ | refine ldbW HM.out 3 rfl rfl rfl ?_ | refine ldbW HM.out 4 rfl rfl rfl ?_ | ((first | refine ldbS HM.out 0 rfl rfl rfl ?_ | refine ldbS HM.out 1 rfl rfl rfl ?_ | refine ldbS HM.out 2 rfl rfl rfl ?_ | refine ldbS HM.out 3 rfl rfl rfl ?_ | refine ldbS HM.out 4 rfl rfl rfl ?_); simp only [List.take, List.drop])) | ((with_reducible refine istore ?_); (first | ((first | refine stbW rfl HM.out 0 rfl rfl rfl rfl rfl rfl ?_ | refine stbW rfl HM.out 1 rfl rfl rfl rfl rfl rfl ?_ | refine stbW rfl HM.out 2 rfl rfl rfl rfl rfl rfl ?_ | refine stbW rfl HM.out 3 rfl rfl rfl rfl rfl rfl ?_ | refine stbW rfl HM.out 4 rfl rfl rfl rfl rfl rfl ?_); intro W1 HM1; replace HM := Lib.hid HM1; clear HM1; simp only [List.set] at HM) | ((first | refine stbS rfl HM.out 0 rfl rfl rfl rfl rfl rfl ?_ | refine stbS rfl HM.out 1 rfl rfl rfl rfl rfl rfl ?_ | refine stbS rfl HM.out 2 rfl rfl rfl rfl rfl rfl ?_ | refine stbS rfl HM.out 3 rfl rfl rfl rfl rfl rfl ?_ | refine stbS rfl HM.out 4 rfl rfl rfl rfl rfl rfl ?_); intro W1 HM1; replace HM := Lib.hid HM1; clear HM1; simp only [lss, Nat.reduceAdd] at HM))) | ((with_reducible refine ialloc (d := some 1) ?_); refine alb rfl HM.out ?_; intro g1 W1 HM1; replace HM := Lib.hid HM1; clear HM1) | ((with_reducible refine ialloc (d := some 2) ?_); refine alb rfl HM.out ?_; intro g2 W1 HM1; replace HM := Lib.hid HM1; clear HM1) | ((with_reducible refine ialloc (d := some 4) ?_); refine alb rfl HM.out ?_; intro g4 W1 HM1; replace HM := Lib.hid HM1; clear HM1))
  go_ret
  exact ⟨rfl, HM.out.below⟩
end Go.Proofs.YtpjcjgikfplgnaaDoor
