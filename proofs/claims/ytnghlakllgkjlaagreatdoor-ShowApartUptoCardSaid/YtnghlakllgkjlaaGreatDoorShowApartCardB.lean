/- (The row.) ShowApart: for every input the law returns true, and each argument reads behind the call as it read before; the listed variables hold what the program lays. -/
import Derived.Test.YtnghlakllgkjlaaGreatDoorShowApartCardA
namespace Go.Proofs.YtnghlakllgkjlaaGreatDoor.showApart
open Go.ChangeShapes Go.WideShapes Go.ChangeAt Go.RowKit
open Go.ChangeMaps (open_string shut_string)
set_option linter.unusedVariables false
theorem and_t {a b:Bool} (ha:a=true) (hb:b=true):(a && b)=true:=by rw [ha,hb];rfl
set_option maxHeartbeats 16000000 in
set_option maxRecDepth 1000000 in
theorem said:Rows.ShowApartUptoSaid:=
 OpenClaim.holds_of_cond 6 Tryz.f6 rfl rfl rfl rfl rfl rfl rfl ⟨rfl,rfl,rfl,rfl,rfl⟩ rfl rfl rfl rfl rfl (by kernel_rfl) Tryz.func6 (by unfold joinedFacts;(repeat' (with_reducible refine and_t ?_ ?_)) <;> as_aux_lemma=>kernel_rfl)
  (of_decide_eq_true (by kernel_rfl)) (by unfold Func.isWrapper;rw [if_neg (of_decide_eq_false (by kernel_rfl))];exact ⟨rfl,rfl⟩)
  (fun os started H enc _ F=>by rw [OpenClaim.pre_eq_preRow];exact lifted os started H enc F)
end Go.Proofs.YtnghlakllgkjlaaGreatDoor.showApart
