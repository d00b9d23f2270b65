/- The rules of the grammar: what the reader of expressions does. (fast) -/
import Derived.Test.YtkackccmhghphaaGreatDoorExprRd1
namespace Go.Proofs.YtkackccmhghphaaGreatDoor
open Go.RowKit
set_option linter.unusedVariables false
set_option linter.unusedSimpArgs false
set_option maxRecDepth 100000

set_option maxHeartbeats 8000000 in
theorem xExpr {T : List TokD} (hT : TksOk T) (fuel : Nat) (ihE : ∀ g, g ≤ fuel → XC T 49 .expr g) (ihO : ∀ g, g ≤ fuel → XC T 77 .or g) : XC T 49 .expr (fuel + 1) := by
 intro w0 W R tp tc i op oc acc rest HTk HM0 hi ha hne
 obtain ⟨r, hr⟩ : ∃ r, G T (fuel + 1) .expr i = r := ⟨_, rfl⟩
 rw [hr] at hne ⊢
 have HR := Lib.hid hr
 clear hr
 have hr : r ≠ .out := hne
 have HM := Lib.hid HM0
 have HTk := Lib.hid HTk
 have hT1 := hT.len
 clear HM0 hne
 simp only [G] at HR
 go_enter Tryz.func49, Tryz.ntmps49
 go_wp2_with (first | (go_at_call 72; refine take_use HR.out HTk.out HM.out (by omega) hT1 (by omega) rfl ?_ ?_; all_goals (intro hb hR2 W2 hM2; (try have hlt := isT_lt hb); clear hb; have HR1 := Lib.hid hR2; clear HR hR2; have HR := HR1; clear HR1; have HM1 := Lib.hid hM2; clear HM hM2; (try clear W1); rename World => W1; have HM := HM1; clear HM1)) | (go_at_call 49; refine XC.use (ihE fuel (Nat.le_refl _)) HR.out hr HTk.out HM.out (by omega) (by omega) (by (first | omega | (simp only [List.length_append, List.length_cons, List.length_nil]; omega))) (fun hno W2 hb => (show _ ∧ _ from ⟨rfl, XPost.no_ hno hb⟩)) ?_; intro l m j hR2 hG op1 oc1 W2 hM2; have hg := (hG (by simp)).lenc 0 rfl rfl rfl; clear hG; obtain ⟨hL, hF, hJ⟩ := hg; have HR1 := Lib.hid hR2; clear HR hR2; have HR := HR1; clear HR1; have HM1 := Lib.hid hM2; clear HM hM2; (try clear W1); rename World => W1; have HM := HM1; clear HM1) | (go_at_call 76; refine must_use HR.out HTk.out HM.out (by omega) hT1 (by omega) rfl (fun hno W2 hb => (show _ ∧ _ from ⟨rfl, XPost.no_ hno hb⟩)) ?_; intro hb hR2 W2 hM2; have hlt := isT_lt hb; clear hb; have HR1 := Lib.hid hR2; clear HR hR2; have HR := HR1; clear HR1; have HM1 := Lib.hid hM2; clear HM hM2; (try clear W1); rename World => W1; have HM := HM1; clear HM1) | (go_at_call 73; refine put_use _ _ HM.out (by (first | omega | (simp only [List.length_append, List.length_cons, List.length_nil]; omega))) ?_; intro op1 oc1 W2 hM2; have HM1 := Lib.hid hM2; clear HM hM2; (try clear W1); rename World => W1; have HM := HM1; clear HM1) | (go_at_call 77; refine XC.use (ihO fuel (Nat.le_refl _)) ((bind_ok _).trans HR.out) hr HTk.out HM.out (by omega) (by omega) (by (first | omega | (simp only [List.length_append, List.length_cons, List.length_nil]; omega))) (fun hno W2 hb => (show _ ∧ _ from ⟨rfl, XPost.no_ hno hb⟩)) ?_; intro l m j hR2 hG op1 oc1 W2 hM2; have hg := (hG (by simp)).lenc 0 rfl rfl rfl; clear hG; obtain ⟨hL, hF, hJ⟩ := hg; have HR1 := Lib.hid hR2; clear HR hR2; have HR := HR1; clear HR1; have HM1 := Lib.hid hM2; clear HM hM2; (try clear W1); rename World => W1; have HM := HM1; clear HM1))
 all_goals (first | go_end0 | go_ret | go_ret2)
 all_goals (exact XPost.ok_ HR.out (by simp only [List.append_assoc, List.append_nil, List.cons_append, List.nil_append, relT]) HM.out)


set_option maxHeartbeats 8000000 in
theorem xOr {T : List TokD} (hT : TksOk T) (fuel : Nat) (ihS : ∀ g, g ≤ fuel → XC T 114 .and g) : XC T 77 .or (fuel + 1) := by
 intro w0 W R tp tc i op oc acc rest HTk HM0 hi ha hne
 obtain ⟨r, hr⟩ : ∃ r, G T (fuel + 1) .or i = r := ⟨_, rfl⟩
 rw [hr] at hne ⊢
 have HR := Lib.hid hr
 clear hr
 have hr : r ≠ .out := hne
 have HM := Lib.hid HM0
 have HTk := Lib.hid HTk
 have hT1 := hT.len
 clear HM0 hne
 simp only [G] at HR
 go_enter Tryz.func77, Tryz.ntmps77
 go_wp2_with (first | (go_at_call 114; refine XC.use (ihS fuel (Nat.le_refl _)) HR.out hr HTk.out HM.out (by omega) (by omega) (by (first | omega | (simp only [List.length_append, List.length_cons, List.length_nil]; omega))) (fun hno W2 hb => (show _ ∧ _ from ⟨rfl, XPost.no_ hno hb⟩)) ?_; intro l m j hR2 hG op1 oc1 W2 hM2; have hg := (hG (by simp)).lenc 0 rfl rfl rfl; clear hG; obtain ⟨hL, hF, hJ⟩ := hg; have HR1 := Lib.hid hR2; clear HR hR2; have HR := HR1; clear HR1; have HM1 := Lib.hid hM2; clear HM hM2; (try clear W1); rename World => W1; have HM := HM1; clear HM1))
 have HMl := HM
 go_loopw [5] (fun _ wr => ∃ (g j oc : Nat) (op : Option Addr) (a : List NodeD), g ≤ fuel ∧ j ≤ T.length ∧ i + a.length ≤ j ∧ Hid (G T g (.orL a) j = r) ∧ Hid (Mem w0 wr (.box R 94 [.slice tp T.length tc, .int .i64 j, .slice op (acc ++ a).length oc] :: .row op oc 36 8 (acc ++ a).length ((acc ++ a).flatMap NodeD.cs) :: rest))) (fun _ wr => T.length - (intOf ((wr.cell? ⟨R, 1, none⟩).getD undef)).toNat)
 case atStart => exact ⟨fuel, _, _, _, _, Nat.le_refl _, hJ, by omega, HR, HM⟩
 case round =>
  clear HM HMl HR hL hF hJ
  obtain ⟨g, j0, oc2, op2, a, hg, hj0, hla, HR, HM⟩ := hrel
  have HK := Lib.hid (xrd_at HM.out)
  cases g with
  | zero => exact absurd HR.out.symm hr
  | succ g =>
   have hR2 := HR.out
   simp only [G] at hR2
   have HR1 := Lib.hid hR2
   clear HR hR2
   have HR := HR1
   clear HR1
   go_wp2_with (first | (go_at_call 72; refine take_use HR.out HTk.out HM.out (by omega) hT1 (by omega) rfl ?_ ?_; all_goals (intro hb hR2 W2 hM2; (try have hlt := isT_lt hb); clear hb; have HR1 := Lib.hid hR2; clear HR hR2; have HR := HR1; clear HR1; have HM1 := Lib.hid hM2; clear HM hM2; (try clear W1); rename World => W1; have HM := HM1; clear HM1)) | (go_at_call 114; refine XC.use (ihS g (by omega)) HR.out hr HTk.out HM.out (by omega) (by omega) (by (first | omega | (simp only [List.length_append, List.length_cons, List.length_nil]; omega))) (fun hno W2 hb => (show _ ∧ _ from ⟨rfl, XPost.no_ hno hb⟩)) ?_; intro l m j hR2 hG op1 oc1 W2 hM2; have hg := (hG (by simp)).lenc 0 rfl rfl rfl; clear hG; obtain ⟨hL, hF, hJ⟩ := hg; have HR1 := Lib.hid hR2; clear HR hR2; have HR := HR1; clear HR1; have HM1 := Lib.hid hM2; clear HM hM2; (try clear W1); rename World => W1; have HM := HM1; clear HM1) | (go_at_call 73; refine put_use _ _ HM.out (by (first | omega | (simp only [List.length_append, List.length_cons, List.length_nil]; omega))) ?_; intro op1 oc1 W2 hM2; have HM1 := Lib.hid hM2; clear HM hM2; (try clear W1); rename World => W1; have HM := HM1; clear HM1))
   all_goals first
    |(go_roundw
      case rel => exact ⟨g, _, _, _, _, by omega, by omega, by (simp only [List.length_append, List.length_cons, List.length_nil]; omega), HR, Lib.hid (by simpa only [List.append_assoc] using HM.out)⟩
      case measure => rw [xrd_at HM.out, HK.out]; omega)
    |(go_ret; exact XPost.ok_ HR.out rfl HM.out)
    |(go_end0; exact XPost.ok_ HR.out rfl HM.out)


set_option maxHeartbeats 8000000 in
theorem xAnd {T : List TokD} (hT : TksOk T) (fuel : Nat) (ihS : ∀ g, g ≤ fuel → XC T 149 .cmp g) : XC T 114 .and (fuel + 1) := by
 intro w0 W R tp tc i op oc acc rest HTk HM0 hi ha hne
 obtain ⟨r, hr⟩ : ∃ r, G T (fuel + 1) .and i = r := ⟨_, rfl⟩
 rw [hr] at hne ⊢
 have HR := Lib.hid hr
 clear hr
 have hr : r ≠ .out := hne
 have HM := Lib.hid HM0
 have HTk := Lib.hid HTk
 have hT1 := hT.len
 clear HM0 hne
 simp only [G] at HR
 go_enter Tryz.func114, Tryz.ntmps114
 go_wp2_with (first | (go_at_call 149; refine XC.use (ihS fuel (Nat.le_refl _)) HR.out hr HTk.out HM.out (by omega) (by omega) (by (first | omega | (simp only [List.length_append, List.length_cons, List.length_nil]; omega))) (fun hno W2 hb => (show _ ∧ _ from ⟨rfl, XPost.no_ hno hb⟩)) ?_; intro l m j hR2 hG op1 oc1 W2 hM2; have hg := (hG (by simp)).lenc 0 rfl rfl rfl; clear hG; obtain ⟨hL, hF, hJ⟩ := hg; have HR1 := Lib.hid hR2; clear HR hR2; have HR := HR1; clear HR1; have HM1 := Lib.hid hM2; clear HM hM2; (try clear W1); rename World => W1; have HM := HM1; clear HM1))
 have HMl := HM
 go_loopw [5] (fun _ wr => ∃ (g j oc : Nat) (op : Option Addr) (a : List NodeD), g ≤ fuel ∧ j ≤ T.length ∧ i + a.length ≤ j ∧ Hid (G T g (.andL a) j = r) ∧ Hid (Mem w0 wr (.box R 94 [.slice tp T.length tc, .int .i64 j, .slice op (acc ++ a).length oc] :: .row op oc 36 8 (acc ++ a).length ((acc ++ a).flatMap NodeD.cs) :: rest))) (fun _ wr => T.length - (intOf ((wr.cell? ⟨R, 1, none⟩).getD undef)).toNat)
 case atStart => exact ⟨fuel, _, _, _, _, Nat.le_refl _, hJ, by omega, HR, HM⟩
 case round =>
  clear HM HMl HR hL hF hJ
  obtain ⟨g, j0, oc2, op2, a, hg, hj0, hla, HR, HM⟩ := hrel
  have HK := Lib.hid (xrd_at HM.out)
  cases g with
  | zero => exact absurd HR.out.symm hr
  | succ g =>
   have hR2 := HR.out
   simp only [G] at hR2
   have HR1 := Lib.hid hR2
   clear HR hR2
   have HR := HR1
   clear HR1
   go_wp2_with (first | (go_at_call 72; refine take_use HR.out HTk.out HM.out (by omega) hT1 (by omega) rfl ?_ ?_; all_goals (intro hb hR2 W2 hM2; (try have hlt := isT_lt hb); clear hb; have HR1 := Lib.hid hR2; clear HR hR2; have HR := HR1; clear HR1; have HM1 := Lib.hid hM2; clear HM hM2; (try clear W1); rename World => W1; have HM := HM1; clear HM1)) | (go_at_call 149; refine XC.use (ihS g (by omega)) HR.out hr HTk.out HM.out (by omega) (by omega) (by (first | omega | (simp only [List.length_append, List.length_cons, List.length_nil]; omega))) (fun hno W2 hb => (show _ ∧ _ from ⟨rfl, XPost.no_ hno hb⟩)) ?_; intro l m j hR2 hG op1 oc1 W2 hM2; have hg := (hG (by simp)).lenc 0 rfl rfl rfl; clear hG; obtain ⟨hL, hF, hJ⟩ := hg; have HR1 := Lib.hid hR2; clear HR hR2; have HR := HR1; clear HR1; have HM1 := Lib.hid hM2; clear HM hM2; (try clear W1); rename World => W1; have HM := HM1; clear HM1) | (go_at_call 73; refine put_use _ _ HM.out (by (first | omega | (simp only [List.length_append, List.length_cons, List.length_nil]; omega))) ?_; intro op1 oc1 W2 hM2; have HM1 := Lib.hid hM2; clear HM hM2; (try clear W1); rename World => W1; have HM := HM1; clear HM1))
   all_goals first
    |(go_roundw
      case rel => exact ⟨g, _, _, _, _, by omega, by omega, by (simp only [List.length_append, List.length_cons, List.length_nil]; omega), HR, Lib.hid (by simpa only [List.append_assoc] using HM.out)⟩
      case measure => rw [xrd_at HM.out, HK.out]; omega)
    |(go_ret; exact XPost.ok_ HR.out rfl HM.out)
    |(go_end0; exact XPost.ok_ HR.out rfl HM.out)


set_option maxHeartbeats 8000000 in
theorem xSum {T : List TokD} (hT : TksOk T) (fuel : Nat) (ihS : ∀ g, g ≤ fuel → XC T 173 .prod g) : XC T 146 .sum (fuel + 1) := by
 intro w0 W R tp tc i op oc acc rest HTk HM0 hi ha hne
 obtain ⟨r, hr⟩ : ∃ r, G T (fuel + 1) .sum i = r := ⟨_, rfl⟩
 rw [hr] at hne ⊢
 have HR := Lib.hid hr
 clear hr
 have hr : r ≠ .out := hne
 have HM := Lib.hid HM0
 have HTk := Lib.hid HTk
 have hT1 := hT.len
 clear HM0 hne
 simp only [G] at HR
 go_enter Tryz.func146, Tryz.ntmps146
 go_wp2_with (first | (go_at_call 173; refine XC.use (ihS fuel (Nat.le_refl _)) HR.out hr HTk.out HM.out (by omega) (by omega) (by (first | omega | (simp only [List.length_append, List.length_cons, List.length_nil]; omega))) (fun hno W2 hb => (show _ ∧ _ from ⟨rfl, XPost.no_ hno hb⟩)) ?_; intro l m j hR2 hG op1 oc1 W2 hM2; have hg := (hG (by simp)).lenc 0 rfl rfl rfl; clear hG; obtain ⟨hL, hF, hJ⟩ := hg; have HR1 := Lib.hid hR2; clear HR hR2; have HR := HR1; clear HR1; have HM1 := Lib.hid hM2; clear HM hM2; (try clear W1); rename World => W1; have HM := HM1; clear HM1))
 have HMl := HM
 go_loopw [6] (fun _ wr => ∃ (g j oc : Nat) (op : Option Addr) (a : List NodeD), g ≤ fuel ∧ j ≤ T.length ∧ i + a.length ≤ j ∧ Hid (G T g (.sumL a) j = r) ∧ Hid (Mem w0 wr (.box R 94 [.slice tp T.length tc, .int .i64 j, .slice op (acc ++ a).length oc] :: .row op oc 36 8 (acc ++ a).length ((acc ++ a).flatMap NodeD.cs) :: rest))) (fun _ wr => T.length - (intOf ((wr.cell? ⟨R, 1, none⟩).getD undef)).toNat)
 case atStart => exact ⟨fuel, _, _, _, _, Nat.le_refl _, hJ, by omega, HR, HM⟩
 case round =>
  clear HM HMl HR hL hF hJ
  obtain ⟨g, j0, oc2, op2, a, hg, hj0, hla, HR, HM⟩ := hrel
  have HK := Lib.hid (xrd_at HM.out)
  cases g with
  | zero => exact absurd HR.out.symm hr
  | succ g =>
   have hR2 := HR.out
   simp only [G] at hR2
   have HR1 := Lib.hid hR2
   clear HR hR2
   have HR := HR1
   clear HR1
   go_wp2_with (first | (go_at_call 72; refine take_use HR.out HTk.out HM.out (by omega) hT1 (by omega) rfl ?_ ?_; all_goals (intro hb hR2 W2 hM2; (try have hlt := isT_lt hb); clear hb; have HR1 := Lib.hid hR2; clear HR hR2; have HR := HR1; clear HR1; have HM1 := Lib.hid hM2; clear HM hM2; (try clear W1); rename World => W1; have HM := HM1; clear HM1)) | (go_at_call 173; refine XC.use (ihS g (by omega)) HR.out hr HTk.out HM.out (by omega) (by omega) (by (first | omega | (simp only [List.length_append, List.length_cons, List.length_nil]; omega))) (fun hno W2 hb => (show _ ∧ _ from ⟨rfl, XPost.no_ hno hb⟩)) ?_; intro l m j hR2 hG op1 oc1 W2 hM2; have hg := (hG (by simp)).lenc 0 rfl rfl rfl; clear hG; obtain ⟨hL, hF, hJ⟩ := hg; have HR1 := Lib.hid hR2; clear HR hR2; have HR := HR1; clear HR1; have HM1 := Lib.hid hM2; clear HM hM2; (try clear W1); rename World => W1; have HM := HM1; clear HM1) | (go_at_call 73; refine put_use _ _ HM.out (by (first | omega | (simp only [List.length_append, List.length_cons, List.length_nil]; omega))) ?_; intro op1 oc1 W2 hM2; have HM1 := Lib.hid hM2; clear HM hM2; (try clear W1); rename World => W1; have HM := HM1; clear HM1))
   all_goals first
    |(go_roundw
      case rel => exact ⟨g, _, _, _, _, by omega, by omega, by (simp only [List.length_append, List.length_cons, List.length_nil]; omega), HR, Lib.hid (by simpa only [List.append_assoc] using HM.out)⟩
      case measure => rw [xrd_at HM.out, HK.out]; omega)
    |(go_ret; exact XPost.ok_ HR.out rfl HM.out)
    |(go_end0; exact XPost.ok_ HR.out rfl HM.out)


set_option maxHeartbeats 8000000 in
theorem xProd {T : List TokD} (hT : TksOk T) (fuel : Nat) (ihS : ∀ g, g ≤ fuel → XC T 192 .sgn g) : XC T 173 .prod (fuel + 1) := by
 intro w0 W R tp tc i op oc acc rest HTk HM0 hi ha hne
 obtain ⟨r, hr⟩ : ∃ r, G T (fuel + 1) .prod i = r := ⟨_, rfl⟩
 rw [hr] at hne ⊢
 have HR := Lib.hid hr
 clear hr
 have hr : r ≠ .out := hne
 have HM := Lib.hid HM0
 have HTk := Lib.hid HTk
 have hT1 := hT.len
 clear HM0 hne
 simp only [G] at HR
 go_enter Tryz.func173, Tryz.ntmps173
 go_wp2_with (first | (go_at_call 192; refine XC.use (ihS fuel (Nat.le_refl _)) HR.out hr HTk.out HM.out (by omega) (by omega) (by (first | omega | (simp only [List.length_append, List.length_cons, List.length_nil]; omega))) (fun hno W2 hb => (show _ ∧ _ from ⟨rfl, XPost.no_ hno hb⟩)) ?_; intro l m j hR2 hG op1 oc1 W2 hM2; have hg := (hG (by simp)).lenc 0 rfl rfl rfl; clear hG; obtain ⟨hL, hF, hJ⟩ := hg; have HR1 := Lib.hid hR2; clear HR hR2; have HR := HR1; clear HR1; have HM1 := Lib.hid hM2; clear HM hM2; (try clear W1); rename World => W1; have HM := HM1; clear HM1))
 have HMl := HM
 go_loopw [6] (fun _ wr => ∃ (g j oc : Nat) (op : Option Addr) (a : List NodeD), g ≤ fuel ∧ j ≤ T.length ∧ i + a.length ≤ j ∧ Hid (G T g (.prodL a) j = r) ∧ Hid (Mem w0 wr (.box R 94 [.slice tp T.length tc, .int .i64 j, .slice op (acc ++ a).length oc] :: .row op oc 36 8 (acc ++ a).length ((acc ++ a).flatMap NodeD.cs) :: rest))) (fun _ wr => T.length - (intOf ((wr.cell? ⟨R, 1, none⟩).getD undef)).toNat)
 case atStart => exact ⟨fuel, _, _, _, _, Nat.le_refl _, hJ, by omega, HR, HM⟩
 case round =>
  clear HM HMl HR hL hF hJ
  obtain ⟨g, j0, oc2, op2, a, hg, hj0, hla, HR, HM⟩ := hrel
  have HK := Lib.hid (xrd_at HM.out)
  cases g with
  | zero => exact absurd HR.out.symm hr
  | succ g =>
   have hR2 := HR.out
   simp only [G] at hR2
   have HR1 := Lib.hid hR2
   clear HR hR2
   have HR := HR1
   clear HR1
   go_wp2_with (first | (go_at_call 72; refine take_use HR.out HTk.out HM.out (by omega) hT1 (by omega) rfl ?_ ?_; all_goals (intro hb hR2 W2 hM2; (try have hlt := isT_lt hb); clear hb; have HR1 := Lib.hid hR2; clear HR hR2; have HR := HR1; clear HR1; have HM1 := Lib.hid hM2; clear HM hM2; (try clear W1); rename World => W1; have HM := HM1; clear HM1)) | (go_at_call 192; refine XC.use (ihS g (by omega)) HR.out hr HTk.out HM.out (by omega) (by omega) (by (first | omega | (simp only [List.length_append, List.length_cons, List.length_nil]; omega))) (fun hno W2 hb => (show _ ∧ _ from ⟨rfl, XPost.no_ hno hb⟩)) ?_; intro l m j hR2 hG op1 oc1 W2 hM2; have hg := (hG (by simp)).lenc 0 rfl rfl rfl; clear hG; obtain ⟨hL, hF, hJ⟩ := hg; have HR1 := Lib.hid hR2; clear HR hR2; have HR := HR1; clear HR1; have HM1 := Lib.hid hM2; clear HM hM2; (try clear W1); rename World => W1; have HM := HM1; clear HM1) | (go_at_call 73; refine put_use _ _ HM.out (by (first | omega | (simp only [List.length_append, List.length_cons, List.length_nil]; omega))) ?_; intro op1 oc1 W2 hM2; have HM1 := Lib.hid hM2; clear HM hM2; (try clear W1); rename World => W1; have HM := HM1; clear HM1))
   all_goals first
    |(go_roundw
      case rel => exact ⟨g, _, _, _, _, by omega, by omega, by (simp only [List.length_append, List.length_cons, List.length_nil]; omega), HR, Lib.hid (by simpa only [List.append_assoc] using HM.out)⟩
      case measure => rw [xrd_at HM.out, HK.out]; omega)
    |(go_ret; exact XPost.ok_ HR.out rfl HM.out)
    |(go_end0; exact XPost.ok_ HR.out rfl HM.out)


set_option maxHeartbeats 8000000 in
theorem xGroup {T : List TokD} (hT : TksOk T) (fuel : Nat) (ihT : ∀ g, g ≤ fuel → XC T 75 .tests g) : XC T 74 .grp (fuel + 1) := by
 intro w0 W R tp tc i op oc acc rest HTk HM0 hi ha hne
 obtain ⟨r, hr⟩ : ∃ r, G T (fuel + 1) .grp i = r := ⟨_, rfl⟩
 rw [hr] at hne ⊢
 have HR := Lib.hid hr
 clear hr
 have hr : r ≠ .out := hne
 have HM := Lib.hid HM0
 have HTk := Lib.hid HTk
 have hT1 := hT.len
 clear HM0 hne
 simp only [G] at HR
 go_enter Tryz.func74, Tryz.ntmps74
 go_wp2_with (first | (go_at_call 76; refine must_use HR.out HTk.out HM.out (by omega) hT1 (by omega) rfl (fun hno W2 hb => (show _ ∧ _ from ⟨rfl, XPost.no_ hno hb⟩)) ?_; intro hb hR2 W2 hM2; have hlt := isT_lt hb; clear hb; have HR1 := Lib.hid hR2; clear HR hR2; have HR := HR1; clear HR1; have HM1 := Lib.hid hM2; clear HM hM2; (try clear W1); rename World => W1; have HM := HM1; clear HM1) | (go_at_call 75; refine XC.use (ihT fuel (Nat.le_refl _)) HR.out hr HTk.out HM.out (by omega) (by omega) (by (first | omega | (simp only [List.length_append, List.length_cons, List.length_nil]; omega))) (fun hno W2 hb => (show _ ∧ _ from ⟨rfl, XPost.no_ hno hb⟩)) ?_; intro l m j hR2 hG op1 oc1 W2 hM2; have hg := (hG (by simp)).lenc 2 rfl rfl rfl; clear hG; obtain ⟨hL, hF, hJ⟩ := hg; have HR1 := Lib.hid hR2; clear HR hR2; have HR := HR1; clear HR1; have HM1 := Lib.hid hM2; clear HM hM2; (try clear W1); rename World => W1; have HM := HM1; clear HM1))
 all_goals (first | go_end0 | go_ret | go_ret2)
 all_goals (exact XPost.ok_ HR.out (by simp only [List.append_assoc, List.append_nil, List.cons_append, List.nil_append, relT]) HM.out)


set_option maxHeartbeats 8000000 in
theorem xCmp {T : List TokD} (hT : TksOk T) (fuel : Nat) (ihS : ∀ g, g ≤ fuel → XC T 146 .sum g) (ihG : ∀ g, g ≤ fuel → XC T 74 .grp g) : XC T 149 .cmp (fuel + 1) := by
 intro w0 W R tp tc i op oc acc rest HTk HM0 hi ha hne
 obtain ⟨r, hr⟩ : ∃ r, G T (fuel + 1) .cmp i = r := ⟨_, rfl⟩
 rw [hr] at hne ⊢
 have HR := Lib.hid hr
 clear hr
 have hr : r ≠ .out := hne
 have HM := Lib.hid HM0
 have HTk := Lib.hid HTk
 have hT1 := hT.len
 clear HM0 hne
 simp only [G] at HR
 go_enter Tryz.func149, Tryz.ntmps149
 go_wp2_with (first | (go_at_call 146; refine XC.use (ihS fuel (Nat.le_refl _)) HR.out hr HTk.out HM.out (by omega) (by omega) (by (first | omega | (simp only [List.length_append, List.length_cons, List.length_nil]; omega))) (fun hno W2 hb => (show _ ∧ _ from ⟨rfl, XPost.no_ hno hb⟩)) ?_; intro l m j hR2 hG op1 oc1 W2 hM2; have hg := (hG (by simp)).lenc 0 rfl rfl rfl; clear hG; obtain ⟨hL, hF, hJ⟩ := hg; have HR1 := Lib.hid hR2; clear HR hR2; have HR := HR1; clear HR1; have HM1 := Lib.hid hM2; clear HM hM2; (try clear W1); rename World => W1; have HM := HM1; clear HM1) | (go_at_call 112; (with_reducible refine (xPeek T w0 _ R tp tc _ _ _ HTk.out HM.out hT1 (by omega)).mono ?_); rintro e W2 ⟨rfl, hM2⟩; have HM1 := Lib.hid hM2; clear HM hM2; (try clear W1); rename World => W1; have HM := HM1; clear HM1) | (go_at_call 145; (with_reducible refine (xRel _ _).mono ?_); rintro e W2 ⟨rfl, rfl⟩; (refine rel_use HR.out ?_ ?_); all_goals (intro hb hq hR2; (try have hlt := relT_lt (of_rel hb)); clear hb; have HR1 := Lib.hid hR2; clear HR hR2; have HR := HR1; clear HR1)) | (go_at_call 72; refine take_use HR.out HTk.out HM.out (by omega) hT1 (by omega) rfl ?_ ?_; all_goals (intro hb hR2 W2 hM2; (try have hlt := isT_lt hb); clear hb; have HR1 := Lib.hid hR2; clear HR hR2; have HR := HR1; clear HR1; have HM1 := Lib.hid hM2; clear HM hM2; (try clear W1); rename World => W1; have HM := HM1; clear HM1)) | (go_at_call 76; refine must_use HR.out HTk.out HM.out (by omega) hT1 (by omega) rfl (fun hno W2 hb => (show _ ∧ _ from ⟨rfl, XPost.no_ hno hb⟩)) ?_; intro hb hR2 W2 hM2; have hlt := isT_lt hb; clear hb; have HR1 := Lib.hid hR2; clear HR hR2; have HR := HR1; clear HR1; have HM1 := Lib.hid hM2; clear HM hM2; (try clear W1); rename World => W1; have HM := HM1; clear HM1) | (go_at_call 73; refine put_use _ _ HM.out (by (first | omega | (simp only [List.length_append, List.length_cons, List.length_nil]; omega))) ?_; intro op1 oc1 W2 hM2; have HM1 := Lib.hid hM2; clear HM hM2; (try clear W1); rename World => W1; have HM := HM1; clear HM1) | (go_at_call 74; refine XC.use (ihG fuel (Nat.le_refl _)) HR.out hr HTk.out HM.out (by omega) (by omega) (by (first | omega | (simp only [List.length_append, List.length_cons, List.length_nil]; omega))) (fun hno W2 hb => (show _ ∧ _ from ⟨rfl, XPost.no_ hno hb⟩)) ?_; intro l m j hR2 hG op1 oc1 W2 hM2; have hg := (hG (by simp)).lenc 0 rfl rfl rfl; clear hG; obtain ⟨hL, hF, hJ⟩ := hg; have HR1 := Lib.hid hR2; clear HR hR2; have HR := HR1; clear HR1; have HM1 := Lib.hid hM2; clear HM hM2; (try clear W1); rename World => W1; have HM := HM1; clear HM1) | ((with_reducible refine inilCheck ?_); (refine lnil rfl ?_)) | ((with_reducible refine iload ?_); first | refine ldb1 HM.out 0 rfl rfl rfl ?_) | ((with_reducible refine istore ?_); (refine stb1 (v := .int _ _) rfl HM.out 0 rfl rfl rfl rfl rfl ?_; intro W1 HM1; replace HM := Lib.hid HM1; clear HM1; simp only [List.set] at HM)))
 all_goals (first | go_end0 | go_ret | go_ret2)
 all_goals (exact XPost.ok_ HR.out (by simp only [List.append_assoc, List.append_nil, List.cons_append, List.nil_append, relT]) HM.out)

end Go.Proofs.YtkackccmhghphaaGreatDoor
