/- Tests of the reader of expressions. (fast) -/
import Derived.Test.YtkackccmhghphaaGreatDoorExprRd1
import Derived.Test.YtkackccmhghphaaGreatDoorExprIvl
namespace Go.Proofs.YtkackccmhghphaaGreatDoor
open Go.RowKit
set_option linter.unusedVariables false
set_option linter.unusedSimpArgs false
set_option maxRecDepth 100000

theorem relL_le (s : List UInt8) : 0 ≤ relL s ∧ relL s ≤ 18 := by
 unfold relL
 repeat (first | (split; (first | exact ⟨by decide, by decide⟩ | skip)))
 all_goals exact ⟨by decide, by decide⟩
theorem end_use {T : List TokD} {w0 W : World} {R : Nat} {tp : Option Addr} {tc i : Nat} {rest : List Res} {r A : PR} {V : Value} {K : Ending → World → Prop} {d : Int} (HR : (if (isT T i [93] || isT T i [41]) = true then A else PR.no) = r) (HT : Sl w0 tp (T.flatMap TokD.cs)) (HM : Mem w0 W (.box R 94 [.slice tp T.length tc, .int .i64 d, V] :: rest)) (hd : d = (i : Int)) (hT : T.length ≤ 1000) (hi : i ≤ T.length)
  (h1 : ((sgT T i).toList == [93]) = true → ((sgT T i).toList != [93]) = false → True → True → i < T.length → A = r → ∀ W', Mem w0 W' (.box R 94 [.slice tp T.length tc, .int .i64 i, V] :: rest) → K (.returned (.string (sgT T i))) W')
  (h2 : ((sgT T i).toList == [93]) = false → ((sgT T i).toList != [93]) = true → ((sgT T i).toList == [41]) = true → ((sgT T i).toList != [41]) = false → i < T.length → A = r → ∀ W', Mem w0 W' (.box R 94 [.slice tp T.length tc, .int .i64 i, V] :: rest) → K (.returned (.string (sgT T i))) W')
  (h3 : ((sgT T i).toList == [93]) = false → ((sgT T i).toList != [93]) = true → ((sgT T i).toList == [41]) = false → ((sgT T i).toList != [41]) = true → True → PR.no = r → ∀ W', Mem w0 W' (.box R 94 [.slice tp T.length tc, .int .i64 i, V] :: rest) → K (.returned (.string (sgT T i))) W') :
  Calls Tryz.prog 112 #[.pointer (some ⟨R, 0, none⟩)] W K := by
 subst hd
 refine (xPeek T w0 W R tp tc i V rest HT HM hT hi).mono fun e W' ⟨he, hM⟩ => ?_
 subst he
 cases a : isT T i [93] with
 | true =>
  rw [a] at HR
  exact h1 a (by unfold bne; rw [show ((sgT T i).toList == [93]) = true from a]; rfl) trivial trivial (isT_lt a) HR W' hM
 | false =>
  cases b : isT T i [41] with
  | true =>
   rw [a, b] at HR
   exact h2 a (by unfold bne; rw [show ((sgT T i).toList == [93]) = false from a]; rfl) b (by unfold bne; rw [show ((sgT T i).toList == [41]) = true from b]; rfl) (isT_lt b) HR W' hM
  | false =>
   rw [a, b] at HR
   exact h3 a (by unfold bne; rw [show ((sgT T i).toList == [93]) = false from a]; rfl) b (by unfold bne; rw [show ((sgT T i).toList == [41]) = false from b]; rfl) trivial HR W' hM

set_option maxHeartbeats 16000000 in
theorem xTest {T : List TokD} (hT : TksOk T) (fuel : Nat) (ihS : ∀ g, g ≤ fuel → XC T 146 .sum g) : XC T 113 .test (fuel + 1) := by
 intro w0 W R tp tc i op oc acc rest HTk HM0 hi ha hne
 obtain ⟨r, hr⟩ : ∃ r, G T (fuel + 1) .test i = r := ⟨_, rfl⟩
 rw [hr] at hne ⊢
 have HR := Lib.hid hr
 clear hr
 have hr : r ≠ .out := hne
 have HM := Lib.hid HM0
 have HTk := Lib.hid HTk
 have hT1 := hT.len
 clear HM0 hne
 simp only [G] at HR
 obtain ⟨x, hx⟩ : ∃ x, relT T i = x := ⟨_, rfl⟩
 have hx18 := relL_le (sgT T i).toList
 have hxl : relL (sgT T i).toList = x := hx
 rw [hxl] at hx18
 have HX := Lib.hid hxl
 rw [hx] at HR
 have hadd : ∀ (k : Nat) (W : World), (Op.stringOp .add (sgT T i) (sgT T k)).run Tryz.prog W = .ok (.string (sgT T i ++ sgT T k)) W := fun k W => run_string_add_sum (P := Tryz.prog) W _ _ (by have := sgT_size hT i; have := sgT_size hT k; omega)
 by_cases h15 : 15 ≤ x
 ·have h0 := HR.out
  rw [if_pos h15] at h0
  have HR1 := Lib.hid h0
  clear HR h0
  have HR := HR1
  clear HR1
  have hi1 : i < T.length := relT_lt (by omega)
  have d15 : decide (15 ≤ x) = true := decide_eq_true h15
  clear hx hxl
  go_enter Tryz.func113, Tryz.ntmps113
  go_wp2_with (first | (go_at_call 146; refine XC.use (ihS fuel (Nat.le_refl _)) HR.out hr HTk.out HM.out (by omega) (by omega) (by (first | omega | (simp only [List.length_append, List.length_cons, List.length_nil]; omega))) (fun hno W2 hb => (show _ ∧ _ from ⟨rfl, XPost.no_ hno hb⟩)) ?_; intro l m j hR2 hG op1 oc1 W2 hM2; have hg := (hG (by simp)).lenc 0 rfl rfl rfl; clear hG; obtain ⟨hL, hF, hJ⟩ := hg; have HR1 := Lib.hid hR2; clear HR hR2; have HR := HR1; clear HR1; have HM1 := Lib.hid hM2; clear HM hM2; (try clear W1); rename World => W1; have HM := HM1; clear HM1) | (go_at_call 73; refine put_use _ _ HM.out (by (first | omega | (simp only [List.length_append, List.length_cons, List.length_nil]; omega))) ?_; intro op1 oc1 W2 hM2; have HM1 := Lib.hid hM2; clear HM hM2; (try clear W1); rename World => W1; have HM := HM1; clear HM1) | (go_at_call 145; (with_reducible refine (xRel _ _).mono ?_); rintro e W2 ⟨rfl, rfl⟩; rw [HX.out]) | (go_at_call 112; (with_reducible refine (xPeek T w0 _ R tp tc _ _ _ HTk.out HM.out hT1 (by omega)).mono ?_); rintro e W2 ⟨rfl, hM2⟩; have HM1 := Lib.hid hM2; clear HM hM2; (try clear W1); rename World => W1; have HM := HM1; clear HM1) | ((with_reducible refine igd ?_); (with_reducible refine skip_op ?_ ?_); (exact rfl)) | ((with_reducible refine inilCheck ?_); (refine lnil rfl ?_)) | ((with_reducible refine iload ?_); first | refine ldb1 HM.out 0 rfl rfl rfl ?_) | ((with_reducible refine istore ?_); (refine stb1 (v := .int _ _) rfl HM.out 0 rfl rfl rfl rfl rfl ?_; intro W1 HM1; replace HM := Lib.hid HM1; clear HM1; simp only [List.set] at HM)))
  all_goals (first | go_ret | go_ret2 | go_end0)
  all_goals (exact XPost.ok_ HR.out (by rw [show (31 + x - 15 : Int) = x + 16 by omega]; simp only [List.append_assoc]) HM.out)
 ·have h0 := HR.out
  rw [if_neg h15] at h0
  have d15 : decide (15 ≤ x) = false := decide_eq_false h15
  obtain ⟨b3, h3⟩ : ∃ b, ivl T i = b := ⟨_, rfl⟩
  have HI := Lib.hid h3
  clear hx hxl
  cases h1 : isT T i [91] with
  | true =>
   have q1 : ((sgT T i).toList == [91]) = true := h1
   have q1n : ((sgT T i).toList != [91]) = false := by unfold bne; rw [q1]; rfl
   have hi1 := isT_lt h1
   rw [h1, h3] at h0
   clear h1 h3 HR
   cases b3 with
   | true =>
    have HR := Lib.hid (show _ = r from h0)
    clear h0
    go_enter Tryz.func113, Tryz.ntmps113
    go_wp2_with (first | (go_at_call 146; refine XC.use (ihS fuel (Nat.le_refl _)) HR.out hr HTk.out HM.out (by omega) (by omega) (by (first | omega | (simp only [List.length_append, List.length_cons, List.length_nil]; omega))) (fun hno W2 hb => (show _ ∧ _ from ⟨rfl, XPost.no_ hno hb⟩)) ?_; intro l m j hR2 hG op1 oc1 W2 hM2; have hg := (hG (by simp)).lenc 0 rfl rfl rfl; clear hG; obtain ⟨hL, hF, hJ⟩ := hg; have HR1 := Lib.hid hR2; clear HR hR2; have HR := HR1; clear HR1; have HM1 := Lib.hid hM2; clear HM hM2; (try clear W1); rename World => W1; have HM := HM1; clear HM1) | (go_at_call 76; refine must_use HR.out HTk.out HM.out (by omega) hT1 (by omega) rfl (fun hno W2 hb => (show _ ∧ _ from ⟨rfl, XPost.no_ hno hb⟩)) ?_; intro hb hR2 W2 hM2; have hlt := isT_lt hb; clear hb; have HR1 := Lib.hid hR2; clear HR hR2; have HR := HR1; clear HR1; have HM1 := Lib.hid hM2; clear HM hM2; (try clear W1); rename World => W1; have HM := HM1; clear HM1) | (go_at_call 73; refine put_use _ _ HM.out (by (first | omega | (simp only [List.length_append, List.length_cons, List.length_nil]; omega))) ?_; intro op1 oc1 W2 hM2; have HM1 := Lib.hid hM2; clear HM hM2; (try clear W1); rename World => W1; have HM := HM1; clear HM1) | (go_at_call 148; refine named_use _ _ _ HM.out (by (first | omega | (simp only [List.length_append, List.length_cons, List.length_nil]; omega))) ?_; intro op1 oc1 W2 hM2; have HM1 := Lib.hid hM2; clear HM hM2; (try clear W1); rename World => W1; have HM := HM1; clear HM1) | (go_at_call 145; (with_reducible refine (xRel _ _).mono ?_); rintro e W2 ⟨rfl, rfl⟩; rw [HX.out]) | (go_at_call 112; refine end_use HR.out HTk.out HM.out (by omega) hT1 (by omega) ?_ ?_ ?_; all_goals (intro q1 q1n q2 q2n hlt hR2 W2 hM2; have HR1 := Lib.hid hR2; clear HR hR2; have HR := HR1; clear HR1; have HM1 := Lib.hid hM2; clear HM hM2; (try clear W1); rename World => W1; have HM := HM1; clear HM1)) | (go_at_call 112; (with_reducible refine (xPeek T w0 _ R tp tc _ _ _ HTk.out HM.out hT1 (by omega)).mono ?_); rintro e W2 ⟨rfl, hM2⟩; have HM1 := Lib.hid hM2; clear HM hM2; (try clear W1); rename World => W1; have HM := HM1; clear HM1) | (go_at_call 147; (with_reducible refine (xInterval T w0 _ R tp tc _ _ _ HTk.out HM.out hT1 (by omega)).mono ?_); rintro e W2 ⟨rfl, hM2⟩; rw [HI.out]; have HM1 := Lib.hid hM2; clear HM hM2; (try clear W1); rename World => W1; have HM := HM1; clear HM1) | (go_at_call 50; (with_reducible refine (xFail _).mono ?_); rintro e W2 ⟨rfl, rfl⟩; unfold faultE) | ((with_reducible refine igd ?_); (with_reducible refine skip_op ?_ ?_); (exact rfl)) | ((with_reducible refine inilCheck ?_); (refine lnil rfl ?_)) | ((with_reducible refine iload ?_); first | refine ldb1 HM.out 0 rfl rfl rfl ?_) | ((with_reducible refine istore ?_); (refine stb1 (v := .int _ _) rfl HM.out 0 rfl rfl rfl rfl rfl ?_; intro W1 HM1; replace HM := Lib.hid HM1; clear HM1; simp only [List.set] at HM)))
    all_goals (first | go_ret | go_ret2 | go_end0 | skip)
    all_goals (first | exact XPost.ok_ HR.out (by simp only [List.append_assoc]) HM.out | exact ⟨rfl, XPost.no_ HR.out.symm HM.out.below⟩)
   | false =>
    have HR := Lib.hid (show _ = r from h0)
    clear h0
    go_enter Tryz.func113, Tryz.ntmps113
    go_wp2_with (first | (go_at_call 146; refine XC.use (ihS fuel (Nat.le_refl _)) HR.out hr HTk.out HM.out (by omega) (by omega) (by (first | omega | (simp only [List.length_append, List.length_cons, List.length_nil]; omega))) (fun hno W2 hb => (show _ ∧ _ from ⟨rfl, XPost.no_ hno hb⟩)) ?_; intro l m j hR2 hG op1 oc1 W2 hM2; have hg := (hG (by simp)).lenc 0 rfl rfl rfl; clear hG; obtain ⟨hL, hF, hJ⟩ := hg; have HR1 := Lib.hid hR2; clear HR hR2; have HR := HR1; clear HR1; have HM1 := Lib.hid hM2; clear HM hM2; (try clear W1); rename World => W1; have HM := HM1; clear HM1) | (go_at_call 76; refine must_use HR.out HTk.out HM.out (by omega) hT1 (by omega) rfl (fun hno W2 hb => (show _ ∧ _ from ⟨rfl, XPost.no_ hno hb⟩)) ?_; intro hb hR2 W2 hM2; have hlt := isT_lt hb; clear hb; have HR1 := Lib.hid hR2; clear HR hR2; have HR := HR1; clear HR1; have HM1 := Lib.hid hM2; clear HM hM2; (try clear W1); rename World => W1; have HM := HM1; clear HM1) | (go_at_call 73; refine put_use _ _ HM.out (by (first | omega | (simp only [List.length_append, List.length_cons, List.length_nil]; omega))) ?_; intro op1 oc1 W2 hM2; have HM1 := Lib.hid hM2; clear HM hM2; (try clear W1); rename World => W1; have HM := HM1; clear HM1) | (go_at_call 148; refine named_use _ _ _ HM.out (by (first | omega | (simp only [List.length_append, List.length_cons, List.length_nil]; omega))) ?_; intro op1 oc1 W2 hM2; have HM1 := Lib.hid hM2; clear HM hM2; (try clear W1); rename World => W1; have HM := HM1; clear HM1) | (go_at_call 145; (with_reducible refine (xRel _ _).mono ?_); rintro e W2 ⟨rfl, rfl⟩; rw [HX.out]) | (go_at_call 112; refine end_use HR.out HTk.out HM.out (by omega) hT1 (by omega) ?_ ?_ ?_; all_goals (intro q1 q1n q2 q2n hlt hR2 W2 hM2; have HR1 := Lib.hid hR2; clear HR hR2; have HR := HR1; clear HR1; have HM1 := Lib.hid hM2; clear HM hM2; (try clear W1); rename World => W1; have HM := HM1; clear HM1)) | (go_at_call 112; (with_reducible refine (xPeek T w0 _ R tp tc _ _ _ HTk.out HM.out hT1 (by omega)).mono ?_); rintro e W2 ⟨rfl, hM2⟩; have HM1 := Lib.hid hM2; clear HM hM2; (try clear W1); rename World => W1; have HM := HM1; clear HM1) | (go_at_call 147; (with_reducible refine (xInterval T w0 _ R tp tc _ _ _ HTk.out HM.out hT1 (by omega)).mono ?_); rintro e W2 ⟨rfl, hM2⟩; rw [HI.out]; have HM1 := Lib.hid hM2; clear HM hM2; (try clear W1); rename World => W1; have HM := HM1; clear HM1) | (go_at_call 50; (with_reducible refine (xFail _).mono ?_); rintro e W2 ⟨rfl, rfl⟩; unfold faultE) | ((with_reducible refine igd ?_); (with_reducible refine skip_op ?_ ?_); (exact rfl)) | ((with_reducible refine inilCheck ?_); (refine lnil rfl ?_)) | ((with_reducible refine iload ?_); first | refine ldb1 HM.out 0 rfl rfl rfl ?_) | ((with_reducible refine istore ?_); (refine stb1 (v := .int _ _) rfl HM.out 0 rfl rfl rfl rfl rfl ?_; intro W1 HM1; replace HM := Lib.hid HM1; clear HM1; simp only [List.set] at HM)))
    all_goals (first | go_ret | go_ret2 | go_end0)
    all_goals (exact XPost.ok_ HR.out (by simp only [List.append_assoc]) HM.out)
  | false =>
   have q1 : ((sgT T i).toList == [91]) = false := h1
   have q1n : ((sgT T i).toList != [91]) = true := by unfold bne; rw [q1]; rfl
   cases h2 : isT T i [40] with
   | true =>
    have q2 : ((sgT T i).toList == [40]) = true := h2
    have q2n : ((sgT T i).toList != [40]) = false := by unfold bne; rw [q2]; rfl
    have hi1 := isT_lt h2
    rw [h1, h2, h3] at h0
    clear h1 h2 h3 HR
    cases b3 with
    | true =>
     have HR := Lib.hid (show _ = r from h0)
     clear h0
     go_enter Tryz.func113, Tryz.ntmps113
     go_wp2_with (first | (go_at_call 146; refine XC.use (ihS fuel (Nat.le_refl _)) HR.out hr HTk.out HM.out (by omega) (by omega) (by (first | omega | (simp only [List.length_append, List.length_cons, List.length_nil]; omega))) (fun hno W2 hb => (show _ ∧ _ from ⟨rfl, XPost.no_ hno hb⟩)) ?_; intro l m j hR2 hG op1 oc1 W2 hM2; have hg := (hG (by simp)).lenc 0 rfl rfl rfl; clear hG; obtain ⟨hL, hF, hJ⟩ := hg; have HR1 := Lib.hid hR2; clear HR hR2; have HR := HR1; clear HR1; have HM1 := Lib.hid hM2; clear HM hM2; (try clear W1); rename World => W1; have HM := HM1; clear HM1) | (go_at_call 76; refine must_use HR.out HTk.out HM.out (by omega) hT1 (by omega) rfl (fun hno W2 hb => (show _ ∧ _ from ⟨rfl, XPost.no_ hno hb⟩)) ?_; intro hb hR2 W2 hM2; have hlt := isT_lt hb; clear hb; have HR1 := Lib.hid hR2; clear HR hR2; have HR := HR1; clear HR1; have HM1 := Lib.hid hM2; clear HM hM2; (try clear W1); rename World => W1; have HM := HM1; clear HM1) | (go_at_call 73; refine put_use _ _ HM.out (by (first | omega | (simp only [List.length_append, List.length_cons, List.length_nil]; omega))) ?_; intro op1 oc1 W2 hM2; have HM1 := Lib.hid hM2; clear HM hM2; (try clear W1); rename World => W1; have HM := HM1; clear HM1) | (go_at_call 148; refine named_use _ _ _ HM.out (by (first | omega | (simp only [List.length_append, List.length_cons, List.length_nil]; omega))) ?_; intro op1 oc1 W2 hM2; have HM1 := Lib.hid hM2; clear HM hM2; (try clear W1); rename World => W1; have HM := HM1; clear HM1) | (go_at_call 145; (with_reducible refine (xRel _ _).mono ?_); rintro e W2 ⟨rfl, rfl⟩; rw [HX.out]) | (go_at_call 112; refine end_use HR.out HTk.out HM.out (by omega) hT1 (by omega) ?_ ?_ ?_; all_goals (intro q1 q1n q2 q2n hlt hR2 W2 hM2; have HR1 := Lib.hid hR2; clear HR hR2; have HR := HR1; clear HR1; have HM1 := Lib.hid hM2; clear HM hM2; (try clear W1); rename World => W1; have HM := HM1; clear HM1)) | (go_at_call 112; (with_reducible refine (xPeek T w0 _ R tp tc _ _ _ HTk.out HM.out hT1 (by omega)).mono ?_); rintro e W2 ⟨rfl, hM2⟩; have HM1 := Lib.hid hM2; clear HM hM2; (try clear W1); rename World => W1; have HM := HM1; clear HM1) | (go_at_call 147; (with_reducible refine (xInterval T w0 _ R tp tc _ _ _ HTk.out HM.out hT1 (by omega)).mono ?_); rintro e W2 ⟨rfl, hM2⟩; rw [HI.out]; have HM1 := Lib.hid hM2; clear HM hM2; (try clear W1); rename World => W1; have HM := HM1; clear HM1) | (go_at_call 50; (with_reducible refine (xFail _).mono ?_); rintro e W2 ⟨rfl, rfl⟩; unfold faultE) | ((with_reducible refine igd ?_); (with_reducible refine skip_op ?_ ?_); (exact rfl)) | ((with_reducible refine inilCheck ?_); (refine lnil rfl ?_)) | ((with_reducible refine iload ?_); first | refine ldb1 HM.out 0 rfl rfl rfl ?_) | ((with_reducible refine istore ?_); (refine stb1 (v := .int _ _) rfl HM.out 0 rfl rfl rfl rfl rfl ?_; intro W1 HM1; replace HM := Lib.hid HM1; clear HM1; simp only [List.set] at HM)))
     all_goals (first | go_ret | go_ret2 | go_end0 | skip)
     all_goals (first | exact XPost.ok_ HR.out (by simp only [List.append_assoc]) HM.out | exact ⟨rfl, XPost.no_ HR.out.symm HM.out.below⟩)
    | false =>
     have HR := Lib.hid (show _ = r from h0)
     clear h0
     go_enter Tryz.func113, Tryz.ntmps113
     go_wp2_with (first | (go_at_call 146; refine XC.use (ihS fuel (Nat.le_refl _)) HR.out hr HTk.out HM.out (by omega) (by omega) (by (first | omega | (simp only [List.length_append, List.length_cons, List.length_nil]; omega))) (fun hno W2 hb => (show _ ∧ _ from ⟨rfl, XPost.no_ hno hb⟩)) ?_; intro l m j hR2 hG op1 oc1 W2 hM2; have hg := (hG (by simp)).lenc 0 rfl rfl rfl; clear hG; obtain ⟨hL, hF, hJ⟩ := hg; have HR1 := Lib.hid hR2; clear HR hR2; have HR := HR1; clear HR1; have HM1 := Lib.hid hM2; clear HM hM2; (try clear W1); rename World => W1; have HM := HM1; clear HM1) | (go_at_call 76; refine must_use HR.out HTk.out HM.out (by omega) hT1 (by omega) rfl (fun hno W2 hb => (show _ ∧ _ from ⟨rfl, XPost.no_ hno hb⟩)) ?_; intro hb hR2 W2 hM2; have hlt := isT_lt hb; clear hb; have HR1 := Lib.hid hR2; clear HR hR2; have HR := HR1; clear HR1; have HM1 := Lib.hid hM2; clear HM hM2; (try clear W1); rename World => W1; have HM := HM1; clear HM1) | (go_at_call 73; refine put_use _ _ HM.out (by (first | omega | (simp only [List.length_append, List.length_cons, List.length_nil]; omega))) ?_; intro op1 oc1 W2 hM2; have HM1 := Lib.hid hM2; clear HM hM2; (try clear W1); rename World => W1; have HM := HM1; clear HM1) | (go_at_call 148; refine named_use _ _ _ HM.out (by (first | omega | (simp only [List.length_append, List.length_cons, List.length_nil]; omega))) ?_; intro op1 oc1 W2 hM2; have HM1 := Lib.hid hM2; clear HM hM2; (try clear W1); rename World => W1; have HM := HM1; clear HM1) | (go_at_call 145; (with_reducible refine (xRel _ _).mono ?_); rintro e W2 ⟨rfl, rfl⟩; rw [HX.out]) | (go_at_call 112; refine end_use HR.out HTk.out HM.out (by omega) hT1 (by omega) ?_ ?_ ?_; all_goals (intro q1 q1n q2 q2n hlt hR2 W2 hM2; have HR1 := Lib.hid hR2; clear HR hR2; have HR := HR1; clear HR1; have HM1 := Lib.hid hM2; clear HM hM2; (try clear W1); rename World => W1; have HM := HM1; clear HM1)) | (go_at_call 112; (with_reducible refine (xPeek T w0 _ R tp tc _ _ _ HTk.out HM.out hT1 (by omega)).mono ?_); rintro e W2 ⟨rfl, hM2⟩; have HM1 := Lib.hid hM2; clear HM hM2; (try clear W1); rename World => W1; have HM := HM1; clear HM1) | (go_at_call 147; (with_reducible refine (xInterval T w0 _ R tp tc _ _ _ HTk.out HM.out hT1 (by omega)).mono ?_); rintro e W2 ⟨rfl, hM2⟩; rw [HI.out]; have HM1 := Lib.hid hM2; clear HM hM2; (try clear W1); rename World => W1; have HM := HM1; clear HM1) | (go_at_call 50; (with_reducible refine (xFail _).mono ?_); rintro e W2 ⟨rfl, rfl⟩; unfold faultE) | ((with_reducible refine igd ?_); (with_reducible refine skip_op ?_ ?_); (exact rfl)) | ((with_reducible refine inilCheck ?_); (refine lnil rfl ?_)) | ((with_reducible refine iload ?_); first | refine ldb1 HM.out 0 rfl rfl rfl ?_) | ((with_reducible refine istore ?_); (refine stb1 (v := .int _ _) rfl HM.out 0 rfl rfl rfl rfl rfl ?_; intro W1 HM1; replace HM := Lib.hid HM1; clear HM1; simp only [List.set] at HM)))
     all_goals (first | go_ret | go_ret2 | go_end0)
     all_goals (exact XPost.ok_ HR.out (by simp only [List.append_assoc]) HM.out)
   | false =>
    have q2 : ((sgT T i).toList == [40]) = false := h2
    have q2n : ((sgT T i).toList != [40]) = true := by unfold bne; rw [q2]; rfl
    rw [h1, h2] at h0
    have HR := Lib.hid (show _ = r from h0)
    clear h1 h2 h3 h0
    go_enter Tryz.func113, Tryz.ntmps113
    go_wp2_with (first | (go_at_call 146; refine XC.use (ihS fuel (Nat.le_refl _)) HR.out hr HTk.out HM.out (by omega) (by omega) (by (first | omega | (simp only [List.length_append, List.length_cons, List.length_nil]; omega))) (fun hno W2 hb => (show _ ∧ _ from ⟨rfl, XPost.no_ hno hb⟩)) ?_; intro l m j hR2 hG op1 oc1 W2 hM2; have hg := (hG (by simp)).lenc 0 rfl rfl rfl; clear hG; obtain ⟨hL, hF, hJ⟩ := hg; have HR1 := Lib.hid hR2; clear HR hR2; have HR := HR1; clear HR1; have HM1 := Lib.hid hM2; clear HM hM2; (try clear W1); rename World => W1; have HM := HM1; clear HM1) | (go_at_call 73; refine put_use _ _ HM.out (by (first | omega | (simp only [List.length_append, List.length_cons, List.length_nil]; omega))) ?_; intro op1 oc1 W2 hM2; have HM1 := Lib.hid hM2; clear HM hM2; (try clear W1); rename World => W1; have HM := HM1; clear HM1) | (go_at_call 145; (with_reducible refine (xRel _ _).mono ?_); rintro e W2 ⟨rfl, rfl⟩; rw [HX.out]) | (go_at_call 112; (with_reducible refine (xPeek T w0 _ R tp tc _ _ _ HTk.out HM.out hT1 (by omega)).mono ?_); rintro e W2 ⟨rfl, hM2⟩; have HM1 := Lib.hid hM2; clear HM hM2; (try clear W1); rename World => W1; have HM := HM1; clear HM1) | (go_at_call 147; (with_reducible refine (xInterval T w0 _ R tp tc _ _ _ HTk.out HM.out hT1 (by omega)).mono ?_); rintro e W2 ⟨rfl, hM2⟩; rw [HI.out]; have HM1 := Lib.hid hM2; clear HM hM2; (try clear W1); rename World => W1; have HM := HM1; clear HM1) | ((with_reducible refine igd ?_); (with_reducible refine skip_op ?_ ?_); (exact rfl)) | ((with_reducible refine inilCheck ?_); (refine lnil rfl ?_)) | ((with_reducible refine iload ?_); first | refine ldb1 HM.out 0 rfl rfl rfl ?_) | ((with_reducible refine istore ?_); (refine stb1 (v := .int _ _) rfl HM.out 0 rfl rfl rfl rfl rfl ?_; intro W1 HM1; replace HM := Lib.hid HM1; clear HM1; simp only [List.set] at HM)))
    all_goals (first | go_ret | go_ret2 | go_end0)
    all_goals (exact XPost.ok_ HR.out (by simp only [List.append_assoc]) HM.out)
end Go.Proofs.YtkackccmhghphaaGreatDoor
