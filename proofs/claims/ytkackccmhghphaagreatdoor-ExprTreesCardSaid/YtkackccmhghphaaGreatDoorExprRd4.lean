/- Tests, all as unary tests, signs: the reader of expressions. (fast) -/
import Derived.Test.YtkackccmhghphaaGreatDoorExprRd1
namespace Go.Proofs.YtkackccmhghphaaGreatDoor
open Go.RowKit
set_option linter.unusedVariables false
set_option linter.unusedSimpArgs false
set_option maxRecDepth 100000

section
variable {T : List TokD}
theorem take_yes {w0 W : World} {R : Nat} {tp : Option Addr} {tc i : Nat} {rest : List Res} {V : Value} {x : ByteArray} {s : List UInt8} {d : Int} (hb : isT T i s = true) (HT : Sl w0 tp (T.flatMap TokD.cs)) (HM : Mem w0 W (.box R 94 [.slice tp T.length tc, .int .i64 d, V] :: rest)) (hd : d = (i : Int)) (hT : T.length ≤ 1000) (hi : i ≤ T.length) (hs : x.data.toList = s) :
  Calls Tryz.prog 72 #[.pointer (some ⟨R, 0, none⟩), .string x] W fun e w' => e = .returned (.bool true) ∧ Mem w0 w' (.box R 94 [.slice tp T.length tc, .int .i64 (i + 1 : Nat), V] :: rest) := by
 subst hd
 have h := xTake T w0 W R tp tc i V rest x HT HM hT hi
 rw [toList_of hs, hb] at h
 exact h
theorem take_no {w0 W : World} {R : Nat} {tp : Option Addr} {tc i : Nat} {rest : List Res} {V : Value} {x : ByteArray} {s : List UInt8} {d : Int} (hb : isT T i s = false) (HT : Sl w0 tp (T.flatMap TokD.cs)) (HM : Mem w0 W (.box R 94 [.slice tp T.length tc, .int .i64 d, V] :: rest)) (hd : d = (i : Int)) (hT : T.length ≤ 1000) (hi : i ≤ T.length) (hs : x.data.toList = s) :
  Calls Tryz.prog 72 #[.pointer (some ⟨R, 0, none⟩), .string x] W fun e w' => e = .returned (.bool false) ∧ Mem w0 w' (.box R 94 [.slice tp T.length tc, .int .i64 i, V] :: rest) := by
 subst hd
 have h := xTake T w0 W R tp tc i V rest x HT HM hT hi
 rw [toList_of hs, hb] at h
 exact h
/-- Signs ahead of a thing. -/
theorem G_sgn : ∀ (f i : Nat), G T f .sgn i ≠ .out → ∃ m, m < f ∧ (∀ c, c < m → isT T (i + c) [45] = true) ∧ isT T (i + m) [45] = false ∧ (G T (f - m - 1) .sing (i + m)).bind (fun a _ j => (G T (f - m - 1) (.pathL a) j).bind fun b _ k => .ok (b ++ List.replicate m (nOp 8 1)) 0 k) = G T f .sgn i := by
 have hp : ∀ (f : Nat) (a : List NodeD) (i : Nat), (G T f (.pathL a) i).bind (fun b _ k => .ok b 0 k) = G T f (.pathL a) i := by
  intro f
  induction f with
  | zero => intro a i; rfl
  | succ f ih =>
   intro a i
   simp only [G]
   split
   ·split
    ·split
     ·exact ih _ _
     ·rfl
    ·rfl
   ·rfl
 intro f
 induction f with
 | zero => intro i h; exact absurd rfl h
 | succ f ih =>
  intro i h
  cases hb : isT T i [45] with
  | false =>
   refine ⟨0, Nat.succ_pos _, fun c hc => absurd hc (Nat.not_lt_zero _), hb, ?_⟩
   simp only [G, hb]
   simp only [Nat.sub_zero, Nat.add_sub_cancel, Nat.add_zero, List.replicate_zero, List.append_nil, Bool.false_eq_true, if_false]
   cases G T f .sing i with
   | out => rfl
   | no => rfl
   | ok a n j => exact hp f a j
  | true =>
   have hG : G T (f + 1) .sgn i = (G T f .sgn (i + 1)).bind fun a _ j => .ok (a ++ [nOp 8 1]) 0 j := by
    simp only [G, hb, if_true]
   rw [hG] at h ⊢
   have h1 : G T f .sgn (i + 1) ≠ .out := fun e => by rw [e] at h; exact h rfl
   obtain ⟨m, hm, h2, h3, h4⟩ := ih (i + 1) h1
   refine ⟨m + 1, by omega, fun c hc => ?_, ?_, ?_⟩
   ·cases c with
    | zero => exact hb
    | succ c => rw [show i + (c + 1) = i + 1 + c by omega]; exact h2 c (by omega)
   ·rw [show i + (m + 1) = i + 1 + m by omega]; exact h3
   ·rw [← h4, show i + (m + 1) = i + 1 + m by omega, show f + 1 - (m + 1) - 1 = f - m - 1 by omega]
    cases G T (f - m - 1) .sing (i + 1 + m) with
    | out => rfl
    | no => rfl
    | ok a n j =>
     show (G T (f - m - 1) (.pathL a) j).bind _ = ((G T (f - m - 1) (.pathL a) j).bind _).bind _
     cases G T (f - m - 1) (.pathL a) j with
     | out => rfl
     | no => rfl
     | ok b n k =>
      show PR.ok _ _ _ = PR.ok _ _ _
      rw [List.append_assoc, List.replicate_succ']
end

set_option maxHeartbeats 8000000 in
theorem xTests {T : List TokD} (hT : TksOk T) (fuel : Nat) (ihS : ∀ g, g ≤ fuel → XC T 113 .test g) : XC T 75 .tests (fuel + 1) := by
 intro w0 W R tp tc i op oc acc rest HTk HM0 hi ha hne
 obtain ⟨r, hr⟩ : ∃ r, G T (fuel + 1) .tests i = r := ⟨_, rfl⟩
 rw [hr] at hne ⊢
 have HR := Lib.hid hr
 clear hr
 have hr : r ≠ .out := hne
 have HM := Lib.hid HM0
 have HTk := Lib.hid HTk
 have hT1 := hT.len
 clear HM0 hne
 simp only [G] at HR
 go_enter Tryz.func75, Tryz.ntmps75
 go_wp2_with (first | (go_at_call 113; refine XC.use (ihS fuel (Nat.le_refl _)) HR.out hr HTk.out HM.out (by omega) (by omega) (by (first | omega | (simp only [List.length_append, List.length_cons, List.length_nil]; omega))) (fun hno W2 hb => (show _ ∧ _ from ⟨rfl, XPost.no_ hno hb⟩)) ?_; intro l m j hR2 hG op1 oc1 W2 hM2; have hg := (hG (by simp)).lenc 1 rfl rfl rfl; clear hG; obtain ⟨hL, hF, hJ⟩ := hg; have HR1 := Lib.hid hR2; clear HR hR2; have HR := HR1; clear HR1; have HM1 := Lib.hid hM2; clear HM hM2; (try clear W1); rename World => W1; have HM := HM1; clear HM1))
 have HMl := HM
 go_loopw [2] (fun nv wr => ∃ (g j oc m : Nat) (op : Option Addr) (a : List NodeD), nv = .int .i64 m ∧ g ≤ fuel ∧ j ≤ T.length ∧ i + a.length ≤ j + 1 ∧ m ≤ j + 1 ∧ Hid (G T g (.testsL a m) j = r) ∧ Hid (Mem w0 wr (.box R 94 [.slice tp T.length tc, .int .i64 j, .slice op (acc ++ a).length oc] :: .row op oc 36 8 (acc ++ a).length ((acc ++ a).flatMap NodeD.cs) :: rest))) (fun _ wr => T.length - (intOf ((wr.cell? ⟨R, 1, none⟩).getD undef)).toNat)
 case atStart => exact ⟨fuel, _, _, 1, _, _, rfl, Nat.le_refl _, hJ, by omega, by omega, HR, HM⟩
 case round =>
  clear HM HMl HR hL hF hJ
  obtain ⟨g, j0, oc2, m, op2, a, rfl, hg, hj0, hla, hm, HR, HM⟩ := hrel
  have HK := Lib.hid (xrd_at HM.out)
  cases g with
  | zero => exact absurd HR.out.symm hr
  | succ g =>
   have hR2 := HR.out
   simp only [G] at hR2
   have HR1 := Lib.hid hR2
   clear HR hR2
   have HR := HR1
   clear HR1
   go_wp2_with (first | (go_at_call 72; refine take_use HR.out HTk.out HM.out (by omega) hT1 (by omega) rfl ?_ ?_; all_goals (intro hb hR2 W2 hM2; (try have hlt := isT_lt hb); clear hb; have HR1 := Lib.hid hR2; clear HR hR2; have HR := HR1; clear HR1; have HM1 := Lib.hid hM2; clear HM hM2; (try clear W1); rename World => W1; have HM := HM1; clear HM1)) | (go_at_call 113; refine XC.use (ihS g (by omega)) HR.out hr HTk.out HM.out (by omega) (by omega) (by (first | omega | (simp only [List.length_append, List.length_cons, List.length_nil]; omega))) (fun hno W2 hb => (show _ ∧ _ from ⟨rfl, XPost.no_ hno hb⟩)) ?_; intro l m j hR2 hG op1 oc1 W2 hM2; have hg := (hG (by simp)).lenc 1 rfl rfl rfl; clear hG; obtain ⟨hL, hF, hJ⟩ := hg; have HR1 := Lib.hid hR2; clear HR hR2; have HR := HR1; clear HR1; have HM1 := Lib.hid hM2; clear HM hM2; (try clear W1); rename World => W1; have HM := HM1; clear HM1) | (go_at_call 73; refine put_use _ _ HM.out (by (first | omega | (simp only [List.length_append, List.length_cons, List.length_nil]; omega))) ?_; intro op1 oc1 W2 hM2; have HM1 := Lib.hid hM2; clear HM hM2; (try clear W1); rename World => W1; have HM := HM1; clear HM1))
   all_goals first
    |(go_roundw
      case rel => exact ⟨g, _, _, _, _, _, by go_num, by omega, by omega, by (simp only [List.length_append, List.length_cons, List.length_nil]; omega), by omega, HR, Lib.hid (by simpa only [List.append_assoc] using HM.out)⟩
      case measure => rw [xrd_at HM.out, HK.out]; omega)
    |(go_ret; exact XPost.ok_ HR.out (by simp only [List.append_assoc]) HM.out)
    |(go_end0; exact XPost.ok_ HR.out (by simp only [List.append_assoc]) HM.out)


set_option maxHeartbeats 8000000 in
theorem xUnary {T : List TokD} (hT : TksOk T) (fuel : Nat) (ihG : ∀ g, g ≤ fuel → XC T 74 .grp g) (ihT : ∀ g, g ≤ fuel → XC T 75 .tests g) (w0 W : World) (R : Nat) (tp : Option Addr) (tc : Nat) (op : Option Addr) (oc : Nat) (acc : List NodeD) (rest : List Res) (HTk : Sl w0 tp (T.flatMap TokD.cs)) (HM0 : Mem w0 W (.box R 94 [.slice tp T.length tc, .int .i64 (0 : Nat), .slice op acc.length oc] :: .row op oc 36 8 acc.length (acc.flatMap NodeD.cs) :: rest)) (ha : acc.length ≤ 2) (hne : G T (fuel + 1) .unary 0 ≠ .out) :
  Calls Tryz.prog 48 #[.pointer (some ⟨R, 0, none⟩)] W (XPost (G T (fuel + 1) .unary 0) unitV w0 R tp T.length tc acc rest) := by
 obtain ⟨r, hr⟩ : ∃ r, G T (fuel + 1) .unary 0 = r := ⟨_, rfl⟩
 rw [hr] at hne ⊢
 have hr2 := hr
 simp only [G] at hr2
 clear hr
 have hr : r ≠ .out := hne
 have HM := Lib.hid HM0
 have HTk := Lib.hid HTk
 have hT1 := hT.len
 clear HM0 hne
 by_cases h1 : T.length = 1
 ·have q1 : ((T.length : Int) == 1) = true := by rw [h1]; rfl
  cases hb : isT T 0 [45] with
  | true =>
   rw [if_pos ⟨h1, hb⟩] at hr2
   have HR := Lib.hid hr2
   have HB := Lib.hid hb
   clear hr2 hb
   go_enter Tryz.func48, Tryz.ntmps48
   go_wp2_with (first | (go_at_call 72; (with_reducible refine (take_yes HB.out HTk.out HM.out (by omega) hT1 (by omega) rfl).mono ?_); rintro e W2 ⟨rfl, hM2⟩; have HM1 := Lib.hid hM2; clear HM hM2; (try clear W1); rename World => W1; have HM := HM1; clear HM1) | (go_at_call 73; refine put_use _ _ HM.out (by (first | omega | (simp only [List.length_append, List.length_cons, List.length_nil]; omega))) ?_; intro op1 oc1 W2 hM2; have HM1 := Lib.hid hM2; clear HM hM2; (try clear W1); rename World => W1; have HM := HM1; clear HM1) | ((with_reducible refine igd ?_); (with_reducible refine skip_op ?_ ?_); (exact rfl)) | ((with_reducible refine inilCheck ?_); (refine lnil rfl ?_)) | ((with_reducible refine iload ?_); first | refine ldb1 HM.out 0 rfl rfl rfl ?_))
   all_goals (first | go_end0 | go_ret | go_ret2)
   all_goals (exact XPost.ok_ HR.out rfl HM.out)
  | false =>
   rw [if_neg (fun h => by rw [hb] at h; cases h.2)] at hr2
   have HR := Lib.hid hr2
   have HB := Lib.hid hb
   clear hr2 hb
   go_enter Tryz.func48, Tryz.ntmps48
   go_wp2_with (first | (go_at_call 72; (with_reducible refine (take_no HB.out HTk.out HM.out (by omega) hT1 (by omega) rfl).mono ?_); rintro e W2 ⟨rfl, hM2⟩; have HM1 := Lib.hid hM2; clear HM hM2; (try clear W1); rename World => W1; have HM := HM1; clear HM1) | (go_at_call 72; refine take_use HR.out HTk.out HM.out (by omega) hT1 (by omega) rfl ?_ ?_; all_goals (intro hb hR2 W2 hM2; (try have hlt := isT_lt hb); clear hb; have HR1 := Lib.hid hR2; clear HR hR2; have HR := HR1; clear HR1; have HM1 := Lib.hid hM2; clear HM hM2; (try clear W1); rename World => W1; have HM := HM1; clear HM1)) | (go_at_call 74; refine XC.use (ihG fuel (Nat.le_refl _)) HR.out hr HTk.out HM.out (by omega) (by omega) (by (first | omega | (simp only [List.length_append, List.length_cons, List.length_nil]; omega))) (fun hno W2 hb => (show _ ∧ _ from ⟨rfl, XPost.no_ hno hb⟩)) ?_; intro l m j hR2 hG op1 oc1 W2 hM2; have hg := (hG (by simp)).lenc 0 rfl rfl rfl; clear hG; obtain ⟨hL, hF, hJ⟩ := hg; have HR1 := Lib.hid hR2; clear HR hR2; have HR := HR1; clear HR1; have HM1 := Lib.hid hM2; clear HM hM2; (try clear W1); rename World => W1; have HM := HM1; clear HM1) | (go_at_call 75; refine XC.use (ihT fuel (Nat.le_refl _)) ((bind_ok _).trans HR.out) hr HTk.out HM.out (by omega) (by omega) (by (first | omega | (simp only [List.length_append, List.length_cons, List.length_nil]; omega))) (fun hno W2 hb => (show _ ∧ _ from ⟨rfl, XPost.no_ hno hb⟩)) ?_; intro l m j hR2 hG op1 oc1 W2 hM2; clear hG; have HR1 := Lib.hid hR2; clear HR hR2; have HR := HR1; clear HR1; have HM1 := Lib.hid hM2; clear HM hM2; (try clear W1); rename World => W1; have HM := HM1; clear HM1) | (go_at_call 73; refine put_use _ _ HM.out (by (first | omega | (simp only [List.length_append, List.length_cons, List.length_nil]; omega))) ?_; intro op1 oc1 W2 hM2; have HM1 := Lib.hid hM2; clear HM hM2; (try clear W1); rename World => W1; have HM := HM1; clear HM1) | ((with_reducible refine igd ?_); (with_reducible refine skip_op ?_ ?_); (exact rfl)) | ((with_reducible refine inilCheck ?_); (refine lnil rfl ?_)) | ((with_reducible refine iload ?_); first | refine ldb1 HM.out 0 rfl rfl rfl ?_))
   all_goals (first | go_end0 | go_ret | go_ret2)
   all_goals (exact XPost.ok_ HR.out (by simp only [List.append_assoc]) HM.out)
 ·have q1 : ((T.length : Int) == 1) = false := by simpa using fun h : (T.length : Int) = 1 => h1 (by omega)
  rw [if_neg (fun h => h1 h.1)] at hr2
  have HR := Lib.hid hr2
  clear hr2
  go_enter Tryz.func48, Tryz.ntmps48
  go_wp2_with (first | (go_at_call 72; refine take_use HR.out HTk.out HM.out (by omega) hT1 (by omega) rfl ?_ ?_; all_goals (intro hb hR2 W2 hM2; (try have hlt := isT_lt hb); clear hb; have HR1 := Lib.hid hR2; clear HR hR2; have HR := HR1; clear HR1; have HM1 := Lib.hid hM2; clear HM hM2; (try clear W1); rename World => W1; have HM := HM1; clear HM1)) | (go_at_call 74; refine XC.use (ihG fuel (Nat.le_refl _)) HR.out hr HTk.out HM.out (by omega) (by omega) (by (first | omega | (simp only [List.length_append, List.length_cons, List.length_nil]; omega))) (fun hno W2 hb => (show _ ∧ _ from ⟨rfl, XPost.no_ hno hb⟩)) ?_; intro l m j hR2 hG op1 oc1 W2 hM2; have hg := (hG (by simp)).lenc 0 rfl rfl rfl; clear hG; obtain ⟨hL, hF, hJ⟩ := hg; have HR1 := Lib.hid hR2; clear HR hR2; have HR := HR1; clear HR1; have HM1 := Lib.hid hM2; clear HM hM2; (try clear W1); rename World => W1; have HM := HM1; clear HM1) | (go_at_call 75; refine XC.use (ihT fuel (Nat.le_refl _)) ((bind_ok _).trans HR.out) hr HTk.out HM.out (by omega) (by omega) (by (first | omega | (simp only [List.length_append, List.length_cons, List.length_nil]; omega))) (fun hno W2 hb => (show _ ∧ _ from ⟨rfl, XPost.no_ hno hb⟩)) ?_; intro l m j hR2 hG op1 oc1 W2 hM2; clear hG; have HR1 := Lib.hid hR2; clear HR hR2; have HR := HR1; clear HR1; have HM1 := Lib.hid hM2; clear HM hM2; (try clear W1); rename World => W1; have HM := HM1; clear HM1) | (go_at_call 73; refine put_use _ _ HM.out (by (first | omega | (simp only [List.length_append, List.length_cons, List.length_nil]; omega))) ?_; intro op1 oc1 W2 hM2; have HM1 := Lib.hid hM2; clear HM hM2; (try clear W1); rename World => W1; have HM := HM1; clear HM1) | ((with_reducible refine igd ?_); (with_reducible refine skip_op ?_ ?_); (exact rfl)) | ((with_reducible refine inilCheck ?_); (refine lnil rfl ?_)) | ((with_reducible refine iload ?_); first | refine ldb1 HM.out 0 rfl rfl rfl ?_))
  all_goals (first | go_end0 | go_ret | go_ret2)
  all_goals (exact XPost.ok_ HR.out (by simp only [List.append_assoc]) HM.out)
end Go.Proofs.YtkackccmhghphaaGreatDoor
