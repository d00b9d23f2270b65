/- The small functions of the reader of expressions. (fast) -/
import Derived.Test.YtkackccmhghphaaGreatDoorGramA
import Derived.Test.YtkackccmhghphaaGreatDoorSepA
import Derived.Test.YtkackccmhghphaaGreatDoorTypes
namespace Go.Proofs.YtkackccmhghphaaGreatDoor
open Go.RowKit
set_option linter.unusedVariables false
set_option linter.unusedSimpArgs false
set_option maxRecDepth 100000

theorem xFail (W : World) : Calls Tryz.prog 50 #[] W fun e w' => e = faultE ∧ W = w' := by
 go_enter Tryz.func50, Tryz.ntmps50
 go_wp2_with fail
 exact ⟨rfl, rfl, rfl⟩

set_option maxHeartbeats 4000000 in
theorem xRel (s : ByteArray) (W : World) : Calls Tryz.prog 145 #[.string s] W fun e w' => e = .returned (.int .i64 (relL s.toList)) ∧ W = w' := by
 by_cases h0 : (s.toList == [61]) = true
 ·have HW := Lib.hid (show relL s.toList = 13 by unfold relL; rw [h0]; rfl)
  rw [HW.out]
  clear HW
  go_enter Tryz.func145, Tryz.ntmps145
  go_wp2
  go_ret
  exact ⟨rfl, rfl⟩
 rw [Bool.not_eq_true] at h0
 by_cases h1 : (s.toList == [33, 61]) = true
 ·have HW := Lib.hid (show relL s.toList = 14 by unfold relL; rw [h0, h1]; rfl)
  rw [HW.out]
  clear HW
  go_enter Tryz.func145, Tryz.ntmps145
  go_wp2
  go_ret
  exact ⟨rfl, rfl⟩
 rw [Bool.not_eq_true] at h1
 by_cases h2 : (s.toList == [60]) = true
 ·have HW := Lib.hid (show relL s.toList = 15 by unfold relL; rw [h0, h1, h2]; rfl)
  rw [HW.out]
  clear HW
  go_enter Tryz.func145, Tryz.ntmps145
  go_wp2
  go_ret
  exact ⟨rfl, rfl⟩
 rw [Bool.not_eq_true] at h2
 by_cases h3 : (s.toList == [60, 61]) = true
 ·have HW := Lib.hid (show relL s.toList = 16 by unfold relL; rw [h0, h1, h2, h3]; rfl)
  rw [HW.out]
  clear HW
  go_enter Tryz.func145, Tryz.ntmps145
  go_wp2
  go_ret
  exact ⟨rfl, rfl⟩
 rw [Bool.not_eq_true] at h3
 by_cases h4 : (s.toList == [62]) = true
 ·have HW := Lib.hid (show relL s.toList = 17 by unfold relL; rw [h0, h1, h2, h3, h4]; rfl)
  rw [HW.out]
  clear HW
  go_enter Tryz.func145, Tryz.ntmps145
  go_wp2
  go_ret
  exact ⟨rfl, rfl⟩
 rw [Bool.not_eq_true] at h4
 by_cases h5 : (s.toList == [62, 61]) = true
 ·have HW := Lib.hid (show relL s.toList = 18 by unfold relL; rw [h0, h1, h2, h3, h4, h5]; rfl)
  rw [HW.out]
  clear HW
  go_enter Tryz.func145, Tryz.ntmps145
  go_wp2
  go_ret
  exact ⟨rfl, rfl⟩
 rw [Bool.not_eq_true] at h5
 have HW := Lib.hid (show relL s.toList = 0 by unfold relL; rw [h0, h1, h2, h3, h4, h5]; rfl)
 rw [HW.out]
 clear HW
 go_enter Tryz.func145, Tryz.ntmps145
 go_wp2
 go_ret
 exact ⟨rfl, rfl⟩

section
variable {T : List TokD} {w0 W : World} {R : Nat} {tp : Option Addr} {tc i : Nat} {rest : List Res}
theorem tokAt (HT : Sl w0 tp (T.flatMap TokD.cs)) {t : TokD} (ht : T[i]? = some t) : ∃ b, tp = some b ∧ Cells w0 (b.add (i * 8)) t.cs := by
 obtain ⟨b, hp, hb⟩ := HT.some_at TokD.cs_len (by decide) (some_lt ht)
 exact ⟨b, hp, hb.elem TokD.cs 8 TokD.cs_len ht⟩
end

set_option maxHeartbeats 8000000 in
theorem xPeek (T : List TokD) (w0 W : World) (R : Nat) (tp : Option Addr) (tc i : Nat) (V : Value) (rest : List Res) (HT : Sl w0 tp (T.flatMap TokD.cs)) (HM0 : Mem w0 W (.box R 94 [.slice tp T.length tc, .int .i64 i, V] :: rest)) (hT : T.length ≤ 1000) (hi : i ≤ T.length) :
  Calls Tryz.prog 112 #[.pointer (some ⟨R, 0, none⟩)] W fun e w' => e = .returned (.string (sgT T i)) ∧ Mem w0 w' (.box R 94 [.slice tp T.length tc, .int .i64 i, V] :: rest) := by
 have HM := Lib.hid HM0
 clear HM0
 by_cases hlt : i < T.length
 ·obtain ⟨t, ht⟩ : ∃ t, T[i]? = some t := ⟨_, List.getElem?_eq_getElem hlt⟩
  obtain ⟨b, rfl, hb⟩ := tokAt HT ht
  obtain ⟨kd, tx, nu, sc, dy, pt⟩ := t
  have HE := Lib.hid hb
  have hs : sgT T i = if 5 ≤ kd then tx else ⟨#[]⟩ := by unfold sgT; rw [ht]
  rw [hs]
  obtain ⟨n, hn⟩ : ∃ n, T.length = n := ⟨_, rfl⟩
  rw [hn] at HM hlt ⊢
  have d1 : decide ((i : Int) < n) = true := decide_eq_true (by omega)
  clear hs ht hb HT
  by_cases h5 : 5 ≤ kd
  ·rw [if_pos h5]
   have d2 : decide (5 ≤ kd) = true := decide_eq_true h5
   go_enter Tryz.func112, Tryz.ntmps112
   go_wp2_with fail
   refine wp_region_mem (by kernel_rfl) (by kernel_rfl) HM.out ?_; intro hNE; (repeat (any_goals (first | ((with_reducible refine qgd ?_); (with_reducible refine skip_q ?_ ?_ ?_); (exact rfl); (rotate_left; (exact (hNE.elim fun p => ⟨p.W, p, rfl⟩)))) | ((with_reducible refine qnilCheck ?_); (refine qnil rfl ?_)) | ((with_reducible refine qload ?_); first | (refine qdb1 HM.out 0 rfl rfl rfl ?_) | (refine qdbW HM.out 0 rfl rfl rfl ?_) | (refine qdbS HM.out 0 rfl rfl rfl ?_; simp only [List.take, List.drop])) | ((with_reducible refine qat 22 ?_); (refine qixa rfl rfl rfl hlt ?_)) | ((with_reducible refine qat 24 ?_); (refine qdx0 HE.out rfl rfl ?_)) | go_big_quiet_step (fail) | quiet_step (fail)))); clear hNE; refine wpQuiet_nil ?_; intro W1 HM1; replace HM := Lib.hid HM1; clear HM1
   go_wp2_with fail
   refine wp_region_mem (by kernel_rfl) (by kernel_rfl) HM.out ?_; intro hNE; (repeat (any_goals (first | ((with_reducible refine qgd ?_); (with_reducible refine skip_q ?_ ?_ ?_); (exact rfl); (rotate_left; (exact (hNE.elim fun p => ⟨p.W, p, rfl⟩)))) | ((with_reducible refine qnilCheck ?_); (refine qnil rfl ?_)) | ((with_reducible refine qload ?_); first | (refine qdb1 HM.out 0 rfl rfl rfl ?_) | (refine qdbW HM.out 0 rfl rfl rfl ?_) | (refine qdbS HM.out 0 rfl rfl rfl ?_; simp only [List.take, List.drop])) | ((with_reducible refine qat 35 ?_); (refine qixa rfl rfl rfl hlt ?_)) | ((with_reducible refine qat 37 ?_); (refine qdxf HE.out rfl rfl rfl ?_)) | go_big_quiet_step (fail) | quiet_step (fail)))); clear hNE; refine wpQuiet_nil ?_; intro W1 HM1; replace HM := Lib.hid HM1; clear HM1
   go_wp2_with fail
   go_ret
   exact ⟨rfl, HM.out⟩
  ·rw [if_neg h5]
   have d2 : decide (5 ≤ kd) = false := decide_eq_false h5
   go_enter Tryz.func112, Tryz.ntmps112
   go_wp2_with fail
   refine wp_region_mem (by kernel_rfl) (by kernel_rfl) HM.out ?_; intro hNE; (repeat (any_goals (first | ((with_reducible refine qgd ?_); (with_reducible refine skip_q ?_ ?_ ?_); (exact rfl); (rotate_left; (exact (hNE.elim fun p => ⟨p.W, p, rfl⟩)))) | ((with_reducible refine qnilCheck ?_); (refine qnil rfl ?_)) | ((with_reducible refine qload ?_); first | (refine qdb1 HM.out 0 rfl rfl rfl ?_) | (refine qdbW HM.out 0 rfl rfl rfl ?_) | (refine qdbS HM.out 0 rfl rfl rfl ?_; simp only [List.take, List.drop])) | ((with_reducible refine qat 22 ?_); (refine qixa rfl rfl rfl hlt ?_)) | ((with_reducible refine qat 24 ?_); (refine qdx0 HE.out rfl rfl ?_)) | go_big_quiet_step (fail) | quiet_step (fail)))); clear hNE; refine wpQuiet_nil ?_; intro W1 HM1; replace HM := Lib.hid HM1; clear HM1
   go_wp2_with fail
   go_ret
   exact ⟨rfl, HM.out⟩
 ·rw [sgT_none (by omega)]
  obtain ⟨n, hn⟩ : ∃ n, T.length = n := ⟨_, rfl⟩
  rw [hn] at HM hlt ⊢
  have d1 : decide ((i : Int) < n) = false := decide_eq_false (by omega)
  go_enter Tryz.func112, Tryz.ntmps112
  go_wp2_with fail
  refine wp_region_mem (by kernel_rfl) (by kernel_rfl) HM.out ?_; intro hNE; (repeat (any_goals (first | ((with_reducible refine qgd ?_); (with_reducible refine skip_q ?_ ?_ ?_); (exact rfl); (rotate_left; (exact (hNE.elim fun p => ⟨p.W, p, rfl⟩)))) | ((with_reducible refine qnilCheck ?_); (refine qnil rfl ?_)) | ((with_reducible refine qload ?_); first | (refine qdb1 HM.out 0 rfl rfl rfl ?_) | (refine qdbW HM.out 0 rfl rfl rfl ?_) | (refine qdbS HM.out 0 rfl rfl rfl ?_; simp only [List.take, List.drop])) | fail | go_big_quiet_step (fail) | quiet_step (fail)))); clear hNE; refine wpQuiet_nil ?_; intro W1 HM1; replace HM := Lib.hid HM1; clear HM1
  go_wp2_with fail
  go_ret
  exact ⟨rfl, HM.out⟩

set_option maxHeartbeats 8000000 in
theorem xTake (T : List TokD) (w0 W : World) (R : Nat) (tp : Option Addr) (tc i : Nat) (V : Value) (rest : List Res) (x : ByteArray) (HT : Sl w0 tp (T.flatMap TokD.cs)) (HM0 : Mem w0 W (.box R 94 [.slice tp T.length tc, .int .i64 i, V] :: rest)) (hT : T.length ≤ 1000) (hi : i ≤ T.length) :
  Calls Tryz.prog 72 #[.pointer (some ⟨R, 0, none⟩), .string x] W fun e w' => e = .returned (.bool (isT T i x.toList)) ∧ Mem w0 w' (.box R 94 [.slice tp T.length tc, .int .i64 (if isT T i x.toList then i + 1 else i : Nat), V] :: rest) := by
 have HM := Lib.hid HM0
 have HP := Lib.hid (xPeek T w0 W R tp tc i V rest HT HM0 hT hi)
 clear HM0
 cases hb : isT T i x.toList with
 | true =>
  have q : ((sgT T i).toList == x.toList) = true := hb
  have q' : ((sgT T i).toList != x.toList) = false := by unfold bne; rw [q]; rfl
  rw [if_pos rfl]
  clear hb
  go_enter Tryz.func72, Tryz.ntmps72
  go_wp2_with (first | (go_at_call 112; (with_reducible refine HP.out.mono ?_); rintro e W2 ⟨rfl, hM2⟩; have HM1 := Lib.hid hM2; clear hM2; clear HM; (try clear W1); rename World => W1; have HM := HM1; clear HM1) | ((with_reducible refine inilCheck ?_); (refine lnil rfl ?_)) | ((with_reducible refine iload ?_); first | refine ldb1 HM.out 0 rfl rfl rfl ?_) | ((with_reducible refine istore ?_); (refine stb1 (v := .int _ _) rfl HM.out 0 rfl rfl rfl rfl rfl ?_; intro W1 HM1; replace HM := Lib.hid HM1; clear HM1; simp only [List.set] at HM)))
  go_ret
  exact ⟨rfl, HM.out⟩
 | false =>
  have q : ((sgT T i).toList == x.toList) = false := hb
  have q' : ((sgT T i).toList != x.toList) = true := by unfold bne; rw [q]; rfl
  rw [if_neg (by simp)]
  clear hb
  go_enter Tryz.func72, Tryz.ntmps72
  go_wp2_with (first | (go_at_call 112; (with_reducible refine HP.out.mono ?_); rintro e W2 ⟨rfl, hM2⟩; have HM1 := Lib.hid hM2; clear hM2; clear HM; (try clear W1); rename World => W1; have HM := HM1; clear HM1) | ((with_reducible refine inilCheck ?_); (refine lnil rfl ?_)) | ((with_reducible refine iload ?_); first | refine ldb1 HM.out 0 rfl rfl rfl ?_) | ((with_reducible refine istore ?_); (refine stb1 (v := .int _ _) rfl HM.out 0 rfl rfl rfl rfl rfl ?_; intro W1 HM1; replace HM := Lib.hid HM1; clear HM1; simp only [List.set] at HM)))
  go_ret
  exact ⟨rfl, HM.out⟩

set_option maxHeartbeats 8000000 in
theorem xPut (w0 W : World) (R : Nat) (tp : Option Addr) (n tc : Nat) (i : Int) (op : Option Addr) (oc : Nat) (acc : List NodeD) (rest : List Res) (o k : Int) (HM0 : Mem w0 W (.box R 94 [.slice tp n tc, .int .i64 i, .slice op acc.length oc] :: .row op oc 36 8 acc.length (acc.flatMap NodeD.cs) :: rest)) (ha : acc.length ≤ 2000) :
  Calls Tryz.prog 73 #[.pointer (some ⟨R, 0, none⟩), .int .i64 o, .int .i64 k] W fun e w' => ∃ op oc, e = .returned (.tuple #[]) ∧ Mem w0 w' (.box R 94 [.slice tp n tc, .int .i64 i, .slice op (acc ++ [nOp o k]).length oc] :: .row op oc 36 8 (acc ++ [nOp o k]).length ((acc ++ [nOp o k]).flatMap NodeD.cs) :: rest) := by
 have HM := Lib.hid HM0
 clear HM0
 obtain ⟨av, hav⟩ : ∃ x, acc.flatMap NodeD.cs = x := ⟨_, rfl⟩
 obtain ⟨m, hm⟩ : ∃ m, acc.length = m := ⟨_, rfl⟩
 have HAv := Lib.hid (show av.take (m * 8) ++ [.int .i64 o, .int .i64 k, .string ⟨#[]⟩, .bool false, .int .u64 0, .int .u64 0, .int .i64 0, .int .i64 0] = (acc ++ [nOp o k]).flatMap NodeD.cs by
  rw [← hav, ← hm, List.take_of_length_le (by rw [flat_len NodeD.cs 8 NodeD.cs_len]; exact Nat.le_refl _), List.flatMap_append]
  rfl)
 have HL := Lib.hid (show (acc ++ [nOp o k]).length = m + 1 by rw [List.length_append, hm]; rfl)
 rw [hav, hm] at HM
 rw [hm] at ha
 rw [HL.out, ← HAv.out]
 clear hav hm HAv HL
 go_enter Tryz.func73, Tryz.ntmps73
 go_wp2_with (first | (refine apb rfl HM.out 2 0 rfl rfl rfl rfl rfl rfl (by omega) (by omega) (by omega) ?_; intro p1 cap1 W1 HM1; replace HM := Lib.hid HM1; clear HM1; simp only [List.set] at HM) | ((with_reducible refine inilCheck ?_); (refine lnil rfl ?_)) | ((with_reducible refine iload ?_); first | refine ldb1 HM.out 0 rfl rfl rfl ?_ | refine ldb1 HM.out 1 rfl rfl rfl ?_) | ((with_reducible refine istore ?_); ((first | refine stb1 (v := .slice _ _ _) rfl HM.out 0 rfl rfl rfl rfl rfl ?_ | refine stb1 (v := .slice _ _ _) rfl HM.out 1 rfl rfl rfl rfl rfl ?_); intro W1 HM1; replace HM := Lib.hid HM1; clear HM1; simp only [List.set] at HM)) | ((with_reducible refine ibuildSlice ?_); refine bs1A rfl HM.out rfl rfl rfl ?_; intro g1 W1 HM1; replace HM := Lib.hid HM1; clear HM1))
 go_end0
 exact ⟨p1, cap1, rfl, HM.out.sub (.cons _ (.refl _))⟩

set_option maxHeartbeats 8000000 in
theorem xNamed (w0 W : World) (R : Nat) (tp : Option Addr) (n tc : Nat) (i : Int) (op : Option Addr) (oc : Nat) (acc : List NodeD) (rest : List Res) (o k : Int) (x : ByteArray) (HM0 : Mem w0 W (.box R 94 [.slice tp n tc, .int .i64 i, .slice op acc.length oc] :: .row op oc 36 8 acc.length (acc.flatMap NodeD.cs) :: rest)) (ha : acc.length ≤ 2000) :
  Calls Tryz.prog 148 #[.pointer (some ⟨R, 0, none⟩), .int .i64 o, .int .i64 k, .string x] W fun e w' => ∃ op oc, e = .returned (.tuple #[]) ∧ Mem w0 w' (.box R 94 [.slice tp n tc, .int .i64 i, .slice op (acc ++ [nTx o k x]).length oc] :: .row op oc 36 8 (acc ++ [nTx o k x]).length ((acc ++ [nTx o k x]).flatMap NodeD.cs) :: rest) := by
 have HM := Lib.hid HM0
 clear HM0
 obtain ⟨av, hav⟩ : ∃ x, acc.flatMap NodeD.cs = x := ⟨_, rfl⟩
 obtain ⟨m, hm⟩ : ∃ m, acc.length = m := ⟨_, rfl⟩
 have HAv := Lib.hid (show av.take (m * 8) ++ [.int .i64 o, .int .i64 k, .string x, .bool false, .int .u64 0, .int .u64 0, .int .i64 0, .int .i64 0] = (acc ++ [nTx o k x]).flatMap NodeD.cs by
  rw [← hav, ← hm, List.take_of_length_le (by rw [flat_len NodeD.cs 8 NodeD.cs_len]; exact Nat.le_refl _), List.flatMap_append]
  rfl)
 have HL := Lib.hid (show (acc ++ [nTx o k x]).length = m + 1 by rw [List.length_append, hm]; rfl)
 rw [hav, hm] at HM
 rw [hm] at ha
 rw [HL.out, ← HAv.out]
 clear hav hm HAv HL
 go_enter Tryz.func148, Tryz.ntmps148
 go_wp2_with (first | (refine apb rfl HM.out 2 0 rfl rfl rfl rfl rfl rfl (by omega) (by omega) (by omega) ?_; intro p1 cap1 W1 HM1; replace HM := Lib.hid HM1; clear HM1; simp only [List.set] at HM) | ((with_reducible refine inilCheck ?_); (refine lnil rfl ?_)) | ((with_reducible refine iload ?_); first | refine ldb1 HM.out 0 rfl rfl rfl ?_ | refine ldb1 HM.out 1 rfl rfl rfl ?_) | ((with_reducible refine istore ?_); ((first | refine stb1 (v := .slice _ _ _) rfl HM.out 0 rfl rfl rfl rfl rfl ?_ | refine stb1 (v := .slice _ _ _) rfl HM.out 1 rfl rfl rfl rfl rfl ?_); intro W1 HM1; replace HM := Lib.hid HM1; clear HM1; simp only [List.set] at HM)) | ((with_reducible refine ibuildSlice ?_); refine bs1A rfl HM.out rfl rfl rfl ?_; intro g1 W1 HM1; replace HM := Lib.hid HM1; clear HM1))
 go_end0
 exact ⟨p1, cap1, rfl, HM.out.sub (.cons _ (.refl _))⟩

set_option maxHeartbeats 8000000 in
theorem xMust (T : List TokD) (w0 W : World) (R : Nat) (tp : Option Addr) (tc i : Nat) (V : Value) (rest : List Res) (x : ByteArray) (HT : Sl w0 tp (T.flatMap TokD.cs)) (HM0 : Mem w0 W (.box R 94 [.slice tp T.length tc, .int .i64 i, V] :: rest)) (hT : T.length ≤ 1000) (hi : i ≤ T.length) :
  Calls Tryz.prog 76 #[.pointer (some ⟨R, 0, none⟩), .string x] W fun e w' => (isT T i x.toList = true → e = .returned (.tuple #[]) ∧ Mem w0 w' (.box R 94 [.slice tp T.length tc, .int .i64 (i + 1 : Nat), V] :: rest)) ∧ (isT T i x.toList = false → e = faultE ∧ Below w0.heap.size w0 w') := by
 have HM := Lib.hid HM0
 have HP := Lib.hid (xTake T w0 W R tp tc i V rest x HT HM0 hT hi)
 clear HM0
 cases hb : isT T i x.toList with
 | true =>
  rw [hb] at HP
  rw [if_pos rfl] at HP
  refine Calls.mono (R := fun e w' => e = .returned (.tuple #[]) ∧ Mem w0 w' (.box R 94 [.slice tp T.length tc, .int .i64 (i + 1 : Nat), V] :: rest)) ?_ (fun e w' h => ⟨fun _ => h, (fun h2 => by cases h2)⟩)
  clear hb
  go_enter Tryz.func76, Tryz.ntmps76
  go_wp2_with (first | (go_at_call 72; (with_reducible refine HP.out.mono ?_); rintro e W2 ⟨rfl, hM2⟩; have HM1 := Lib.hid hM2; clear hM2; clear HM; (try clear W1); rename World => W1; have HM := HM1; clear HM1) | fail)
  go_end0
  exact ⟨rfl, HM.out⟩
 | false =>
  rw [hb] at HP
  rw [if_neg (by simp)] at HP
  refine Calls.mono (R := fun e w' => e = faultE ∧ Below w0.heap.size w0 w') ?_ (fun e w' h => ⟨(fun h2 => by cases h2), fun _ => h⟩)
  clear hb
  go_enter Tryz.func76, Tryz.ntmps76
  go_wp2_with (first | (go_at_call 72; (with_reducible refine HP.out.mono ?_); rintro e W2 ⟨rfl, hM2⟩; have HM1 := Lib.hid hM2; clear hM2; clear HM; (try clear W1); rename World => W1; have HM := HM1; clear HM1) | (go_at_call 50; (with_reducible refine (xFail _).mono ?_); rintro e W2 ⟨rfl, rfl⟩; unfold faultE) | fail)
  exact ⟨rfl, rfl, HM.out.below⟩

set_option maxHeartbeats 8000000 in
theorem xNameY (T : List TokD) (w0 W : World) (R : Nat) (tp : Option Addr) (tc i : Nat) (V : Value) (rest : List Res) (HT : Sl w0 tp (T.flatMap TokD.cs)) (HM0 : Mem w0 W (.box R 94 [.slice tp T.length tc, .int .i64 i, V] :: rest)) (hT : T.length ≤ 1000) {t : TokD} (ht : T[i]? = some t) (hk : t.kind = 4) :
  Calls Tryz.prog 208 #[.pointer (some ⟨R, 0, none⟩)] W fun e w' => e = .returned (.string t.text) ∧ Mem w0 w' (.box R 94 [.slice tp T.length tc, .int .i64 (i + 1 : Nat), V] :: rest) := by
 have HM := Lib.hid HM0
 clear HM0
 have hlt := some_lt ht
 obtain ⟨b, rfl, hb⟩ := tokAt HT ht
 obtain ⟨kd, tx, nu, sc, dy, pt⟩ := t
 dsimp only at hk ⊢
 subst hk
 have HE := Lib.hid hb
 obtain ⟨n, hn⟩ : ∃ n, T.length = n := ⟨_, rfl⟩
 rw [hn] at HM hlt hT ⊢
 have d1 : decide ((n : Int) ≤ i) = false := decide_eq_false (by omega)
 have d1' : decide (n ≤ i) = false := decide_eq_false (by omega)
 clear ht hb HT
 go_enter Tryz.func208, Tryz.ntmps208
 go_wp2_with fail
 refine wp_region_mem (by kernel_rfl) (by kernel_rfl) HM.out ?_; intro hNE; (repeat (any_goals (first | ((with_reducible refine qgd ?_); (with_reducible refine skip_q ?_ ?_ ?_); (exact rfl); (rotate_left; (exact (hNE.elim fun p => ⟨p.W, p, rfl⟩)))) | ((with_reducible refine qnilCheck ?_); (refine qnil rfl ?_)) | ((with_reducible refine qload ?_); first | (refine qdb1 HM.out 0 rfl rfl rfl ?_) | (refine qdbW HM.out 0 rfl rfl rfl ?_) | (refine qdbS HM.out 0 rfl rfl rfl ?_; simp only [List.take, List.drop])) | ((with_reducible refine qat 22 ?_); (refine qixa rfl rfl rfl hlt ?_)) | ((with_reducible refine qat 24 ?_); (refine qdx0 HE.out rfl rfl ?_)) | go_big_quiet_step (fail) | quiet_step (fail)))); clear hNE; refine wpQuiet_nil ?_; intro W1 HM1; replace HM := Lib.hid HM1; clear HM1
 go_wp2_with (first | ((with_reducible refine igd ?_); (with_reducible refine skip_op ?_ ?_); (exact rfl)) | ((with_reducible refine inilCheck ?_); (refine lnil rfl ?_)) | ((with_reducible refine iload ?_); first | refine ldb1 HM.out 0 rfl rfl rfl ?_) | ((with_reducible refine istore ?_); (refine stb1 (v := .int _ _) rfl HM.out 0 rfl rfl rfl rfl rfl ?_; intro W1 HM1; replace HM := Lib.hid HM1; clear HM1; simp only [List.set] at HM)))
 refine wp_region_mem (by kernel_rfl) (by kernel_rfl) HM.out ?_; intro hNE; (repeat (any_goals (first | ((with_reducible refine qgd ?_); (with_reducible refine skip_q ?_ ?_ ?_); (exact rfl); (rotate_left; (exact (hNE.elim fun p => ⟨p.W, p, rfl⟩)))) | ((with_reducible refine qnilCheck ?_); (refine qnil rfl ?_)) | ((with_reducible refine qload ?_); first | (refine qdb1 HM.out 0 rfl rfl rfl ?_) | (refine qdbW HM.out 0 rfl rfl rfl ?_) | (refine qdbS HM.out 0 rfl rfl rfl ?_; simp only [List.take, List.drop])) | ((with_reducible refine qat 44 ?_); (refine qixa (i := i) rfl rfl (by omega) hlt ?_)) | ((with_reducible refine qat 46 ?_); (refine qdxf HE.out rfl rfl rfl ?_)) | go_big_quiet_step (fail) | quiet_step (fail)))); clear hNE; refine wpQuiet_nil ?_; intro W1 HM1; replace HM := Lib.hid HM1; clear HM1
 go_wp2_with fail
 go_ret
 exact ⟨rfl, HM.out⟩

set_option maxHeartbeats 8000000 in
theorem xNameN (T : List TokD) (w0 W : World) (R : Nat) (tp : Option Addr) (tc i : Nat) (V : Value) (rest : List Res) (HT : Sl w0 tp (T.flatMap TokD.cs)) (HM0 : Mem w0 W (.box R 94 [.slice tp T.length tc, .int .i64 i, V] :: rest)) (hT : T.length ≤ 1000) (hk : ∀ t, T[i]? = some t → t.kind ≠ 4) :
  Calls Tryz.prog 208 #[.pointer (some ⟨R, 0, none⟩)] W fun e w' => e = faultE ∧ Below w0.heap.size w0 w' := by
 have HM := Lib.hid HM0
 clear HM0
 by_cases hlt : i < T.length
 ·obtain ⟨t, ht⟩ : ∃ t, T[i]? = some t := ⟨_, List.getElem?_eq_getElem hlt⟩
  obtain ⟨b, rfl, hb⟩ := tokAt HT ht
  have hk4 := hk t ht
  obtain ⟨kd, tx, nu, sc, dy, pt⟩ := t
  have q4 : (kd != 4) = true := by simpa using hk4
  have HE := Lib.hid hb
  obtain ⟨n, hn⟩ : ∃ n, T.length = n := ⟨_, rfl⟩
  rw [hn] at HM hlt hT
  have d1 : decide ((n : Int) ≤ i) = false := decide_eq_false (by omega)
  have d1' : decide (n ≤ i) = false := decide_eq_false (by omega)
  clear ht hb HT hk hk4
  go_enter Tryz.func208, Tryz.ntmps208
  go_wp2_with fail
  refine wp_region_mem (by kernel_rfl) (by kernel_rfl) HM.out ?_; intro hNE; (repeat (any_goals (first | ((with_reducible refine qgd ?_); (with_reducible refine skip_q ?_ ?_ ?_); (exact rfl); (rotate_left; (exact (hNE.elim fun p => ⟨p.W, p, rfl⟩)))) | ((with_reducible refine qnilCheck ?_); (refine qnil rfl ?_)) | ((with_reducible refine qload ?_); first | (refine qdb1 HM.out 0 rfl rfl rfl ?_) | (refine qdbW HM.out 0 rfl rfl rfl ?_) | (refine qdbS HM.out 0 rfl rfl rfl ?_; simp only [List.take, List.drop])) | ((with_reducible refine qat 22 ?_); (refine qixa rfl rfl rfl hlt ?_)) | ((with_reducible refine qat 24 ?_); (refine qdx0 HE.out rfl rfl ?_)) | go_big_quiet_step (fail) | quiet_step (fail)))); clear hNE; refine wpQuiet_nil ?_; intro W1 HM1; replace HM := Lib.hid HM1; clear HM1
  go_wp2_with (first | (go_at_call 50; (with_reducible refine (xFail _).mono ?_); rintro e W2 ⟨rfl, rfl⟩; unfold faultE))
  exact ⟨rfl, rfl, HM.out.below⟩
 ·obtain ⟨n, hn⟩ : ∃ n, T.length = n := ⟨_, rfl⟩
  rw [hn] at HM hlt hT
  have d1 : decide ((n : Int) ≤ i) = true := decide_eq_true (by omega)
  have d1' : decide (n ≤ i) = true := decide_eq_true (by omega)
  clear HT hk
  go_enter Tryz.func208, Tryz.ntmps208
  go_wp2_with fail
  refine wp_region_mem (by kernel_rfl) (by kernel_rfl) HM.out ?_; intro hNE; (repeat (any_goals (first | ((with_reducible refine qgd ?_); (with_reducible refine skip_q ?_ ?_ ?_); (exact rfl); (rotate_left; (exact (hNE.elim fun p => ⟨p.W, p, rfl⟩)))) | ((with_reducible refine qnilCheck ?_); (refine qnil rfl ?_)) | ((with_reducible refine qload ?_); first | (refine qdb1 HM.out 0 rfl rfl rfl ?_) | (refine qdbW HM.out 0 rfl rfl rfl ?_) | (refine qdbS HM.out 0 rfl rfl rfl ?_; simp only [List.take, List.drop])) | fail | go_big_quiet_step (fail) | quiet_step (fail)))); clear hNE; refine wpQuiet_nil ?_; intro W1 HM1; replace HM := Lib.hid HM1; clear HM1
  go_wp2_with (first | (go_at_call 50; (with_reducible refine (xFail _).mono ?_); rintro e W2 ⟨rfl, rfl⟩; unfold faultE))
  exact ⟨rfl, rfl, HM.out.below⟩

section
variable {T : List TokD} {w0 W : World} {R : Nat} {tp : Option Addr} {n tc i oc : Nat} {op : Option Addr} {acc : List NodeD} {rest : List Res} {r A B : PR} {V : Value} {K : Ending → World → Prop} {x : ByteArray} {s : List UInt8} {d : Int}
theorem take_use (HR : (if isT T i s = true then A else B) = r) (HT : Sl w0 tp (T.flatMap TokD.cs)) (HM : Mem w0 W (.box R 94 [.slice tp T.length tc, .int .i64 d, V] :: rest)) (hd : d = (i : Int)) (hT : T.length ≤ 1000) (hi : i ≤ T.length) (hs : x.data.toList = s)
  (hyes : isT T i s = true → A = r → ∀ W', Mem w0 W' (.box R 94 [.slice tp T.length tc, .int .i64 (i + 1 : Nat), V] :: rest) → K (.returned (.bool true)) W')
  (hno : isT T i s = false → B = r → ∀ W', Mem w0 W' (.box R 94 [.slice tp T.length tc, .int .i64 i, V] :: rest) → K (.returned (.bool false)) W') :
  Calls Tryz.prog 72 #[.pointer (some ⟨R, 0, none⟩), .string x] W K := by
 subst hd
 have h := xTake T w0 W R tp tc i V rest x HT HM hT hi
 rw [toList_of hs] at h
 refine h.mono fun e W' ⟨he, hM⟩ => ?_
 subst he
 cases hb : isT T i s with
 | true =>
  rw [hb] at hM HR
  exact hyes hb HR W' hM
 | false =>
  rw [hb] at hM HR
  exact hno hb HR W' hM
theorem must_use (HR : (if isT T i s = true then A else PR.no) = r) (HT : Sl w0 tp (T.flatMap TokD.cs)) (HM : Mem w0 W (.box R 94 [.slice tp T.length tc, .int .i64 d, V] :: rest)) (hd : d = (i : Int)) (hT : T.length ≤ 1000) (hi : i ≤ T.length) (hs : x.data.toList = s)
  (hno : r = .no → ∀ W', Below w0.heap.size w0 W' → K faultE W')
  (hyes : isT T i s = true → A = r → ∀ W', Mem w0 W' (.box R 94 [.slice tp T.length tc, .int .i64 (i + 1 : Nat), V] :: rest) → K (.returned (.tuple #[])) W') :
  Calls Tryz.prog 76 #[.pointer (some ⟨R, 0, none⟩), .string x] W K := by
 subst hd
 have h := xMust T w0 W R tp tc i V rest x HT HM hT hi
 rw [toList_of hs] at h
 refine h.mono fun e W' ⟨h1, h2⟩ => ?_
 cases hb : isT T i s with
 | true =>
  rw [hb] at HR
  obtain ⟨rfl, hM⟩ := h1 hb
  exact hyes hb HR W' hM
 | false =>
  rw [hb] at HR
  obtain ⟨rfl, hM⟩ := h2 hb
  exact hno HR.symm W' hM
/-- The operation of a sign of comparing: a walk parts on it. -/
theorem rel_use {j : Nat} {A B : PR} {L : Prop} (HR : (if relT T j ≠ 0 then A else B) = r) (hyes : (relL (sgT T j).toList ≠ 0) → (relL (sgT T j).toList != 0) = true → A = r → L) (hno : (relL (sgT T j).toList = 0) → (relL (sgT T j).toList != 0) = false → B = r → L) : L := by
 by_cases h : relT T j = 0
 ·rw [if_neg (fun x => x h)] at HR
  exact hno h (by show (relT T j != 0) = false; rw [h]; rfl) HR
 ·rw [if_pos h] at HR
  exact hyes h (by show (relT T j != 0) = true; simpa using h) HR
theorem of_rel {j : Nat} (h : relL (sgT T j).toList ≠ 0) : relT T j ≠ 0 := h
theorem put_use {i : Int} (o k : Int) (HM : Mem w0 W (.box R 94 [.slice tp n tc, .int .i64 i, .slice op acc.length oc] :: .row op oc 36 8 acc.length (acc.flatMap NodeD.cs) :: rest)) (ha : acc.length ≤ 2000)
  (h : ∀ (op : Option Addr) (oc : Nat) (W' : World), Mem w0 W' (.box R 94 [.slice tp n tc, .int .i64 i, .slice op (acc ++ [nOp o k]).length oc] :: .row op oc 36 8 (acc ++ [nOp o k]).length ((acc ++ [nOp o k]).flatMap NodeD.cs) :: rest) → K (.returned (.tuple #[])) W') :
  Calls Tryz.prog 73 #[.pointer (some ⟨R, 0, none⟩), .int .i64 o, .int .i64 k] W K :=
 (xPut w0 W R tp n tc i op oc acc rest o k HM ha).mono fun e W' ⟨op, oc, he, hM⟩ => he ▸ h op oc W' hM
theorem named_use {i : Int} (o k : Int) (x : ByteArray) (HM : Mem w0 W (.box R 94 [.slice tp n tc, .int .i64 i, .slice op acc.length oc] :: .row op oc 36 8 acc.length (acc.flatMap NodeD.cs) :: rest)) (ha : acc.length ≤ 2000)
  (h : ∀ (op : Option Addr) (oc : Nat) (W' : World), Mem w0 W' (.box R 94 [.slice tp n tc, .int .i64 i, .slice op (acc ++ [nTx o k x]).length oc] :: .row op oc 36 8 (acc ++ [nTx o k x]).length ((acc ++ [nTx o k x]).flatMap NodeD.cs) :: rest) → K (.returned (.tuple #[])) W') :
  Calls Tryz.prog 148 #[.pointer (some ⟨R, 0, none⟩), .int .i64 o, .int .i64 k, .string x] W K :=
 (xNamed w0 W R tp n tc i op oc acc rest o k x HM ha).mono fun e W' ⟨op, oc, he, hM⟩ => he ▸ h op oc W' hM
end
end Go.Proofs.YtkackccmhghphaaGreatDoor
