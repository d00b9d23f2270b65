/- expr.plain. -/
import Derived.Test.YtpjcjgikfplgnaaDoorTypes
import Derived.Test.YtpjcjgikfplgnaaDoorWideA
import Derived.Test.YtpjcjgikfplgnaaDoorCharsA
namespace Go.Proofs.YtpjcjgikfplgnaaDoor
open Go.RowKit
set_option linter.unusedVariables false
set_option linter.unusedSimpArgs false
set_option maxRecDepth 100000

/-- What expr.plain leaves of a node's fields, and whether those that its operation uses are right. -/
def namedOp (op : Int) : Bool := decide (op = 7 ∨ op = 24 ∨ op = 25 ∨ op = 28)
def spanB (t : ByteArray) : Bool := decide (t.toList = [91, 93] ∨ t.toList = [91, 41] ∨ t.toList = [40, 93] ∨ t.toList = [40, 41])
def nodeV (op kids : Int) (text : ByteArray) (neg : Bool) (hi lo : Nat) (sc day : Int) : Value := .agg #[.int .i64 op, .int .i64 kids, .string text, .bool neg, .int .u64 hi, .int .u64 lo, .int .i64 sc, .int .i64 day]
def clrV (op kids : Int) (text : ByteArray) (neg : Bool) (hi lo : Nat) (sc day : Int) : Value :=
  if op = 4 then nodeV op kids text false 0 0 0 day else if op = 6 then nodeV op kids text neg hi lo sc 0
  else if op = 5 ∨ op = 35 ∨ namedOp op = true then nodeV op kids ⟨#[]⟩ neg hi lo sc day else nodeV op kids text neg hi lo sc day
def okB (op : Int) (text : ByteArray) (neg : Bool) (n : Nat) (sc day : Int) : Bool :=
  if op = 4 then dcmB neg n sc && !neg else if op = 5 then decide (text.size ≤ 1000) && textB text else if op = 6 then decide (1 ≤ day) && decide (day ≤ 3652059)
  else if op = 35 then spanB text else if namedOp op = true then nameB text else true

/-- The post of expr.plain. -/
def PlainPost (op kids : Int) (text : ByteArray) (neg : Bool) (hi lo : Nat) (sc day : Int) (n : Nat) (w : World) (e : Ending) (w' : World) : Prop :=
  e = .returned (.tuple #[clrV op kids text neg hi lo sc day, .bool (okB op text neg n sc day)]) ∧ Below w.heap.size w w'

set_option maxHeartbeats 2000000 in
theorem plain_num (kids : Int) (text : ByteArray) (neg : Bool) (hi lo : Nat) (sc day : Int) (n : Nat) (w : World) (h : W2 n hi lo) :
    Calls Tryd.prog 38 #[nodeV 4 kids text neg hi lo sc day] w (PlainPost 4 kids text neg hi lo sc day n w) := by
  have HM := Lib.hid (Mem.start w)
  unfold nodeV
  have HW := Lib.hid h
  clear h
  go_enter Tryd.func38, Tryd.ntmps38
  go_wp2_with (first | ((with_reducible show wpList _ _ _ (Oper.mk _ (Op.load _ _) _ _ _ _ :: _) _ _); first | refine ldb1 HM.out 0 rfl rfl rfl ?_ | refine ldb1 HM.out 1 rfl rfl rfl ?_ | refine ldbW HM.out 0 rfl rfl rfl ?_ | refine ldbW HM.out 1 rfl rfl rfl ?_ | ((first | refine ldbS HM.out 0 rfl rfl rfl ?_ | refine ldbS HM.out 1 rfl rfl rfl ?_); simp only [List.take, List.drop])) | ((with_reducible show wpList _ _ _ (Oper.mk _ (Op.store _ _ _) _ _ _ _ :: _) _ _); (first | ((first | refine stb1 (v := .int _ _) rfl HM.out 0 rfl rfl rfl rfl rfl ?_ | refine stb1 (v := .string _) rfl HM.out 0 rfl rfl rfl rfl rfl ?_ | refine stb1 (v := .int _ _) rfl HM.out 1 rfl rfl rfl rfl rfl ?_ | refine stb1 (v := .string _) rfl HM.out 1 rfl rfl rfl rfl rfl ?_ | refine stbW rfl HM.out 0 rfl rfl rfl rfl rfl rfl ?_ | refine stbW rfl HM.out 1 rfl rfl rfl rfl rfl rfl ?_); intro W2 HM1; clear HM; (try clear W1); rename World => W1; have HM := Lib.hid HM1; clear HM1; simp only [List.set] at HM) | ((first | refine stbS rfl HM.out 0 rfl rfl rfl rfl rfl rfl ?_ | refine stbS rfl HM.out 1 rfl rfl rfl rfl rfl rfl ?_); intro W2 HM1; clear HM; (try clear W1); rename World => W1; have HM := Lib.hid HM1; clear HM1; simp only [List.set, List.take, List.drop, List.cons_append, List.nil_append, Nat.reduceAdd] at HM))) | ((with_reducible show wpList _ _ _ (Oper.mk _ (Op.alloc _) _ _ _ _ :: _) _ _); refine alb rfl HM.out ?_; intro g1 W2 HM1; clear HM; (try clear W1); rename World => W1; have HM := Lib.hid HM1; clear HM1) | ((with_reducible show wpList _ _ _ (Oper.mk _ (Op.box _ _) _ _ _ _ :: _) _ _); refine bxA rfl HM.out rfl ?_; intro g1 W2 HM1; clear HM; (try clear W1); rename World => W1; have HM := Lib.hid HM1; clear HM1) | (go_at_call 59; (with_reducible refine (form_any neg n hi lo sc _ HW.out).mono ?_); rintro e W2 ⟨rfl, hb⟩; have HM1 := HM.out.next hb; clear hb; clear HM; (try clear W1); rename World => W1; have HM := Lib.hid HM1; clear HM1))
  all_goals refine bodyPost_ret (res_box_tmp rfl HM.out 0 rfl rfl rfl rfl) rfl ⟨?_, HM.out.below⟩
  · have hd : dcmB neg n sc = true := by assumption
    exact by simp [okB, hd, clrV, nodeV]
  · have hd : ¬ dcmB neg n sc = true := by assumption
    exact by simp [okB, hd, clrV, nodeV]

set_option maxHeartbeats 2000000 in
theorem plain_text (kids : Int) (text : ByteArray) (neg : Bool) (hi lo : Nat) (sc day : Int) (n : Nat) (w : World) (hs : text.size ≤ 9223372036854775807) (hT : U8 w) :
    Calls Tryd.prog 38 #[nodeV 5 kids text neg hi lo sc day] w (PlainPost 5 kids text neg hi lo sc day n w) := by
  have HM := Lib.hid (Mem.start w)
  unfold nodeV
  have HT := Lib.hid hT
  clear hT
  go_enter Tryd.func38, Tryd.ntmps38
  go_wp2_with (first | ((with_reducible show wpList _ _ _ (Oper.mk _ (Op.load _ _) _ _ _ _ :: _) _ _); first | refine ldb1 HM.out 0 rfl rfl rfl ?_ | refine ldb1 HM.out 1 rfl rfl rfl ?_ | refine ldbW HM.out 0 rfl rfl rfl ?_ | refine ldbW HM.out 1 rfl rfl rfl ?_ | ((first | refine ldbS HM.out 0 rfl rfl rfl ?_ | refine ldbS HM.out 1 rfl rfl rfl ?_); simp only [List.take, List.drop])) | ((with_reducible show wpList _ _ _ (Oper.mk _ (Op.store _ _ _) _ _ _ _ :: _) _ _); (first | ((first | refine stb1 (v := .int _ _) rfl HM.out 0 rfl rfl rfl rfl rfl ?_ | refine stb1 (v := .string _) rfl HM.out 0 rfl rfl rfl rfl rfl ?_ | refine stb1 (v := .int _ _) rfl HM.out 1 rfl rfl rfl rfl rfl ?_ | refine stb1 (v := .string _) rfl HM.out 1 rfl rfl rfl rfl rfl ?_ | refine stbW rfl HM.out 0 rfl rfl rfl rfl rfl rfl ?_ | refine stbW rfl HM.out 1 rfl rfl rfl rfl rfl rfl ?_); intro W2 HM1; clear HM; (try clear W1); rename World => W1; have HM := Lib.hid HM1; clear HM1; simp only [List.set] at HM) | ((first | refine stbS rfl HM.out 0 rfl rfl rfl rfl rfl rfl ?_ | refine stbS rfl HM.out 1 rfl rfl rfl rfl rfl rfl ?_); intro W2 HM1; clear HM; (try clear W1); rename World => W1; have HM := Lib.hid HM1; clear HM1; simp only [List.set, List.take, List.drop, List.cons_append, List.nil_append, Nat.reduceAdd] at HM))) | ((with_reducible show wpList _ _ _ (Oper.mk _ (Op.alloc _) _ _ _ _ :: _) _ _); refine alb rfl HM.out ?_; intro g1 W2 HM1; clear HM; (try clear W1); rename World => W1; have HM := Lib.hid HM1; clear HM1) | ((with_reducible show wpList _ _ _ (Oper.mk _ (Op.box _ _) _ _ _ _ :: _) _ _); refine bxA rfl HM.out rfl ?_; intro g1 W2 HM1; clear HM; (try clear W1); rename World => W1; have HM := Lib.hid HM1; clear HM1) | (go_at_call 60; (with_reducible refine (valid_any text _ hs (U8.below HT.out HM.out.below)).mono ?_); rintro e W2 ⟨rfl, hb⟩; have HM1 := HM.out.next hb; clear hb; clear HM; (try clear W1); rename World => W1; have HM := Lib.hid HM1; clear HM1))
  all_goals refine bodyPost_ret (res_box_tmp rfl HM.out 0 rfl rfl rfl rfl) rfl ⟨?_, HM.out.below⟩
  · have hd : (text.size : Int) ≤ 1000 := by assumption
    exact by simp [okB, show text.size ≤ 1000 by omega, clrV, nodeV]
  · have hd : 1000 < (text.size : Int) := by assumption
    exact by simp [okB, show ¬ text.size ≤ 1000 by omega, clrV, nodeV]

set_option maxHeartbeats 2000000 in
theorem plain_date (kids : Int) (text : ByteArray) (neg : Bool) (hi lo : Nat) (sc day : Int) (n : Nat) (w : World) :
    Calls Tryd.prog 38 #[nodeV 6 kids text neg hi lo sc day] w (PlainPost 6 kids text neg hi lo sc day n w) := by
  have HM := Lib.hid (Mem.start w)
  unfold nodeV
  go_enter Tryd.func38, Tryd.ntmps38
  go_wp2_with (first | ((with_reducible show wpList _ _ _ (Oper.mk _ (Op.load _ _) _ _ _ _ :: _) _ _); first | refine ldb1 HM.out 0 rfl rfl rfl ?_ | refine ldb1 HM.out 1 rfl rfl rfl ?_ | refine ldbW HM.out 0 rfl rfl rfl ?_ | refine ldbW HM.out 1 rfl rfl rfl ?_ | ((first | refine ldbS HM.out 0 rfl rfl rfl ?_ | refine ldbS HM.out 1 rfl rfl rfl ?_); simp only [List.take, List.drop])) | ((with_reducible show wpList _ _ _ (Oper.mk _ (Op.store _ _ _) _ _ _ _ :: _) _ _); (first | ((first | refine stb1 (v := .int _ _) rfl HM.out 0 rfl rfl rfl rfl rfl ?_ | refine stb1 (v := .string _) rfl HM.out 0 rfl rfl rfl rfl rfl ?_ | refine stb1 (v := .int _ _) rfl HM.out 1 rfl rfl rfl rfl rfl ?_ | refine stb1 (v := .string _) rfl HM.out 1 rfl rfl rfl rfl rfl ?_ | refine stbW rfl HM.out 0 rfl rfl rfl rfl rfl rfl ?_ | refine stbW rfl HM.out 1 rfl rfl rfl rfl rfl rfl ?_); intro W2 HM1; clear HM; (try clear W1); rename World => W1; have HM := Lib.hid HM1; clear HM1; simp only [List.set] at HM) | ((first | refine stbS rfl HM.out 0 rfl rfl rfl rfl rfl rfl ?_ | refine stbS rfl HM.out 1 rfl rfl rfl rfl rfl rfl ?_); intro W2 HM1; clear HM; (try clear W1); rename World => W1; have HM := Lib.hid HM1; clear HM1; simp only [List.set, List.take, List.drop, List.cons_append, List.nil_append, Nat.reduceAdd] at HM))) | ((with_reducible show wpList _ _ _ (Oper.mk _ (Op.alloc _) _ _ _ _ :: _) _ _); refine alb rfl HM.out ?_; intro g1 W2 HM1; clear HM; (try clear W1); rename World => W1; have HM := Lib.hid HM1; clear HM1) | ((with_reducible show wpList _ _ _ (Oper.mk _ (Op.box _ _) _ _ _ _ :: _) _ _); refine bxA rfl HM.out rfl ?_; intro g1 W2 HM1; clear HM; (try clear W1); rename World => W1; have HM := Lib.hid HM1; clear HM1))
  all_goals refine bodyPost_ret (res_box_tmp rfl HM.out 0 rfl rfl rfl rfl) rfl ⟨?_, HM.out.below⟩
  · have hd : 1 ≤ day := by assumption
    exact by simp [okB, hd, clrV, nodeV]
  · have hd : day < 1 := by assumption
    exact by simp [okB, show ¬ 1 ≤ day by omega, clrV, nodeV]

set_option maxHeartbeats 2000000 in
theorem plain_name (op : Int) (h : op = 7 ∨ op = 24 ∨ op = 25 ∨ op = 28) (kids : Int) (text : ByteArray) (neg : Bool) (hi lo : Nat) (sc day : Int) (n : Nat) (w : World) :
    Calls Tryd.prog 38 #[nodeV op kids text neg hi lo sc day] w (PlainPost op kids text neg hi lo sc day n w) := by
  have HM := Lib.hid (Mem.start w)
  unfold nodeV
  rcases h with rfl | rfl | rfl | rfl
  all_goals
    go_enter Tryd.func38, Tryd.ntmps38
    go_wp2_with (first | ((with_reducible show wpList _ _ _ (Oper.mk _ (Op.load _ _) _ _ _ _ :: _) _ _); first | refine ldb1 HM.out 0 rfl rfl rfl ?_ | refine ldb1 HM.out 1 rfl rfl rfl ?_ | refine ldbW HM.out 0 rfl rfl rfl ?_ | refine ldbW HM.out 1 rfl rfl rfl ?_ | ((first | refine ldbS HM.out 0 rfl rfl rfl ?_ | refine ldbS HM.out 1 rfl rfl rfl ?_); simp only [List.take, List.drop])) | ((with_reducible show wpList _ _ _ (Oper.mk _ (Op.store _ _ _) _ _ _ _ :: _) _ _); (first | ((first | refine stb1 (v := .int _ _) rfl HM.out 0 rfl rfl rfl rfl rfl ?_ | refine stb1 (v := .string _) rfl HM.out 0 rfl rfl rfl rfl rfl ?_ | refine stb1 (v := .int _ _) rfl HM.out 1 rfl rfl rfl rfl rfl ?_ | refine stb1 (v := .string _) rfl HM.out 1 rfl rfl rfl rfl rfl ?_ | refine stbW rfl HM.out 0 rfl rfl rfl rfl rfl rfl ?_ | refine stbW rfl HM.out 1 rfl rfl rfl rfl rfl rfl ?_); intro W2 HM1; clear HM; (try clear W1); rename World => W1; have HM := Lib.hid HM1; clear HM1; simp only [List.set] at HM) | ((first | refine stbS rfl HM.out 0 rfl rfl rfl rfl rfl rfl ?_ | refine stbS rfl HM.out 1 rfl rfl rfl rfl rfl rfl ?_); intro W2 HM1; clear HM; (try clear W1); rename World => W1; have HM := Lib.hid HM1; clear HM1; simp only [List.set, List.take, List.drop, List.cons_append, List.nil_append, Nat.reduceAdd] at HM))) | ((with_reducible show wpList _ _ _ (Oper.mk _ (Op.alloc _) _ _ _ _ :: _) _ _); refine alb rfl HM.out ?_; intro g1 W2 HM1; clear HM; (try clear W1); rename World => W1; have HM := Lib.hid HM1; clear HM1) | ((with_reducible show wpList _ _ _ (Oper.mk _ (Op.box _ _) _ _ _ _ :: _) _ _); refine bxA rfl HM.out rfl ?_; intro g1 W2 HM1; clear HM; (try clear W1); rename World => W1; have HM := Lib.hid HM1; clear HM1) | (go_at_call 43; (with_reducible refine (name_any text _).mono ?_); rintro e W2 ⟨rfl, rfl⟩))
    exact bodyPost_ret (res_box_tmp rfl HM.out 0 rfl rfl rfl rfl) rfl ⟨by simp [okB, clrV, nodeV, namedOp], HM.out.below⟩

set_option maxHeartbeats 2000000 in
theorem plain_span (kids : Int) (text : ByteArray) (neg : Bool) (hi lo : Nat) (sc day : Int) (n : Nat) (w : World) :
    Calls Tryd.prog 38 #[nodeV 35 kids text neg hi lo sc day] w (PlainPost 35 kids text neg hi lo sc day n w) := by
  have HM := Lib.hid (Mem.start w)
  unfold nodeV
  go_enter Tryd.func38, Tryd.ntmps38
  go_wp2_with (first | ((with_reducible show wpList _ _ _ (Oper.mk _ (Op.load _ _) _ _ _ _ :: _) _ _); first | refine ldb1 HM.out 0 rfl rfl rfl ?_ | refine ldb1 HM.out 1 rfl rfl rfl ?_ | refine ldbW HM.out 0 rfl rfl rfl ?_ | refine ldbW HM.out 1 rfl rfl rfl ?_ | ((first | refine ldbS HM.out 0 rfl rfl rfl ?_ | refine ldbS HM.out 1 rfl rfl rfl ?_); simp only [List.take, List.drop])) | ((with_reducible show wpList _ _ _ (Oper.mk _ (Op.store _ _ _) _ _ _ _ :: _) _ _); (first | ((first | refine stb1 (v := .int _ _) rfl HM.out 0 rfl rfl rfl rfl rfl ?_ | refine stb1 (v := .string _) rfl HM.out 0 rfl rfl rfl rfl rfl ?_ | refine stb1 (v := .int _ _) rfl HM.out 1 rfl rfl rfl rfl rfl ?_ | refine stb1 (v := .string _) rfl HM.out 1 rfl rfl rfl rfl rfl ?_ | refine stbW rfl HM.out 0 rfl rfl rfl rfl rfl rfl ?_ | refine stbW rfl HM.out 1 rfl rfl rfl rfl rfl rfl ?_); intro W2 HM1; clear HM; (try clear W1); rename World => W1; have HM := Lib.hid HM1; clear HM1; simp only [List.set] at HM) | ((first | refine stbS rfl HM.out 0 rfl rfl rfl rfl rfl rfl ?_ | refine stbS rfl HM.out 1 rfl rfl rfl rfl rfl rfl ?_); intro W2 HM1; clear HM; (try clear W1); rename World => W1; have HM := Lib.hid HM1; clear HM1; simp only [List.set, List.take, List.drop, List.cons_append, List.nil_append, Nat.reduceAdd] at HM))) | ((with_reducible show wpList _ _ _ (Oper.mk _ (Op.alloc _) _ _ _ _ :: _) _ _); refine alb rfl HM.out ?_; intro g1 W2 HM1; clear HM; (try clear W1); rename World => W1; have HM := Lib.hid HM1; clear HM1) | ((with_reducible show wpList _ _ _ (Oper.mk _ (Op.box _ _) _ _ _ _ :: _) _ _); refine bxA rfl HM.out rfl ?_; intro g1 W2 HM1; clear HM; (try clear W1); rename World => W1; have HM := Lib.hid HM1; clear HM1))
  all_goals refine bodyPost_ret (res_box_tmp rfl HM.out 0 rfl rfl rfl rfl) rfl ⟨?_, HM.out.below⟩
  all_goals first
    | (have hd : text.toList = [91, 93] := (by assumption); exact (by simp [okB, spanB, hd, clrV, nodeV]))
    | (have hd : text.toList = [91, 41] := (by assumption); exact (by simp [okB, spanB, hd, clrV, nodeV]))
    | (have hd : text.toList = [40, 93] := (by assumption); exact (by simp [okB, spanB, hd, clrV, nodeV]))
    | (have h1 : ¬ text.toList = [91, 93] := (by assumption); have h2 : ¬ text.toList = [91, 41] := (by assumption); have h3 : ¬ text.toList = [40, 93] := (by assumption); exact (by simp [okB, spanB, h1, h2, h3, clrV, nodeV]; rw [Bool.eq_iff_iff]; simp [h1, h2, h3]))

set_option maxHeartbeats 2000000 in
theorem plain_rest (op : Int) (h4 : op ≠ 4) (h5 : op ≠ 5) (h6 : op ≠ 6) (h35 : op ≠ 35) (hn : namedOp op = false) (kids : Int) (text : ByteArray) (neg : Bool) (hi lo : Nat) (sc day : Int) (n : Nat) (w : World) :
    Calls Tryd.prog 38 #[nodeV op kids text neg hi lo sc day] w (PlainPost op kids text neg hi lo sc day n w) := by
  have HM := Lib.hid (Mem.start w)
  have hR := Lib.hid (show clrV op kids text neg hi lo sc day = nodeV op kids text neg hi lo sc day ∧ okB op text neg n sc day = true by simp [clrV, okB, h4, h5, h6, h35, hn])
  unfold nodeV
  have hn' : ¬ (op = 7 ∨ op = 24 ∨ op = 25 ∨ op = 28) := of_decide_eq_false hn
  have b4 : (op == 4) = false := beq_false_of_ne h4
  have b5 : (op == 5) = false := beq_false_of_ne h5
  have b6 : (op == 6) = false := beq_false_of_ne h6
  have b35 : (op == 35) = false := beq_false_of_ne h35
  have b7 : (op == 7) = false := beq_false_of_ne (by omega)
  have b24 : (op == 24) = false := beq_false_of_ne (by omega)
  have b25 : (op == 25) = false := beq_false_of_ne (by omega)
  have b28 : (op == 28) = false := beq_false_of_ne (by omega)
  clear h4 h5 h6 h35 hn hn'
  go_enter Tryd.func38, Tryd.ntmps38
  go_wp2_with (first | ((with_reducible show wpList _ _ _ (Oper.mk _ (Op.load _ _) _ _ _ _ :: _) _ _); first | refine ldb1 HM.out 0 rfl rfl rfl ?_ | refine ldb1 HM.out 1 rfl rfl rfl ?_ | refine ldbW HM.out 0 rfl rfl rfl ?_ | refine ldbW HM.out 1 rfl rfl rfl ?_ | ((first | refine ldbS HM.out 0 rfl rfl rfl ?_ | refine ldbS HM.out 1 rfl rfl rfl ?_); simp only [List.take, List.drop])) | ((with_reducible show wpList _ _ _ (Oper.mk _ (Op.store _ _ _) _ _ _ _ :: _) _ _); (first | ((first | refine stb1 (v := .int _ _) rfl HM.out 0 rfl rfl rfl rfl rfl ?_ | refine stb1 (v := .string _) rfl HM.out 0 rfl rfl rfl rfl rfl ?_ | refine stb1 (v := .int _ _) rfl HM.out 1 rfl rfl rfl rfl rfl ?_ | refine stb1 (v := .string _) rfl HM.out 1 rfl rfl rfl rfl rfl ?_ | refine stbW rfl HM.out 0 rfl rfl rfl rfl rfl rfl ?_ | refine stbW rfl HM.out 1 rfl rfl rfl rfl rfl rfl ?_); intro W2 HM1; clear HM; (try clear W1); rename World => W1; have HM := Lib.hid HM1; clear HM1; simp only [List.set] at HM) | ((first | refine stbS rfl HM.out 0 rfl rfl rfl rfl rfl rfl ?_ | refine stbS rfl HM.out 1 rfl rfl rfl rfl rfl rfl ?_); intro W2 HM1; clear HM; (try clear W1); rename World => W1; have HM := Lib.hid HM1; clear HM1; simp only [List.set, List.take, List.drop, List.cons_append, List.nil_append, Nat.reduceAdd] at HM))) | ((with_reducible show wpList _ _ _ (Oper.mk _ (Op.alloc _) _ _ _ _ :: _) _ _); refine alb rfl HM.out ?_; intro g1 W2 HM1; clear HM; (try clear W1); rename World => W1; have HM := Lib.hid HM1; clear HM1) | ((with_reducible show wpList _ _ _ (Oper.mk _ (Op.box _ _) _ _ _ _ :: _) _ _); refine bxA rfl HM.out rfl ?_; intro g1 W2 HM1; clear HM; (try clear W1); rename World => W1; have HM := Lib.hid HM1; clear HM1))
  exact bodyPost_ret (res_box_tmp rfl HM.out 0 rfl rfl rfl rfl) rfl ⟨by rw [hR.out.1, hR.out.2]; rfl, HM.out.below⟩

theorem plain_any (op kids : Int) (text : ByteArray) (neg : Bool) (hi lo : Nat) (sc day : Int) (n : Nat) (w : World) (h : W2 n hi lo) (hs : text.size ≤ 9223372036854775807) (hT : U8 w) :
    Calls Tryd.prog 38 #[nodeV op kids text neg hi lo sc day] w (PlainPost op kids text neg hi lo sc day n w) := by
  by_cases h4 : op = 4
  · subst h4; exact plain_num kids text neg hi lo sc day n w h
  by_cases h5 : op = 5
  · subst h5; exact plain_text kids text neg hi lo sc day n w hs hT
  by_cases h6 : op = 6
  · subst h6; exact plain_date kids text neg hi lo sc day n w
  by_cases h35 : op = 35
  · subst h35; exact plain_span kids text neg hi lo sc day n w
  cases hn : namedOp op
  · exact plain_rest op h4 h5 h6 h35 hn kids text neg hi lo sc day n w
  · exact plain_name op (of_decide_eq_true hn) kids text neg hi lo sc day n w
end Go.Proofs.YtpjcjgikfplgnaaDoor
