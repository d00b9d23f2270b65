/- typed of check: the type of a node out of its parts. Printed by wip/tools/gen_typed.py. (fast) -/
import Derived.Test.YtpjcjgikfplgnaaDoorCheckTyped
namespace Go.Proofs.YtpjcjgikfplgnaaDoor
open Go.RowKit
set_option linter.unusedVariables false
set_option linter.unusedSimpArgs false
set_option maxRecDepth 100000



set_option maxHeartbeats 4000000 in
theorem typed_path0 (gc gm : Nat) (sv : Value) (l : List SymD) (n : NodeD) (b : Addr) (c : Nat) (x : ThT) (w : World) (hop : n.op = 24) (hS : Cells w b (([x] : List ThT).flatMap ThT.cs)) (h0 : x.t = ⟨0, 0⟩) :
    Calls Tryd.prog 63 #[.pointer (some ⟨gc, 0, none⟩), .agg n.cs.toArray, .slice (some b) 1 c] w fun e w' => e = .returned (resV ((⟨0, 0⟩, 0))) ∧ Below w.heap.size w w' := by
  have HM := Lib.hid (Mem.start w)
  obtain ⟨op, kids, text, neg, hi, lo, sc, day⟩ := n
  obtain ⟨⟨xk, xo⟩, xq, xn, xc⟩ := x
  have T0 := Lib.hid (show Cells w (b.add (0 * 3)) [.int .i64 xk, .int .i64 xo] from (hS.elem ThT.cs 3 ThT.cs_len (i := 0) rfl).take 2)
  have U0 := Lib.hid (show Cells w (b.add (0 * 3)) [.int .i64 xk, .int .i64 xo, .slice xq xn xc] from hS.elem ThT.cs 3 ThT.cs_len (i := 0) rfl)
  have b1 : (xk == 0) = true := by cases h0; rfl
  have b2 : (xo == 0) = true := by cases h0; rfl
  clear hS h0
  obtain rfl : op = 24 := hop
  go_enter Tryd.func63, Tryd.ntmps63
  go_wp2_with (first | ((with_reducible show wpList _ _ _ (Oper.mk _ _ _ _ _ (some _) :: _) _ _); (with_reducible refine skip_op ?_ ?_); (exact rfl)) | ((with_reducible show wpList _ _ _ (Oper.mk _ (Op.load _ _) _ _ _ _ :: _) _ _); first | refine ldb1 HM.out 0 rfl rfl rfl ?_ | refine ldb1 HM.out 1 rfl rfl rfl ?_ | refine ldb1 HM.out 2 rfl rfl rfl ?_ | refine ldbW HM.out 0 rfl rfl rfl ?_ | refine ldbW HM.out 1 rfl rfl rfl ?_ | refine ldbW HM.out 2 rfl rfl rfl ?_ | ((first | refine ldbS HM.out 0 rfl rfl rfl ?_ | refine ldbS HM.out 1 rfl rfl rfl ?_ | refine ldbS HM.out 2 rfl rfl rfl ?_); simp only [List.take, List.drop])) | ((with_reducible show wpList _ _ _ (Oper.mk _ (Op.store _ _ _) _ _ _ _ :: _) _ _); (first | ((first | refine stbW rfl HM.out 0 rfl rfl rfl rfl rfl rfl ?_ | refine stbW rfl HM.out 1 rfl rfl rfl rfl rfl rfl ?_ | refine stbW rfl HM.out 2 rfl rfl rfl rfl rfl rfl ?_); intro W2 HM1; clear HM; (try clear W1); rename World => W1; have HM := Lib.hid HM1; clear HM1; simp only [List.set] at HM) | ((first | refine stbS rfl HM.out 0 rfl rfl rfl rfl rfl rfl ?_ | refine stbS rfl HM.out 1 rfl rfl rfl rfl rfl rfl ?_ | refine stbS rfl HM.out 2 rfl rfl rfl rfl rfl rfl ?_); intro W2 HM1; clear HM; (try clear W1); rename World => W1; have HM := Lib.hid HM1; clear HM1; simp only [List.set, List.take, List.drop, List.cons_append, List.nil_append, Nat.reduceAdd, List.length_cons, List.length_nil] at HM))) | ((with_reducible show wpList _ _ _ (Oper.mk (some 4) (Op.box _ _) _ _ _ _ :: _) _ _); refine bxA rfl HM.out rfl ?_; intro g4 W2 HM1; clear HM; (try clear W1); rename World => W1; have HM := Lib.hid HM1; clear HM1) | ((with_reducible show wpList _ _ _ (Oper.mk (some 6) (Op.alloc _) _ _ _ _ :: _) _ _); refine alb rfl HM.out ?_; intro g6 W2 HM1; clear HM; (try clear W1); rename World => W1; have HM := Lib.hid HM1; clear HM1) | ((with_reducible show wpList _ _ _ (Oper.mk _ (Op.alloc _) _ _ _ _ :: _) _ _); refine alb rfl HM.out ?_; intro g1 W2 HM1; clear HM; (try clear W1); rename World => W1; have HM := Lib.hid HM1; clear HM1))
  refine wp_region_steps2 [(true, 0), (true, 1), (true, 2), (true, 3), (false, 4), (true, 5), (false, 6), (false, 7), (true, 8), (true, 9), (false, 10), (true, 11)] (by kernel_rfl) (by kernel_rfl) rfl (by kernel_rfl) (fun _ _ _ _ _ h => h) HM.out _ (.cons _ (.cons_cons _ .slnil)) ?_
  intro hNE W2 HM1; clear HM; (try clear W1); rename World => W1; have HM := Lib.hid HM1; clear HM1
  have HS0 := Lib.hid (HM.out.sub (.cons _ (.cons_cons _ .slnil)))
  simp only [wpSteps, List.getElem?_cons_succ, List.getElem?_cons_zero]
  (repeat (first | ((with_reducible refine wpQuiet_nil ?_); (try dsimp only)) | ((with_reducible show wpQuiet _ _ _ _ (Oper.mk _ (Op.load _ _) _ _ _ _ :: _) _); first | (refine qdbW HS0.out 0 rfl rfl rfl ?_) | (refine qdbS HS0.out 0 rfl rfl rfl ?_; simp only [List.take, List.drop])) | ((with_reducible show wpQuiet _ _ _ _ (Oper.mk (some 152) _ _ _ _ _ :: _) _); (refine qixa (i := 0) rfl rfl rfl (by decide) ?_)) | ((with_reducible show wpQuiet _ _ _ _ (Oper.mk (some 154) _ _ _ _ _ :: _) _); (refine qdA (vs := [.int .i64 xk, .int .i64 xo]) rfl rfl (fun W ⟨q, hq⟩ => hq ▸ q.mem.olds T0.out) ?_)) | go_big_quiet_step (fail) | quiet_step (fail)))
  go_wp2_with (first | (go_at_call 17; (with_reducible refine (cof_any _ _).mono ?_); rintro e W2 ⟨rfl, hb⟩; have HM1 := HM.out.next hb; clear hb; clear HM; (try clear W1); rename World => W1; have HM := Lib.hid HM1; clear HM1))
  refine ⟨⟨⟨_, HM.out.sub (by repeat (first | exact List.nil_sublist _ | with_reducible refine List.Sublist.cons_cons _ ?_ | refine List.Sublist.cons _ ?_))⟩, rfl⟩, ?_⟩
  (try dsimp only)
  (repeat (first | ((with_reducible refine wpQuiet_nil ?_); (try dsimp only)) | go_big_quiet_step (fail) | quiet_step (fail)))
  go_wp2_with (first | (go_at_call 17; (with_reducible refine (cof_any _ _).mono ?_); rintro e W2 ⟨rfl, hb⟩; have HM1 := HM.out.next hb; clear hb; clear HM; (try clear W1); rename World => W1; have HM := Lib.hid HM1; clear HM1))
  refine ⟨⟨⟨_, HM.out.sub (by repeat (first | exact List.nil_sublist _ | with_reducible refine List.Sublist.cons_cons _ ?_ | refine List.Sublist.cons _ ?_))⟩, rfl⟩, ?_⟩
  (try dsimp only)
  go_wp2_with (first | (go_at_call 82; first | ((with_reducible refine (told_yes _ _ _).mono ?_); rintro e W2 ⟨rfl, hb⟩; have HM1 := HM.out.next hb; clear hb; clear HM; (try clear W1); rename World => W1; have HM := Lib.hid HM1; clear HM1) | ((with_reducible refine (told_no _ _ _).mono ?_); rintro e W2 ⟨rfl, hb⟩; have HM1 := HM.out.next hb; clear hb; clear HM; (try clear W1); rename World => W1; have HM := Lib.hid HM1; clear HM1)))
  refine ⟨⟨⟨_, HM.out.sub (by repeat (first | exact List.nil_sublist _ | with_reducible refine List.Sublist.cons_cons _ ?_ | refine List.Sublist.cons _ ?_))⟩, rfl⟩, ?_⟩
  (try dsimp only)
  (repeat (first | ((with_reducible refine wpQuiet_nil ?_); (try dsimp only)) | go_big_quiet_step (fail) | quiet_step (fail)))
  go_wp2_with (first | ((with_reducible show wpList _ _ _ (Oper.mk _ (Op.store _ _ _) _ _ _ _ :: _) _ _); (first | ((first | refine stbW rfl HM.out 0 rfl rfl rfl rfl rfl rfl ?_ | refine stbW rfl HM.out 1 rfl rfl rfl rfl rfl rfl ?_ | refine stbW rfl HM.out 2 rfl rfl rfl rfl rfl rfl ?_); intro W2 HM1; clear HM; (try clear W1); rename World => W1; have HM := Lib.hid HM1; clear HM1; simp only [List.set] at HM) | ((first | refine stbS rfl HM.out 0 rfl rfl rfl rfl rfl rfl ?_ | refine stbS rfl HM.out 1 rfl rfl rfl rfl rfl rfl ?_ | refine stbS rfl HM.out 2 rfl rfl rfl rfl rfl rfl ?_); intro W2 HM1; clear HM; (try clear W1); rename World => W1; have HM := Lib.hid HM1; clear HM1; simp only [List.set, List.take, List.drop, List.cons_append, List.nil_append, Nat.reduceAdd, List.length_cons, List.length_nil] at HM))))
  refine ⟨⟨⟨_, HM.out.sub (by repeat (first | exact List.nil_sublist _ | with_reducible refine List.Sublist.cons_cons _ ?_ | refine List.Sublist.cons _ ?_))⟩, rfl⟩, ?_⟩
  (try dsimp only)
  (repeat (first | ((with_reducible refine wpQuiet_nil ?_); (try dsimp only)) | go_big_quiet_step (fail) | quiet_step (fail)))
  clear HS0 hNE
  go_wp2_with fail
  exact bodyPost_ret (res_box_tmp rfl HM.out 0 rfl rfl rfl rfl) rfl ⟨rfl, HM.out.below⟩

set_option maxHeartbeats 4000000 in
theorem typed_path1 (gc gm : Nat) (sv : Value) (l : List SymD) (n : NodeD) (b : Addr) (c : Nat) (x : ThT) (w : World) (hop : n.op = 24) (hS : Cells w b (([x] : List ThT).flatMap ThT.cs)) (h0 : x.t.k ≠ 0) :
    Calls Tryd.prog 63 #[.pointer (some ⟨gc, 0, none⟩), .agg n.cs.toArray, .slice (some b) 1 c] w fun e w' => e = .returned (resV ((⟨0, 0⟩, 9))) ∧ Below w.heap.size w w' := by
  have HM := Lib.hid (Mem.start w)
  obtain ⟨op, kids, text, neg, hi, lo, sc, day⟩ := n
  obtain ⟨⟨xk, xo⟩, xq, xn, xc⟩ := x
  have T0 := Lib.hid (show Cells w (b.add (0 * 3)) [.int .i64 xk, .int .i64 xo] from (hS.elem ThT.cs 3 ThT.cs_len (i := 0) rfl).take 2)
  have U0 := Lib.hid (show Cells w (b.add (0 * 3)) [.int .i64 xk, .int .i64 xo, .slice xq xn xc] from hS.elem ThT.cs 3 ThT.cs_len (i := 0) rfl)
  have b1 : (xk == 0) = false := beq_false_of_ne h0
  have b2 : (xk != 0) = true := by simpa using h0
  have b3 : ¬ xk = 0 := h0
  clear hS h0
  obtain rfl : op = 24 := hop
  go_enter Tryd.func63, Tryd.ntmps63
  go_wp2_with (first | ((with_reducible show wpList _ _ _ (Oper.mk _ _ _ _ _ (some _) :: _) _ _); (with_reducible refine skip_op ?_ ?_); (exact rfl)) | ((with_reducible show wpList _ _ _ (Oper.mk _ (Op.load _ _) _ _ _ _ :: _) _ _); first | refine ldb1 HM.out 0 rfl rfl rfl ?_ | refine ldb1 HM.out 1 rfl rfl rfl ?_ | refine ldb1 HM.out 2 rfl rfl rfl ?_ | refine ldbW HM.out 0 rfl rfl rfl ?_ | refine ldbW HM.out 1 rfl rfl rfl ?_ | refine ldbW HM.out 2 rfl rfl rfl ?_ | ((first | refine ldbS HM.out 0 rfl rfl rfl ?_ | refine ldbS HM.out 1 rfl rfl rfl ?_ | refine ldbS HM.out 2 rfl rfl rfl ?_); simp only [List.take, List.drop])) | ((with_reducible show wpList _ _ _ (Oper.mk _ (Op.store _ _ _) _ _ _ _ :: _) _ _); (first | ((first | refine stbW rfl HM.out 0 rfl rfl rfl rfl rfl rfl ?_ | refine stbW rfl HM.out 1 rfl rfl rfl rfl rfl rfl ?_ | refine stbW rfl HM.out 2 rfl rfl rfl rfl rfl rfl ?_); intro W2 HM1; clear HM; (try clear W1); rename World => W1; have HM := Lib.hid HM1; clear HM1; simp only [List.set] at HM) | ((first | refine stbS rfl HM.out 0 rfl rfl rfl rfl rfl rfl ?_ | refine stbS rfl HM.out 1 rfl rfl rfl rfl rfl rfl ?_ | refine stbS rfl HM.out 2 rfl rfl rfl rfl rfl rfl ?_); intro W2 HM1; clear HM; (try clear W1); rename World => W1; have HM := Lib.hid HM1; clear HM1; simp only [List.set, List.take, List.drop, List.cons_append, List.nil_append, Nat.reduceAdd, List.length_cons, List.length_nil] at HM))) | ((with_reducible show wpList _ _ _ (Oper.mk (some 4) (Op.box _ _) _ _ _ _ :: _) _ _); refine bxA rfl HM.out rfl ?_; intro g4 W2 HM1; clear HM; (try clear W1); rename World => W1; have HM := Lib.hid HM1; clear HM1) | ((with_reducible show wpList _ _ _ (Oper.mk (some 6) (Op.alloc _) _ _ _ _ :: _) _ _); refine alb rfl HM.out ?_; intro g6 W2 HM1; clear HM; (try clear W1); rename World => W1; have HM := Lib.hid HM1; clear HM1) | ((with_reducible show wpList _ _ _ (Oper.mk _ (Op.alloc _) _ _ _ _ :: _) _ _); refine alb rfl HM.out ?_; intro g1 W2 HM1; clear HM; (try clear W1); rename World => W1; have HM := Lib.hid HM1; clear HM1))
  refine wp_region_steps2 [(true, 0), (true, 1), (true, 2), (true, 3), (false, 4), (true, 5), (false, 6), (false, 7), (true, 8), (true, 9), (false, 10), (true, 11)] (by kernel_rfl) (by kernel_rfl) rfl (by kernel_rfl) (fun _ _ _ _ _ h => h) HM.out _ (.cons _ (.cons_cons _ .slnil)) ?_
  intro hNE W2 HM1; clear HM; (try clear W1); rename World => W1; have HM := Lib.hid HM1; clear HM1
  have HS0 := Lib.hid (HM.out.sub (.cons _ (.cons_cons _ .slnil)))
  simp only [wpSteps, List.getElem?_cons_succ, List.getElem?_cons_zero]
  (repeat (first | ((with_reducible refine wpQuiet_nil ?_); (try dsimp only)) | ((with_reducible show wpQuiet _ _ _ _ (Oper.mk _ (Op.load _ _) _ _ _ _ :: _) _); first | (refine qdbW HS0.out 0 rfl rfl rfl ?_) | (refine qdbS HS0.out 0 rfl rfl rfl ?_; simp only [List.take, List.drop])) | ((with_reducible show wpQuiet _ _ _ _ (Oper.mk (some 152) _ _ _ _ _ :: _) _); (refine qixa (i := 0) rfl rfl rfl (by decide) ?_)) | ((with_reducible show wpQuiet _ _ _ _ (Oper.mk (some 154) _ _ _ _ _ :: _) _); (refine qdA (vs := [.int .i64 xk, .int .i64 xo]) rfl rfl (fun W ⟨q, hq⟩ => hq ▸ q.mem.olds T0.out) ?_)) | go_big_quiet_step (fail) | quiet_step (fail)))
  go_wp2_with (first | (go_at_call 17; (with_reducible refine (cof_any _ _).mono ?_); rintro e W2 ⟨rfl, hb⟩; have HM1 := HM.out.next hb; clear hb; clear HM; (try clear W1); rename World => W1; have HM := Lib.hid HM1; clear HM1))
  refine ⟨⟨⟨_, HM.out.sub (by repeat (first | exact List.nil_sublist _ | with_reducible refine List.Sublist.cons_cons _ ?_ | refine List.Sublist.cons _ ?_))⟩, rfl⟩, ?_⟩
  (try dsimp only)
  (repeat (first | ((with_reducible refine wpQuiet_nil ?_); (try dsimp only)) | go_big_quiet_step (fail) | quiet_step (fail)))
  go_wp2_with (first | (go_at_call 17; (with_reducible refine (cof_any _ _).mono ?_); rintro e W2 ⟨rfl, hb⟩; have HM1 := HM.out.next hb; clear hb; clear HM; (try clear W1); rename World => W1; have HM := Lib.hid HM1; clear HM1))
  refine ⟨⟨⟨_, HM.out.sub (by repeat (first | exact List.nil_sublist _ | with_reducible refine List.Sublist.cons_cons _ ?_ | refine List.Sublist.cons _ ?_))⟩, rfl⟩, ?_⟩
  (try dsimp only)
  go_wp2_with (first | (go_at_call 82; first | ((with_reducible refine (told_yes _ _ _).mono ?_); rintro e W2 ⟨rfl, hb⟩; have HM1 := HM.out.next hb; clear hb; clear HM; (try clear W1); rename World => W1; have HM := Lib.hid HM1; clear HM1) | ((with_reducible refine (told_no _ _ _).mono ?_); rintro e W2 ⟨rfl, hb⟩; have HM1 := HM.out.next hb; clear hb; clear HM; (try clear W1); rename World => W1; have HM := Lib.hid HM1; clear HM1)))
  refine ⟨⟨⟨_, HM.out.sub (by repeat (first | exact List.nil_sublist _ | with_reducible refine List.Sublist.cons_cons _ ?_ | refine List.Sublist.cons _ ?_))⟩, rfl⟩, ?_⟩
  (try dsimp only)
  (repeat (first | ((with_reducible refine wpQuiet_nil ?_); (try dsimp only)) | go_big_quiet_step (fail) | quiet_step (fail)))
  go_wp2_with (first | ((with_reducible show wpList _ _ _ (Oper.mk _ (Op.store _ _ _) _ _ _ _ :: _) _ _); (first | ((first | refine stbW rfl HM.out 0 rfl rfl rfl rfl rfl rfl ?_ | refine stbW rfl HM.out 1 rfl rfl rfl rfl rfl rfl ?_ | refine stbW rfl HM.out 2 rfl rfl rfl rfl rfl rfl ?_); intro W2 HM1; clear HM; (try clear W1); rename World => W1; have HM := Lib.hid HM1; clear HM1; simp only [List.set] at HM) | ((first | refine stbS rfl HM.out 0 rfl rfl rfl rfl rfl rfl ?_ | refine stbS rfl HM.out 1 rfl rfl rfl rfl rfl rfl ?_ | refine stbS rfl HM.out 2 rfl rfl rfl rfl rfl rfl ?_); intro W2 HM1; clear HM; (try clear W1); rename World => W1; have HM := Lib.hid HM1; clear HM1; simp only [List.set, List.take, List.drop, List.cons_append, List.nil_append, Nat.reduceAdd, List.length_cons, List.length_nil] at HM))))
  refine ⟨⟨⟨_, HM.out.sub (by repeat (first | exact List.nil_sublist _ | with_reducible refine List.Sublist.cons_cons _ ?_ | refine List.Sublist.cons _ ?_))⟩, rfl⟩, ?_⟩
  (try dsimp only)
  (repeat (first | ((with_reducible refine wpQuiet_nil ?_); (try dsimp only)) | go_big_quiet_step (fail) | quiet_step (fail)))
  clear HS0 hNE
  go_wp2_with fail
  exact bodyPost_ret (res_box_tmp rfl HM.out 0 rfl rfl rfl rfl) rfl ⟨rfl, HM.out.below⟩

set_option maxHeartbeats 4000000 in
theorem typed_path2 (gc gm : Nat) (sv : Value) (l : List SymD) (n : NodeD) (b : Addr) (c : Nat) (x : ThT) (w : World) (hop : n.op = 24) (hS : Cells w b (([x] : List ThT).flatMap ThT.cs)) (h1 : x.t.k = 0) (h0 : x.t.o ≠ 0) :
    Calls Tryd.prog 63 #[.pointer (some ⟨gc, 0, none⟩), .agg n.cs.toArray, .slice (some b) 1 c] w fun e w' => e = .returned (resV ((⟨0, 0⟩, 9))) ∧ Below w.heap.size w w' := by
  have HM := Lib.hid (Mem.start w)
  obtain ⟨op, kids, text, neg, hi, lo, sc, day⟩ := n
  obtain ⟨⟨xk, xo⟩, xq, xn, xc⟩ := x
  have T0 := Lib.hid (show Cells w (b.add (0 * 3)) [.int .i64 xk, .int .i64 xo] from (hS.elem ThT.cs 3 ThT.cs_len (i := 0) rfl).take 2)
  have U0 := Lib.hid (show Cells w (b.add (0 * 3)) [.int .i64 xk, .int .i64 xo, .slice xq xn xc] from hS.elem ThT.cs 3 ThT.cs_len (i := 0) rfl)
  have b1 : (xk == 0) = true := by rw [show xk = 0 from h1]; rfl
  have b2 : (xo == 0) = false := beq_false_of_ne h0
  clear hS h0 h1
  obtain rfl : op = 24 := hop
  go_enter Tryd.func63, Tryd.ntmps63
  go_wp2_with (first | ((with_reducible show wpList _ _ _ (Oper.mk _ _ _ _ _ (some _) :: _) _ _); (with_reducible refine skip_op ?_ ?_); (exact rfl)) | ((with_reducible show wpList _ _ _ (Oper.mk _ (Op.load _ _) _ _ _ _ :: _) _ _); first | refine ldb1 HM.out 0 rfl rfl rfl ?_ | refine ldb1 HM.out 1 rfl rfl rfl ?_ | refine ldb1 HM.out 2 rfl rfl rfl ?_ | refine ldbW HM.out 0 rfl rfl rfl ?_ | refine ldbW HM.out 1 rfl rfl rfl ?_ | refine ldbW HM.out 2 rfl rfl rfl ?_ | ((first | refine ldbS HM.out 0 rfl rfl rfl ?_ | refine ldbS HM.out 1 rfl rfl rfl ?_ | refine ldbS HM.out 2 rfl rfl rfl ?_); simp only [List.take, List.drop])) | ((with_reducible show wpList _ _ _ (Oper.mk _ (Op.store _ _ _) _ _ _ _ :: _) _ _); (first | ((first | refine stbW rfl HM.out 0 rfl rfl rfl rfl rfl rfl ?_ | refine stbW rfl HM.out 1 rfl rfl rfl rfl rfl rfl ?_ | refine stbW rfl HM.out 2 rfl rfl rfl rfl rfl rfl ?_); intro W2 HM1; clear HM; (try clear W1); rename World => W1; have HM := Lib.hid HM1; clear HM1; simp only [List.set] at HM) | ((first | refine stbS rfl HM.out 0 rfl rfl rfl rfl rfl rfl ?_ | refine stbS rfl HM.out 1 rfl rfl rfl rfl rfl rfl ?_ | refine stbS rfl HM.out 2 rfl rfl rfl rfl rfl rfl ?_); intro W2 HM1; clear HM; (try clear W1); rename World => W1; have HM := Lib.hid HM1; clear HM1; simp only [List.set, List.take, List.drop, List.cons_append, List.nil_append, Nat.reduceAdd, List.length_cons, List.length_nil] at HM))) | ((with_reducible show wpList _ _ _ (Oper.mk (some 4) (Op.box _ _) _ _ _ _ :: _) _ _); refine bxA rfl HM.out rfl ?_; intro g4 W2 HM1; clear HM; (try clear W1); rename World => W1; have HM := Lib.hid HM1; clear HM1) | ((with_reducible show wpList _ _ _ (Oper.mk (some 6) (Op.alloc _) _ _ _ _ :: _) _ _); refine alb rfl HM.out ?_; intro g6 W2 HM1; clear HM; (try clear W1); rename World => W1; have HM := Lib.hid HM1; clear HM1) | ((with_reducible show wpList _ _ _ (Oper.mk _ (Op.alloc _) _ _ _ _ :: _) _ _); refine alb rfl HM.out ?_; intro g1 W2 HM1; clear HM; (try clear W1); rename World => W1; have HM := Lib.hid HM1; clear HM1))
  refine wp_region_steps2 [(true, 0), (true, 1), (true, 2), (true, 3), (false, 4), (true, 5), (false, 6), (false, 7), (true, 8), (true, 9), (false, 10), (true, 11)] (by kernel_rfl) (by kernel_rfl) rfl (by kernel_rfl) (fun _ _ _ _ _ h => h) HM.out _ (.cons _ (.cons_cons _ .slnil)) ?_
  intro hNE W2 HM1; clear HM; (try clear W1); rename World => W1; have HM := Lib.hid HM1; clear HM1
  have HS0 := Lib.hid (HM.out.sub (.cons _ (.cons_cons _ .slnil)))
  simp only [wpSteps, List.getElem?_cons_succ, List.getElem?_cons_zero]
  (repeat (first | ((with_reducible refine wpQuiet_nil ?_); (try dsimp only)) | ((with_reducible show wpQuiet _ _ _ _ (Oper.mk _ (Op.load _ _) _ _ _ _ :: _) _); first | (refine qdbW HS0.out 0 rfl rfl rfl ?_) | (refine qdbS HS0.out 0 rfl rfl rfl ?_; simp only [List.take, List.drop])) | ((with_reducible show wpQuiet _ _ _ _ (Oper.mk (some 152) _ _ _ _ _ :: _) _); (refine qixa (i := 0) rfl rfl rfl (by decide) ?_)) | ((with_reducible show wpQuiet _ _ _ _ (Oper.mk (some 154) _ _ _ _ _ :: _) _); (refine qdA (vs := [.int .i64 xk, .int .i64 xo]) rfl rfl (fun W ⟨q, hq⟩ => hq ▸ q.mem.olds T0.out) ?_)) | go_big_quiet_step (fail) | quiet_step (fail)))
  go_wp2_with (first | (go_at_call 17; (with_reducible refine (cof_any _ _).mono ?_); rintro e W2 ⟨rfl, hb⟩; have HM1 := HM.out.next hb; clear hb; clear HM; (try clear W1); rename World => W1; have HM := Lib.hid HM1; clear HM1))
  refine ⟨⟨⟨_, HM.out.sub (by repeat (first | exact List.nil_sublist _ | with_reducible refine List.Sublist.cons_cons _ ?_ | refine List.Sublist.cons _ ?_))⟩, rfl⟩, ?_⟩
  (try dsimp only)
  (repeat (first | ((with_reducible refine wpQuiet_nil ?_); (try dsimp only)) | go_big_quiet_step (fail) | quiet_step (fail)))
  go_wp2_with (first | (go_at_call 17; (with_reducible refine (cof_any _ _).mono ?_); rintro e W2 ⟨rfl, hb⟩; have HM1 := HM.out.next hb; clear hb; clear HM; (try clear W1); rename World => W1; have HM := Lib.hid HM1; clear HM1))
  refine ⟨⟨⟨_, HM.out.sub (by repeat (first | exact List.nil_sublist _ | with_reducible refine List.Sublist.cons_cons _ ?_ | refine List.Sublist.cons _ ?_))⟩, rfl⟩, ?_⟩
  (try dsimp only)
  go_wp2_with (first | (go_at_call 82; first | ((with_reducible refine (told_yes _ _ _).mono ?_); rintro e W2 ⟨rfl, hb⟩; have HM1 := HM.out.next hb; clear hb; clear HM; (try clear W1); rename World => W1; have HM := Lib.hid HM1; clear HM1) | ((with_reducible refine (told_no _ _ _).mono ?_); rintro e W2 ⟨rfl, hb⟩; have HM1 := HM.out.next hb; clear hb; clear HM; (try clear W1); rename World => W1; have HM := Lib.hid HM1; clear HM1)))
  refine ⟨⟨⟨_, HM.out.sub (by repeat (first | exact List.nil_sublist _ | with_reducible refine List.Sublist.cons_cons _ ?_ | refine List.Sublist.cons _ ?_))⟩, rfl⟩, ?_⟩
  (try dsimp only)
  (repeat (first | ((with_reducible refine wpQuiet_nil ?_); (try dsimp only)) | go_big_quiet_step (fail) | quiet_step (fail)))
  go_wp2_with (first | ((with_reducible show wpList _ _ _ (Oper.mk _ (Op.store _ _ _) _ _ _ _ :: _) _ _); (first | ((first | refine stbW rfl HM.out 0 rfl rfl rfl rfl rfl rfl ?_ | refine stbW rfl HM.out 1 rfl rfl rfl rfl rfl rfl ?_ | refine stbW rfl HM.out 2 rfl rfl rfl rfl rfl rfl ?_); intro W2 HM1; clear HM; (try clear W1); rename World => W1; have HM := Lib.hid HM1; clear HM1; simp only [List.set] at HM) | ((first | refine stbS rfl HM.out 0 rfl rfl rfl rfl rfl rfl ?_ | refine stbS rfl HM.out 1 rfl rfl rfl rfl rfl rfl ?_ | refine stbS rfl HM.out 2 rfl rfl rfl rfl rfl rfl ?_); intro W2 HM1; clear HM; (try clear W1); rename World => W1; have HM := Lib.hid HM1; clear HM1; simp only [List.set, List.take, List.drop, List.cons_append, List.nil_append, Nat.reduceAdd, List.length_cons, List.length_nil] at HM))))
  refine ⟨⟨⟨_, HM.out.sub (by repeat (first | exact List.nil_sublist _ | with_reducible refine List.Sublist.cons_cons _ ?_ | refine List.Sublist.cons _ ?_))⟩, rfl⟩, ?_⟩
  (try dsimp only)
  (repeat (first | ((with_reducible refine wpQuiet_nil ?_); (try dsimp only)) | go_big_quiet_step (fail) | quiet_step (fail)))
  clear HS0 hNE
  go_wp2_with fail
  exact bodyPost_ret (res_box_tmp rfl HM.out 0 rfl rfl rfl rfl) rfl ⟨rfl, HM.out.below⟩

end Go.Proofs.YtpjcjgikfplgnaaDoor
