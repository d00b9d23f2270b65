/- typed of check: the type of a node out of its parts. Printed by wip/tools/gen_typed.py. (fast) -/
import Derived.Test.YtpjcjgikfplgnaaDoorCheckTyped
namespace Go.Proofs.YtpjcjgikfplgnaaDoor
open Go.RowKit
set_option linter.unusedVariables false
set_option linter.unusedSimpArgs false
set_option maxRecDepth 100000



set_option maxHeartbeats 4000000 in
theorem typed_if (gc gm : Nat) (sv : Value) (l : List SymD) (n : NodeD) (b : Addr) (c : Nat) (x y z : ThT) (w : World) (hop : n.op = 21) (hS : Cells w b (([x, y, z] : List ThT).flatMap ThT.cs)) (hc : 3 ≤ c) (hx : x.t.form) (hy : y.t.form) (hz : z.t.form) :
    Calls Tryd.prog 63 #[.pointer (some ⟨gc, 0, none⟩), .agg n.cs.toArray, .slice (some b) 3 c] w fun e w' => e = .returned (resV (toldF (meetB x.t.k x.t.o 1 0) ⟨(joinT y.t.k y.t.o z.t.k z.t.o).1, (joinT y.t.k y.t.o z.t.k z.t.o).2⟩)) ∧ Below w.heap.size w w' := by
  have HM := Lib.hid (Mem.start w)
  obtain ⟨op, kids, text, neg, hi, lo, sc, day⟩ := n
  obtain ⟨⟨xk, xo⟩, xq, xn, xc⟩ := x
  obtain ⟨⟨yk, yo⟩, yq, yn, yc⟩ := y
  obtain ⟨⟨zk, zo⟩, zq, zn, zc⟩ := z
  have T0 := Lib.hid (show Cells w (b.add (0 * 3)) [.int .i64 xk, .int .i64 xo] from (hS.elem ThT.cs 3 ThT.cs_len (i := 0) rfl).take 2)
  have U0 := Lib.hid (show Cells w (b.add (0 * 3)) [.int .i64 xk, .int .i64 xo, .slice xq xn xc] from hS.elem ThT.cs 3 ThT.cs_len (i := 0) rfl)
  have T1 := Lib.hid (show Cells w (b.add (1 * 3)) [.int .i64 yk, .int .i64 yo] from (hS.elem ThT.cs 3 ThT.cs_len (i := 1) rfl).take 2)
  have U1 := Lib.hid (show Cells w (b.add (1 * 3)) [.int .i64 yk, .int .i64 yo, .slice yq yn yc] from hS.elem ThT.cs 3 ThT.cs_len (i := 1) rfl)
  have T2 := Lib.hid (show Cells w (b.add (2 * 3)) [.int .i64 zk, .int .i64 zo] from (hS.elem ThT.cs 3 ThT.cs_len (i := 2) rfl).take 2)
  have U2 := Lib.hid (show Cells w (b.add (2 * 3)) [.int .i64 zk, .int .i64 zo, .slice zq zn zc] from hS.elem ThT.cs 3 ThT.cs_len (i := 2) rfl)
  obtain ⟨⟨jk, jo⟩, hj⟩ : ∃ j, joinT yk yo zk zo = j := ⟨_, rfl⟩
  obtain ⟨m, hm⟩ : ∃ m, meetB xk xo 1 0 = m := ⟨_, rfl⟩
  have HX := Lib.hid (show Sl w (some b) (([⟨⟨xk, xo⟩, xq, xn, xc⟩] : List ThT).flatMap ThT.cs) from ⟨(fun e => by cases e), (fun a e => by cases e; exact hS.take 3)⟩)
  have H1 := Lib.hid (fun W (h : Sl W (some b) (([⟨⟨xk, xo⟩, xq, xn, xc⟩] : List ThT).flatMap ThT.cs)) => (show Calls Tryd.prog 83 #[.slice (some b) 1 c, .int .i64 1] W fun e w' => e = .returned (.bool m) ∧ Below W.heap.size W w' by
    have h2 := both_any (some b) c [⟨⟨xk, xo⟩, xq, xn, xc⟩] 1 W h (fun t ht => by rw [List.mem_singleton.1 ht]; exact hx) (by decide) (by simp)
    rw [show allB (([⟨⟨xk, xo⟩, xq, xn, xc⟩] : List ThT).map ThT.t) 1 = m by rw [← hm]; simp [allB]] at h2
    exact h2))
  have H2 := Lib.hid (fun W => hj ▸ kJoin_any yk yo zk zo W hy hz)
  have HR := Lib.hid (show toldF (meetB xk xo 1 0) ⟨(joinT yk yo zk zo).1, (joinT yk yo zk zo).2⟩ = toldF m ⟨jk, jo⟩ by rw [hm, hj])
  clear hS hm hj
  obtain rfl : op = 21 := hop
  cases m
  all_goals
    go_enter Tryd.func63, Tryd.ntmps63
    go_wp2_with (first | ((with_reducible show wpList _ _ _ (Oper.mk _ _ _ _ _ (some _) :: _) _ _); (with_reducible refine skip_op ?_ ?_); (exact rfl)) | ((with_reducible show wpList _ _ _ (Oper.mk _ (Op.load _ _) _ _ _ _ :: _) _ _); first | refine ldb1 HM.out 0 rfl rfl rfl ?_ | refine ldb1 HM.out 1 rfl rfl rfl ?_ | refine ldb1 HM.out 2 rfl rfl rfl ?_ | refine ldbW HM.out 0 rfl rfl rfl ?_ | refine ldbW HM.out 1 rfl rfl rfl ?_ | refine ldbW HM.out 2 rfl rfl rfl ?_ | ((first | refine ldbS HM.out 0 rfl rfl rfl ?_ | refine ldbS HM.out 1 rfl rfl rfl ?_ | refine ldbS HM.out 2 rfl rfl rfl ?_); simp only [List.take, List.drop])) | ((with_reducible show wpList _ _ _ (Oper.mk _ (Op.store _ _ _) _ _ _ _ :: _) _ _); (first | ((first | refine stbW rfl HM.out 0 rfl rfl rfl rfl rfl rfl ?_ | refine stbW rfl HM.out 1 rfl rfl rfl rfl rfl rfl ?_ | refine stbW rfl HM.out 2 rfl rfl rfl rfl rfl rfl ?_); intro W2 HM1; clear HM; (try clear W1); rename World => W1; have HM := Lib.hid HM1; clear HM1; simp only [List.set] at HM) | ((first | refine stbS rfl HM.out 0 rfl rfl rfl rfl rfl rfl ?_ | refine stbS rfl HM.out 1 rfl rfl rfl rfl rfl rfl ?_ | refine stbS rfl HM.out 2 rfl rfl rfl rfl rfl rfl ?_); intro W2 HM1; clear HM; (try clear W1); rename World => W1; have HM := Lib.hid HM1; clear HM1; simp only [List.set, List.take, List.drop, List.cons_append, List.nil_append, Nat.reduceAdd, List.length_cons, List.length_nil] at HM))) | ((with_reducible show wpList _ _ _ (Oper.mk (some 4) (Op.box _ _) _ _ _ _ :: _) _ _); refine bxA rfl HM.out rfl ?_; intro g4 W2 HM1; clear HM; (try clear W1); rename World => W1; have HM := Lib.hid HM1; clear HM1) | ((with_reducible show wpList _ _ _ (Oper.mk (some 6) (Op.alloc _) _ _ _ _ :: _) _ _); refine alb rfl HM.out ?_; intro g6 W2 HM1; clear HM; (try clear W1); rename World => W1; have HM := Lib.hid HM1; clear HM1) | ((with_reducible show wpList _ _ _ (Oper.mk _ (Op.alloc _) _ _ _ _ :: _) _ _); refine alb rfl HM.out ?_; intro g1 W2 HM1; clear HM; (try clear W1); rename World => W1; have HM := Lib.hid HM1; clear HM1))
    refine wp_region_fork [(true, 0), (true, 1), (true, 2), (true, 3), (true, 4), (true, 5), (true, 6), (true, 7)] [(false, 8), (true, 9), (true, 10), (true, 11), (false, 12), (false, 13), (true, 14)] [(false, 12), (false, 8), (true, 9), (true, 10), (true, 11), (false, 13), (true, 14)] (by kernel_rfl) (by kernel_rfl) rfl (by kernel_rfl) (fun _ _ _ _ _ h => h) HM.out _ (.cons_cons _ (.cons_cons _ .slnil)) ?_
    intro hNE W2 HM1; clear HM; (try clear W1); rename World => W1; have HM := Lib.hid HM1; clear HM1
    have HS0 := Lib.hid (HM.out.sub (.cons_cons _ (.cons_cons _ .slnil)))
    simp only [wpFork, wpSteps, List.getElem?_cons_succ, List.getElem?_cons_zero]
    (repeat (first | ((with_reducible refine wpQuiet_nil ?_); (try dsimp only)) | ((with_reducible show wpQuiet _ _ _ _ (Oper.mk _ (Op.load _ _) _ _ _ _ :: _) _); first | (refine qdbW HS0.out 0 rfl rfl rfl ?_) | (refine qdbW HS0.out 1 rfl rfl rfl ?_) | (refine qdbS HS0.out 0 rfl rfl rfl ?_; simp only [List.take, List.drop]) | (refine qdbS HS0.out 1 rfl rfl rfl ?_; simp only [List.take, List.drop])) | ((with_reducible show wpQuiet _ _ _ _ (Oper.mk (some 92) _ _ _ _ _ :: _) _); (refine qixa (i := 1) rfl rfl rfl (by decide) ?_)) | ((with_reducible show wpQuiet _ _ _ _ (Oper.mk (some 96) _ _ _ _ _ :: _) _); (refine qixa (i := 2) rfl rfl rfl (by decide) ?_)) | ((with_reducible show wpQuiet _ _ _ _ (Oper.mk (some 94) _ _ _ _ _ :: _) _); (refine qdA (vs := [.int .i64 yk, .int .i64 yo]) rfl rfl (fun W ⟨q, hq⟩ => hq ▸ q.mem.olds T1.out) ?_)) | ((with_reducible show wpQuiet _ _ _ _ (Oper.mk (some 98) _ _ _ _ _ :: _) _); (refine qdA (vs := [.int .i64 zk, .int .i64 zo]) rfl rfl (fun W ⟨q, hq⟩ => hq ▸ q.mem.olds T2.out) ?_)) | go_big_quiet_step (fail) | quiet_step (fail)))
    refine ⟨?_, ?_⟩
    · go_wp2_with (first | (go_at_call 84; (with_reducible refine (H2.out _).mono ?_); rintro e W2 ⟨rfl, hb⟩; have HM1 := HM.out.next hb; clear hb; clear HM; (try clear W1); rename World => W1; have HM := Lib.hid HM1; clear HM1))
      refine ⟨⟨⟨_, HM.out.sub (by repeat (first | exact List.nil_sublist _ | with_reducible refine List.Sublist.cons_cons _ ?_ | refine List.Sublist.cons _ ?_))⟩, rfl⟩, ?_⟩
      (try dsimp only)
      (repeat (first | ((with_reducible refine wpQuiet_nil ?_); (try dsimp only)) | go_big_quiet_step (fail) | quiet_step (fail)))
      go_wp2_with (first | ((with_reducible show wpList _ _ _ (Oper.mk (some 10) (Op.alloc _) _ _ _ _ :: _) _ _); refine alb rfl HM.out ?_; intro g10 W2 HM1; clear HM; (try clear W1); rename World => W1; have HM := Lib.hid HM1; clear HM1))
      refine ⟨⟨⟨_, HM.out.sub (by repeat (first | exact List.nil_sublist _ | with_reducible refine List.Sublist.cons_cons _ ?_ | refine List.Sublist.cons _ ?_))⟩, rfl⟩, ?_⟩
      (try dsimp only)
      go_wp2_with (first | ((with_reducible show wpList _ _ _ (Oper.mk _ (Op.store _ _ _) _ _ _ _ :: _) _ _); (first | ((first | refine stbW rfl HM.out 0 rfl rfl rfl rfl rfl rfl ?_ | refine stbW rfl HM.out 1 rfl rfl rfl rfl rfl rfl ?_ | refine stbW rfl HM.out 2 rfl rfl rfl rfl rfl rfl ?_); intro W2 HM1; clear HM; (try clear W1); rename World => W1; have HM := Lib.hid HM1; clear HM1; simp only [List.set] at HM) | ((first | refine stbS rfl HM.out 0 rfl rfl rfl rfl rfl rfl ?_ | refine stbS rfl HM.out 1 rfl rfl rfl rfl rfl rfl ?_ | refine stbS rfl HM.out 2 rfl rfl rfl rfl rfl rfl ?_); intro W2 HM1; clear HM; (try clear W1); rename World => W1; have HM := Lib.hid HM1; clear HM1; simp only [List.set, List.take, List.drop, List.cons_append, List.nil_append, Nat.reduceAdd, List.length_cons, List.length_nil] at HM))))
      refine ⟨⟨⟨_, HM.out.sub (by repeat (first | exact List.nil_sublist _ | with_reducible refine List.Sublist.cons_cons _ ?_ | refine List.Sublist.cons _ ?_))⟩, rfl⟩, ?_⟩
      (try dsimp only)
      (repeat (first | ((with_reducible refine wpQuiet_nil ?_); (try dsimp only)) | go_big_quiet_step (fail) | quiet_step (fail)))
      clear HS0 hNE
      go_wp2_with fail
      refine wp_region_steps2 [(true, 0), (true, 1), (true, 3), (false, 2), (false, 4), (true, 5), (true, 6), (false, 7), (true, 8)] (by kernel_rfl) (by kernel_rfl) rfl (by kernel_rfl) (fun _ _ _ _ _ h => h) HM.out _ (.cons_cons _ (.cons _ (.cons_cons _ .slnil))) ?_
      intro hNE W2 HM1; clear HM; (try clear W1); rename World => W1; have HM := Lib.hid HM1; clear HM1
      have HS0 := Lib.hid (HM.out.sub (.cons_cons _ (.cons _ (.cons_cons _ .slnil))))
      simp only [wpSteps, List.getElem?_cons_succ, List.getElem?_cons_zero]
      (repeat (first | ((with_reducible refine wpQuiet_nil ?_); (try dsimp only)) | ((with_reducible show wpQuiet _ _ _ _ (Oper.mk _ (Op.load _ _) _ _ _ _ :: _) _); first | (refine qdbW HS0.out 0 rfl rfl rfl ?_) | (refine qdbW HS0.out 1 rfl rfl rfl ?_) | (refine qdbS HS0.out 0 rfl rfl rfl ?_; simp only [List.take, List.drop]) | (refine qdbS HS0.out 1 rfl rfl rfl ?_; simp only [List.take, List.drop])) | ((with_reducible show wpQuiet _ _ _ _ (Oper.mk (some 103) _ _ _ _ _ :: _) _); (refine qslt (m := 1) rfl rfl rfl (by omega) ?_)) | go_big_quiet_step (fail) | quiet_step (fail)))
      go_wp2_with (first | (go_at_call 83; (with_reducible refine (H1.out _ (HM.out.sl HX.out)).mono ?_); rintro e W2 ⟨rfl, hb⟩; have HM1 := HM.out.next hb; clear hb; clear HM; (try clear W1); rename World => W1; have HM := Lib.hid HM1; clear HM1))
      refine ⟨⟨⟨_, HM.out.sub (by repeat (first | exact List.nil_sublist _ | with_reducible refine List.Sublist.cons_cons _ ?_ | refine List.Sublist.cons _ ?_))⟩, rfl⟩, ?_⟩
      (try dsimp only)
      go_wp2_with (first | (go_at_call 82; first | ((with_reducible refine (told_yes _ _ _).mono ?_); rintro e W2 ⟨rfl, hb⟩; have HM1 := HM.out.next hb; clear hb; clear HM; (try clear W1); rename World => W1; have HM := Lib.hid HM1; clear HM1) | ((with_reducible refine (told_no _ _ _).mono ?_); rintro e W2 ⟨rfl, hb⟩; have HM1 := HM.out.next hb; clear hb; clear HM; (try clear W1); rename World => W1; have HM := Lib.hid HM1; clear HM1)))
      refine ⟨⟨⟨_, HM.out.sub (by repeat (first | exact List.nil_sublist _ | with_reducible refine List.Sublist.cons_cons _ ?_ | refine List.Sublist.cons _ ?_))⟩, rfl⟩, ?_⟩
      (try dsimp only)
      (repeat (first | ((with_reducible refine wpQuiet_nil ?_); (try dsimp only)) | go_big_quiet_step (fail) | quiet_step (fail)))
      go_wp2_with (first | ((with_reducible show wpList _ _ _ (Oper.mk _ (Op.store _ _ _) _ _ _ _ :: _) _ _); (first | ((first | refine stbW rfl HM.out 0 rfl rfl rfl rfl rfl rfl ?_ | refine stbW rfl HM.out 1 rfl rfl rfl rfl rfl rfl ?_ | refine stbW rfl HM.out 2 rfl rfl rfl rfl rfl rfl ?_); intro W2 HM1; clear HM; (try clear W1); rename World => W1; have HM := Lib.hid HM1; clear HM1; simp only [List.set] at HM) | ((first | refine stbS rfl HM.out 0 rfl rfl rfl rfl rfl rfl ?_ | refine stbS rfl HM.out 1 rfl rfl rfl rfl rfl rfl ?_ | refine stbS rfl HM.out 2 rfl rfl rfl rfl rfl rfl ?_); intro W2 HM1; clear HM; (try clear W1); rename World => W1; have HM := Lib.hid HM1; clear HM1; simp only [List.set, List.take, List.drop, List.cons_append, List.nil_append, Nat.reduceAdd, List.length_cons, List.length_nil] at HM))))
      refine ⟨⟨⟨_, HM.out.sub (by repeat (first | exact List.nil_sublist _ | with_reducible refine List.Sublist.cons_cons _ ?_ | refine List.Sublist.cons _ ?_))⟩, rfl⟩, ?_⟩
      (try dsimp only)
      (repeat (first | ((with_reducible refine wpQuiet_nil ?_); (try dsimp only)) | go_big_quiet_step (fail) | quiet_step (fail)))
      clear HS0 hNE
      go_wp2_with fail
      exact bodyPost_ret (res_box_tmp rfl HM.out 1 rfl rfl rfl rfl) rfl ⟨by rw [HR.out]; rfl, HM.out.below⟩
    · go_wp2_with (first | ((with_reducible show wpList _ _ _ (Oper.mk (some 10) (Op.alloc _) _ _ _ _ :: _) _ _); refine alb rfl HM.out ?_; intro g10 W2 HM1; clear HM; (try clear W1); rename World => W1; have HM := Lib.hid HM1; clear HM1))
      refine ⟨⟨⟨_, HM.out.sub (by repeat (first | exact List.nil_sublist _ | with_reducible refine List.Sublist.cons_cons _ ?_ | refine List.Sublist.cons _ ?_))⟩, rfl⟩, ?_⟩
      (try dsimp only)
      go_wp2_with (first | (go_at_call 84; (with_reducible refine (H2.out _).mono ?_); rintro e W2 ⟨rfl, hb⟩; have HM1 := HM.out.next hb; clear hb; clear HM; (try clear W1); rename World => W1; have HM := Lib.hid HM1; clear HM1))
      refine ⟨⟨⟨_, HM.out.sub (by repeat (first | exact List.nil_sublist _ | with_reducible refine List.Sublist.cons_cons _ ?_ | refine List.Sublist.cons _ ?_))⟩, rfl⟩, ?_⟩
      (try dsimp only)
      (repeat (first | ((with_reducible refine wpQuiet_nil ?_); (try dsimp only)) | go_big_quiet_step (fail) | quiet_step (fail)))
      go_wp2_with (first | ((with_reducible show wpList _ _ _ (Oper.mk _ (Op.store _ _ _) _ _ _ _ :: _) _ _); (first | ((first | refine stbW rfl HM.out 0 rfl rfl rfl rfl rfl rfl ?_ | refine stbW rfl HM.out 1 rfl rfl rfl rfl rfl rfl ?_ | refine stbW rfl HM.out 2 rfl rfl rfl rfl rfl rfl ?_); intro W2 HM1; clear HM; (try clear W1); rename World => W1; have HM := Lib.hid HM1; clear HM1; simp only [List.set] at HM) | ((first | refine stbS rfl HM.out 0 rfl rfl rfl rfl rfl rfl ?_ | refine stbS rfl HM.out 1 rfl rfl rfl rfl rfl rfl ?_ | refine stbS rfl HM.out 2 rfl rfl rfl rfl rfl rfl ?_); intro W2 HM1; clear HM; (try clear W1); rename World => W1; have HM := Lib.hid HM1; clear HM1; simp only [List.set, List.take, List.drop, List.cons_append, List.nil_append, Nat.reduceAdd, List.length_cons, List.length_nil] at HM))))
      refine ⟨⟨⟨_, HM.out.sub (by repeat (first | exact List.nil_sublist _ | with_reducible refine List.Sublist.cons_cons _ ?_ | refine List.Sublist.cons _ ?_))⟩, rfl⟩, ?_⟩
      (try dsimp only)
      (repeat (first | ((with_reducible refine wpQuiet_nil ?_); (try dsimp only)) | go_big_quiet_step (fail) | quiet_step (fail)))
      clear HS0 hNE
      go_wp2_with fail
      refine wp_region_steps2 [(true, 0), (true, 1), (true, 3), (false, 2), (false, 4), (true, 5), (true, 6), (false, 7), (true, 8)] (by kernel_rfl) (by kernel_rfl) rfl (by kernel_rfl) (fun _ _ _ _ _ h => h) HM.out _ (.cons_cons _ (.cons _ (.cons_cons _ .slnil))) ?_
      intro hNE W2 HM1; clear HM; (try clear W1); rename World => W1; have HM := Lib.hid HM1; clear HM1
      have HS0 := Lib.hid (HM.out.sub (.cons_cons _ (.cons _ (.cons_cons _ .slnil))))
      simp only [wpSteps, List.getElem?_cons_succ, List.getElem?_cons_zero]
      (repeat (first | ((with_reducible refine wpQuiet_nil ?_); (try dsimp only)) | ((with_reducible show wpQuiet _ _ _ _ (Oper.mk _ (Op.load _ _) _ _ _ _ :: _) _); first | (refine qdbW HS0.out 0 rfl rfl rfl ?_) | (refine qdbW HS0.out 1 rfl rfl rfl ?_) | (refine qdbS HS0.out 0 rfl rfl rfl ?_; simp only [List.take, List.drop]) | (refine qdbS HS0.out 1 rfl rfl rfl ?_; simp only [List.take, List.drop])) | ((with_reducible show wpQuiet _ _ _ _ (Oper.mk (some 103) _ _ _ _ _ :: _) _); (refine qslt (m := 1) rfl rfl rfl (by omega) ?_)) | go_big_quiet_step (fail) | quiet_step (fail)))
      go_wp2_with (first | (go_at_call 83; (with_reducible refine (H1.out _ (HM.out.sl HX.out)).mono ?_); rintro e W2 ⟨rfl, hb⟩; have HM1 := HM.out.next hb; clear hb; clear HM; (try clear W1); rename World => W1; have HM := Lib.hid HM1; clear HM1))
      refine ⟨⟨⟨_, HM.out.sub (by repeat (first | exact List.nil_sublist _ | with_reducible refine List.Sublist.cons_cons _ ?_ | refine List.Sublist.cons _ ?_))⟩, rfl⟩, ?_⟩
      (try dsimp only)
      go_wp2_with (first | (go_at_call 82; first | ((with_reducible refine (told_yes _ _ _).mono ?_); rintro e W2 ⟨rfl, hb⟩; have HM1 := HM.out.next hb; clear hb; clear HM; (try clear W1); rename World => W1; have HM := Lib.hid HM1; clear HM1) | ((with_reducible refine (told_no _ _ _).mono ?_); rintro e W2 ⟨rfl, hb⟩; have HM1 := HM.out.next hb; clear hb; clear HM; (try clear W1); rename World => W1; have HM := Lib.hid HM1; clear HM1)))
      refine ⟨⟨⟨_, HM.out.sub (by repeat (first | exact List.nil_sublist _ | with_reducible refine List.Sublist.cons_cons _ ?_ | refine List.Sublist.cons _ ?_))⟩, rfl⟩, ?_⟩
      (try dsimp only)
      (repeat (first | ((with_reducible refine wpQuiet_nil ?_); (try dsimp only)) | go_big_quiet_step (fail) | quiet_step (fail)))
      go_wp2_with (first | ((with_reducible show wpList _ _ _ (Oper.mk _ (Op.store _ _ _) _ _ _ _ :: _) _ _); (first | ((first | refine stbW rfl HM.out 0 rfl rfl rfl rfl rfl rfl ?_ | refine stbW rfl HM.out 1 rfl rfl rfl rfl rfl rfl ?_ | refine stbW rfl HM.out 2 rfl rfl rfl rfl rfl rfl ?_); intro W2 HM1; clear HM; (try clear W1); rename World => W1; have HM := Lib.hid HM1; clear HM1; simp only [List.set] at HM) | ((first | refine stbS rfl HM.out 0 rfl rfl rfl rfl rfl rfl ?_ | refine stbS rfl HM.out 1 rfl rfl rfl rfl rfl rfl ?_ | refine stbS rfl HM.out 2 rfl rfl rfl rfl rfl rfl ?_); intro W2 HM1; clear HM; (try clear W1); rename World => W1; have HM := Lib.hid HM1; clear HM1; simp only [List.set, List.take, List.drop, List.cons_append, List.nil_append, Nat.reduceAdd, List.length_cons, List.length_nil] at HM))))
      refine ⟨⟨⟨_, HM.out.sub (by repeat (first | exact List.nil_sublist _ | with_reducible refine List.Sublist.cons_cons _ ?_ | refine List.Sublist.cons _ ?_))⟩, rfl⟩, ?_⟩
      (try dsimp only)
      (repeat (first | ((with_reducible refine wpQuiet_nil ?_); (try dsimp only)) | go_big_quiet_step (fail) | quiet_step (fail)))
      clear HS0 hNE
      go_wp2_with fail
      exact bodyPost_ret (res_box_tmp rfl HM.out 1 rfl rfl rfl rfl) rfl ⟨by rw [HR.out]; rfl, HM.out.below⟩

end Go.Proofs.YtpjcjgikfplgnaaDoor
