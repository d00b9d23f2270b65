/- typed of check: the type of a node out of its parts. Printed by wip/tools/gen_typed.py. typed of check: the type of a node out of its parts. Printed by wip/tools/gen_typed.py. typed of check at every operation; the machine's step in plain words. -/
import Derived.Test.YtpjcjgikfplgnaaDoorCheckTyped
import Derived.Test.YtpjcjgikfplgnaaDoorTypedA
import Derived.Test.YtpjcjgikfplgnaaDoorPlainA
namespace Go.Proofs.YtpjcjgikfplgnaaDoor
open Go.RowKit
set_option linter.unusedVariables false
set_option linter.unusedSimpArgs false
set_option maxRecDepth 100000



set_option maxHeartbeats 4000000 in
theorem typed_if (gc gm : Nat) (sv : Value) (l : List SymD) (n : NodeD) (b : Addr) (c : Nat) (x y z : ThT) (w : World) (hop : n.op = 21) (hS : Cells w b (([x, y, z] : List ThT).flatMap ThT.cs)) (hc : 3 ≤ c) (hx : x.t.form) (hy : y.t.form) (hz : z.t.form) :
    Calls Tryd.prog 63 #[.pointer (some ⟨gc, 0, none⟩), .agg n.cs.toArray, .slice (some b) 3 c] w fun e w' => e = .returned (resV (toldF (meetB x.t.k x.t.o 1 0) ⟨(joinT y.t.k y.t.o z.t.k z.t.o).1, (joinT y.t.k y.t.o z.t.k z.t.o).2⟩)) ∧ Below w.heap.size w w' := by
  have HM := Lib.hid (Mem.start w)
  obtain ⟨op, kids, text, neg, hi, lo, sc, day⟩ := n
  obtain ⟨⟨xk, xo⟩, xq, xn, xc⟩ := x
  obtain ⟨⟨yk, yo⟩, yq, yn, yc⟩ := y
  obtain ⟨⟨zk, zo⟩, zq, zn, zc⟩ := z
  have T0 := Lib.hid (show Cells w (b.add (0 * 3)) [.int .i64 xk, .int .i64 xo] from (hS.elem ThT.cs 3 ThT.cs_len (i := 0) rfl).take 2)
  have U0 := Lib.hid (show Cells w (b.add (0 * 3)) [.int .i64 xk, .int .i64 xo, .slice xq xn xc] from hS.elem ThT.cs 3 ThT.cs_len (i := 0) rfl)
  have T1 := Lib.hid (show Cells w (b.add (1 * 3)) [.int .i64 yk, .int .i64 yo] from (hS.elem ThT.cs 3 ThT.cs_len (i := 1) rfl).take 2)
  have U1 := Lib.hid (show Cells w (b.add (1 * 3)) [.int .i64 yk, .int .i64 yo, .slice yq yn yc] from hS.elem ThT.cs 3 ThT.cs_len (i := 1) rfl)
  have T2 := Lib.hid (show Cells w (b.add (2 * 3)) [.int .i64 zk, .int .i64 zo] from (hS.elem ThT.cs 3 ThT.cs_len (i := 2) rfl).take 2)
  have U2 := Lib.hid (show Cells w (b.add (2 * 3)) [.int .i64 zk, .int .i64 zo, .slice zq zn zc] from hS.elem ThT.cs 3 ThT.cs_len (i := 2) rfl)
  obtain ⟨⟨jk, jo⟩, hj⟩ : ∃ j, joinT yk yo zk zo = j := ⟨_, rfl⟩
  obtain ⟨m, hm⟩ : ∃ m, meetB xk xo 1 0 = m := ⟨_, rfl⟩
  have HX := Lib.hid (show Sl w (some b) (([⟨⟨xk, xo⟩, xq, xn, xc⟩] : List ThT).flatMap ThT.cs) from ⟨(fun e => by cases e), (fun a e => by cases e; exact hS.take 3)⟩)
  have H1 := Lib.hid (fun W (h : Sl W (some b) (([⟨⟨xk, xo⟩, xq, xn, xc⟩] : List ThT).flatMap ThT.cs)) => (show Calls Tryd.prog 83 #[.slice (some b) 1 c, .int .i64 1] W fun e w' => e = .returned (.bool m) ∧ Below W.heap.size W w' by
    have h2 := both_any (some b) c [⟨⟨xk, xo⟩, xq, xn, xc⟩] 1 W h (fun t ht => by rw [List.mem_singleton.1 ht]; exact hx) (by decide) (by simp)
    rw [show allB (([⟨⟨xk, xo⟩, xq, xn, xc⟩] : List ThT).map ThT.t) 1 = m by rw [← hm]; simp [allB]] at h2
    exact h2))
  have H2 := Lib.hid (fun W => hj ▸ kJoin_any yk yo zk zo W hy hz)
  have HR := Lib.hid (show toldF (meetB xk xo 1 0) ⟨(joinT yk yo zk zo).1, (joinT yk yo zk zo).2⟩ = toldF m ⟨jk, jo⟩ by rw [hm, hj])
  clear hS hm hj
  obtain rfl : op = 21 := hop
  cases m
  all_goals
    go_enter Tryd.func63, Tryd.ntmps63
    go_wp2_with (first | ((with_reducible refine igd ?_); (with_reducible refine skip_op ?_ ?_); (exact rfl)) | ((with_reducible refine iload ?_); first | refine ldb1 HM.out 0 rfl rfl rfl ?_ | refine ldb1 HM.out 1 rfl rfl rfl ?_ | refine ldb1 HM.out 2 rfl rfl rfl ?_ | refine ldbW HM.out 0 rfl rfl rfl ?_ | refine ldbW HM.out 1 rfl rfl rfl ?_ | refine ldbW HM.out 2 rfl rfl rfl ?_ | ((first | refine ldbS HM.out 0 rfl rfl rfl ?_ | refine ldbS HM.out 1 rfl rfl rfl ?_ | refine ldbS HM.out 2 rfl rfl rfl ?_); simp only [List.take, List.drop])) | ((with_reducible refine istore ?_); (first | ((first | refine stbW rfl HM.out 0 rfl rfl rfl rfl rfl rfl ?_ | refine stbW rfl HM.out 1 rfl rfl rfl rfl rfl rfl ?_ | refine stbW rfl HM.out 2 rfl rfl rfl rfl rfl rfl ?_); intro W1 HM1; replace HM := Lib.hid HM1; clear HM1; simp only [List.set] at HM) | ((first | refine stbS rfl HM.out 0 rfl rfl rfl rfl rfl rfl ?_ | refine stbS rfl HM.out 1 rfl rfl rfl rfl rfl rfl ?_ | refine stbS rfl HM.out 2 rfl rfl rfl rfl rfl rfl ?_); intro W1 HM1; replace HM := Lib.hid HM1; clear HM1; simp only [lss, Nat.reduceAdd] at HM))) | ((with_reducible refine ibox (d := some 4) ?_); refine bxA rfl HM.out rfl ?_; intro g4 W1 HM1; replace HM := Lib.hid HM1; clear HM1) | ((with_reducible refine ialloc (d := some 6) ?_); refine alb rfl HM.out ?_; intro g6 W1 HM1; replace HM := Lib.hid HM1; clear HM1) | ((with_reducible refine ialloc ?_); refine alb rfl HM.out ?_; intro g1 W1 HM1; replace HM := Lib.hid HM1; clear HM1))
    refine wp_region_fork [(true, 0), (true, 1), (true, 2), (true, 3), (true, 4), (true, 5), (true, 6), (true, 7)] [(false, 8), (true, 9), (true, 10), (true, 11), (false, 12), (false, 13), (true, 14)] [(false, 12), (false, 8), (true, 9), (true, 10), (true, 11), (false, 13), (true, 14)] (by kernel_rfl) (by kernel_rfl) rfl (by kernel_rfl) (fun _ _ _ _ _ h => h) HM.out _ (.cons_cons _ (.cons_cons _ .slnil)) ?_
    intro hNE W1 HM1; replace HM := Lib.hid HM1; clear HM1
    have HS0 := Lib.hid (HM.out.sub (.cons_cons _ (.cons_cons _ .slnil)))
    simp only [wpFork, wpSteps, List.getElem?_cons_succ, List.getElem?_cons_zero]
    (repeat (first | ((with_reducible refine wpQuiet_nil ?_); (try dsimp only)) | ((with_reducible refine qload ?_); first | (refine qdbW HS0.out 0 rfl rfl rfl ?_) | (refine qdbW HS0.out 1 rfl rfl rfl ?_) | (refine qdbS HS0.out 0 rfl rfl rfl ?_; simp only [List.take, List.drop]) | (refine qdbS HS0.out 1 rfl rfl rfl ?_; simp only [List.take, List.drop])) | ((with_reducible refine qat 92 ?_); (refine qixa (i := 1) rfl rfl rfl (by decide) ?_)) | ((with_reducible refine qat 96 ?_); (refine qixa (i := 2) rfl rfl rfl (by decide) ?_)) | ((with_reducible refine qat 94 ?_); (refine qdA (vs := [.int .i64 yk, .int .i64 yo]) rfl rfl (fun W ⟨q, hq⟩ => hq ▸ q.mem.olds T1.out) ?_)) | ((with_reducible refine qat 98 ?_); (refine qdA (vs := [.int .i64 zk, .int .i64 zo]) rfl rfl (fun W ⟨q, hq⟩ => hq ▸ q.mem.olds T2.out) ?_)) | go_big_quiet_step (fail) | quiet_step (fail)))
    refine ⟨?_, ?_⟩
    · go_wp2_with (first | (go_at_call 84; (with_reducible refine (H2.out _).mono ?_); rintro e W1 ⟨rfl, hb⟩; replace HM := Lib.hid (HM.out.next hb); clear hb))
      refine ⟨⟨⟨_, HM.out.sub (by repeat (first | exact List.nil_sublist _ | with_reducible refine List.Sublist.cons_cons _ ?_ | refine List.Sublist.cons _ ?_))⟩, rfl⟩, ?_⟩
      (try dsimp only)
      (repeat (first | ((with_reducible refine wpQuiet_nil ?_); (try dsimp only)) | go_big_quiet_step (fail) | quiet_step (fail)))
      go_wp2_with (first | ((with_reducible refine ialloc (d := some 10) ?_); refine alb rfl HM.out ?_; intro g10 W1 HM1; replace HM := Lib.hid HM1; clear HM1))
      refine ⟨⟨⟨_, HM.out.sub (by repeat (first | exact List.nil_sublist _ | with_reducible refine List.Sublist.cons_cons _ ?_ | refine List.Sublist.cons _ ?_))⟩, rfl⟩, ?_⟩
      (try dsimp only)
      go_wp2_with (first | ((with_reducible refine istore ?_); (first | ((first | refine stbW rfl HM.out 0 rfl rfl rfl rfl rfl rfl ?_ | refine stbW rfl HM.out 1 rfl rfl rfl rfl rfl rfl ?_ | refine stbW rfl HM.out 2 rfl rfl rfl rfl rfl rfl ?_); intro W1 HM1; replace HM := Lib.hid HM1; clear HM1; simp only [List.set] at HM) | ((first | refine stbS rfl HM.out 0 rfl rfl rfl rfl rfl rfl ?_ | refine stbS rfl HM.out 1 rfl rfl rfl rfl rfl rfl ?_ | refine stbS rfl HM.out 2 rfl rfl rfl rfl rfl rfl ?_); intro W1 HM1; replace HM := Lib.hid HM1; clear HM1; simp only [lss, Nat.reduceAdd] at HM))))
      refine ⟨⟨⟨_, HM.out.sub (by repeat (first | exact List.nil_sublist _ | with_reducible refine List.Sublist.cons_cons _ ?_ | refine List.Sublist.cons _ ?_))⟩, rfl⟩, ?_⟩
      (try dsimp only)
      (repeat (first | ((with_reducible refine wpQuiet_nil ?_); (try dsimp only)) | go_big_quiet_step (fail) | quiet_step (fail)))
      clear HS0 hNE
      go_wp2_with fail
      refine wp_region_steps2 [(true, 0), (true, 1), (true, 3), (false, 2), (false, 4), (true, 5), (true, 6), (false, 7), (true, 8)] (by kernel_rfl) (by kernel_rfl) rfl (by kernel_rfl) (fun _ _ _ _ _ h => h) HM.out _ (.cons_cons _ (.cons _ (.cons_cons _ .slnil))) ?_
      intro hNE W1 HM1; replace HM := Lib.hid HM1; clear HM1
      have HS0 := Lib.hid (HM.out.sub (.cons_cons _ (.cons _ (.cons_cons _ .slnil))))
      simp only [wpSteps, List.getElem?_cons_succ, List.getElem?_cons_zero]
      (repeat (first | ((with_reducible refine wpQuiet_nil ?_); (try dsimp only)) | ((with_reducible refine qload ?_); first | (refine qdbW HS0.out 0 rfl rfl rfl ?_) | (refine qdbW HS0.out 1 rfl rfl rfl ?_) | (refine qdbS HS0.out 0 rfl rfl rfl ?_; simp only [List.take, List.drop]) | (refine qdbS HS0.out 1 rfl rfl rfl ?_; simp only [List.take, List.drop])) | ((with_reducible refine qat 103 ?_); (refine qslt (m := 1) rfl rfl rfl (by omega) ?_)) | go_big_quiet_step (fail) | quiet_step (fail)))
      go_wp2_with (first | (go_at_call 83; (with_reducible refine (H1.out _ (HM.out.sl HX.out)).mono ?_); rintro e W1 ⟨rfl, hb⟩; replace HM := Lib.hid (HM.out.next hb); clear hb))
      refine ⟨⟨⟨_, HM.out.sub (by repeat (first | exact List.nil_sublist _ | with_reducible refine List.Sublist.cons_cons _ ?_ | refine List.Sublist.cons _ ?_))⟩, rfl⟩, ?_⟩
      (try dsimp only)
      go_wp2_with (first | (go_at_call 82; first | ((with_reducible refine (told_yes _ _ _).mono ?_); rintro e W1 ⟨rfl, hb⟩; replace HM := Lib.hid (HM.out.next hb); clear hb) | ((with_reducible refine (told_no _ _ _).mono ?_); rintro e W1 ⟨rfl, hb⟩; replace HM := Lib.hid (HM.out.next hb); clear hb)))
      refine ⟨⟨⟨_, HM.out.sub (by repeat (first | exact List.nil_sublist _ | with_reducible refine List.Sublist.cons_cons _ ?_ | refine List.Sublist.cons _ ?_))⟩, rfl⟩, ?_⟩
      (try dsimp only)
      (repeat (first | ((with_reducible refine wpQuiet_nil ?_); (try dsimp only)) | go_big_quiet_step (fail) | quiet_step (fail)))
      go_wp2_with (first | ((with_reducible refine istore ?_); (first | ((first | refine stbW rfl HM.out 0 rfl rfl rfl rfl rfl rfl ?_ | refine stbW rfl HM.out 1 rfl rfl rfl rfl rfl rfl ?_ | refine stbW rfl HM.out 2 rfl rfl rfl rfl rfl rfl ?_); intro W1 HM1; replace HM := Lib.hid HM1; clear HM1; simp only [List.set] at HM) | ((first | refine stbS rfl HM.out 0 rfl rfl rfl rfl rfl rfl ?_ | refine stbS rfl HM.out 1 rfl rfl rfl rfl rfl rfl ?_ | refine stbS rfl HM.out 2 rfl rfl rfl rfl rfl rfl ?_); intro W1 HM1; replace HM := Lib.hid HM1; clear HM1; simp only [lss, Nat.reduceAdd] at HM))))
      refine ⟨⟨⟨_, HM.out.sub (by repeat (first | exact List.nil_sublist _ | with_reducible refine List.Sublist.cons_cons _ ?_ | refine List.Sublist.cons _ ?_))⟩, rfl⟩, ?_⟩
      (try dsimp only)
      (repeat (first | ((with_reducible refine wpQuiet_nil ?_); (try dsimp only)) | go_big_quiet_step (fail) | quiet_step (fail)))
      clear HS0 hNE
      go_wp2_with fail
      exact bodyPost_ret (res_box_tmp rfl HM.out 1 rfl rfl rfl rfl) rfl ⟨by rw [HR.out]; rfl, HM.out.below⟩
    · go_wp2_with (first | ((with_reducible refine ialloc (d := some 10) ?_); refine alb rfl HM.out ?_; intro g10 W1 HM1; replace HM := Lib.hid HM1; clear HM1))
      refine ⟨⟨⟨_, HM.out.sub (by repeat (first | exact List.nil_sublist _ | with_reducible refine List.Sublist.cons_cons _ ?_ | refine List.Sublist.cons _ ?_))⟩, rfl⟩, ?_⟩
      (try dsimp only)
      go_wp2_with (first | (go_at_call 84; (with_reducible refine (H2.out _).mono ?_); rintro e W1 ⟨rfl, hb⟩; replace HM := Lib.hid (HM.out.next hb); clear hb))
      refine ⟨⟨⟨_, HM.out.sub (by repeat (first | exact List.nil_sublist _ | with_reducible refine List.Sublist.cons_cons _ ?_ | refine List.Sublist.cons _ ?_))⟩, rfl⟩, ?_⟩
      (try dsimp only)
      (repeat (first | ((with_reducible refine wpQuiet_nil ?_); (try dsimp only)) | go_big_quiet_step (fail) | quiet_step (fail)))
      go_wp2_with (first | ((with_reducible refine istore ?_); (first | ((first | refine stbW rfl HM.out 0 rfl rfl rfl rfl rfl rfl ?_ | refine stbW rfl HM.out 1 rfl rfl rfl rfl rfl rfl ?_ | refine stbW rfl HM.out 2 rfl rfl rfl rfl rfl rfl ?_); intro W1 HM1; replace HM := Lib.hid HM1; clear HM1; simp only [List.set] at HM) | ((first | refine stbS rfl HM.out 0 rfl rfl rfl rfl rfl rfl ?_ | refine stbS rfl HM.out 1 rfl rfl rfl rfl rfl rfl ?_ | refine stbS rfl HM.out 2 rfl rfl rfl rfl rfl rfl ?_); intro W1 HM1; replace HM := Lib.hid HM1; clear HM1; simp only [lss, Nat.reduceAdd] at HM))))
      refine ⟨⟨⟨_, HM.out.sub (by repeat (first | exact List.nil_sublist _ | with_reducible refine List.Sublist.cons_cons _ ?_ | refine List.Sublist.cons _ ?_))⟩, rfl⟩, ?_⟩
      (try dsimp only)
      (repeat (first | ((with_reducible refine wpQuiet_nil ?_); (try dsimp only)) | go_big_quiet_step (fail) | quiet_step (fail)))
      clear HS0 hNE
      go_wp2_with fail
      refine wp_region_steps2 [(true, 0), (true, 1), (true, 3), (false, 2), (false, 4), (true, 5), (true, 6), (false, 7), (true, 8)] (by kernel_rfl) (by kernel_rfl) rfl (by kernel_rfl) (fun _ _ _ _ _ h => h) HM.out _ (.cons_cons _ (.cons _ (.cons_cons _ .slnil))) ?_
      intro hNE W1 HM1; replace HM := Lib.hid HM1; clear HM1
      have HS0 := Lib.hid (HM.out.sub (.cons_cons _ (.cons _ (.cons_cons _ .slnil))))
      simp only [wpSteps, List.getElem?_cons_succ, List.getElem?_cons_zero]
      (repeat (first | ((with_reducible refine wpQuiet_nil ?_); (try dsimp only)) | ((with_reducible refine qload ?_); first | (refine qdbW HS0.out 0 rfl rfl rfl ?_) | (refine qdbW HS0.out 1 rfl rfl rfl ?_) | (refine qdbS HS0.out 0 rfl rfl rfl ?_; simp only [List.take, List.drop]) | (refine qdbS HS0.out 1 rfl rfl rfl ?_; simp only [List.take, List.drop])) | ((with_reducible refine qat 103 ?_); (refine qslt (m := 1) rfl rfl rfl (by omega) ?_)) | go_big_quiet_step (fail) | quiet_step (fail)))
      go_wp2_with (first | (go_at_call 83; (with_reducible refine (H1.out _ (HM.out.sl HX.out)).mono ?_); rintro e W1 ⟨rfl, hb⟩; replace HM := Lib.hid (HM.out.next hb); clear hb))
      refine ⟨⟨⟨_, HM.out.sub (by repeat (first | exact List.nil_sublist _ | with_reducible refine List.Sublist.cons_cons _ ?_ | refine List.Sublist.cons _ ?_))⟩, rfl⟩, ?_⟩
      (try dsimp only)
      go_wp2_with (first | (go_at_call 82; first | ((with_reducible refine (told_yes _ _ _).mono ?_); rintro e W1 ⟨rfl, hb⟩; replace HM := Lib.hid (HM.out.next hb); clear hb) | ((with_reducible refine (told_no _ _ _).mono ?_); rintro e W1 ⟨rfl, hb⟩; replace HM := Lib.hid (HM.out.next hb); clear hb)))
      refine ⟨⟨⟨_, HM.out.sub (by repeat (first | exact List.nil_sublist _ | with_reducible refine List.Sublist.cons_cons _ ?_ | refine List.Sublist.cons _ ?_))⟩, rfl⟩, ?_⟩
      (try dsimp only)
      (repeat (first | ((with_reducible refine wpQuiet_nil ?_); (try dsimp only)) | go_big_quiet_step (fail) | quiet_step (fail)))
      go_wp2_with (first | ((with_reducible refine istore ?_); (first | ((first | refine stbW rfl HM.out 0 rfl rfl rfl rfl rfl rfl ?_ | refine stbW rfl HM.out 1 rfl rfl rfl rfl rfl rfl ?_ | refine stbW rfl HM.out 2 rfl rfl rfl rfl rfl rfl ?_); intro W1 HM1; replace HM := Lib.hid HM1; clear HM1; simp only [List.set] at HM) | ((first | refine stbS rfl HM.out 0 rfl rfl rfl rfl rfl rfl ?_ | refine stbS rfl HM.out 1 rfl rfl rfl rfl rfl rfl ?_ | refine stbS rfl HM.out 2 rfl rfl rfl rfl rfl rfl ?_); intro W1 HM1; replace HM := Lib.hid HM1; clear HM1; simp only [lss, Nat.reduceAdd] at HM))))
      refine ⟨⟨⟨_, HM.out.sub (by repeat (first | exact List.nil_sublist _ | with_reducible refine List.Sublist.cons_cons _ ?_ | refine List.Sublist.cons _ ?_))⟩, rfl⟩, ?_⟩
      (try dsimp only)
      (repeat (first | ((with_reducible refine wpQuiet_nil ?_); (try dsimp only)) | go_big_quiet_step (fail) | quiet_step (fail)))
      clear HS0 hNE
      go_wp2_with fail
      exact bodyPost_ret (res_box_tmp rfl HM.out 1 rfl rfl rfl rfl) rfl ⟨by rw [HR.out]; rfl, HM.out.below⟩

end Go.Proofs.YtpjcjgikfplgnaaDoor

namespace Go.Proofs.YtpjcjgikfplgnaaDoor
open Go.RowKit
set_option linter.unusedVariables false
set_option linter.unusedSimpArgs false
set_option maxRecDepth 100000



set_option maxHeartbeats 4000000 in
theorem typed_path0 (gc gm : Nat) (sv : Value) (l : List SymD) (n : NodeD) (b : Addr) (c : Nat) (x : ThT) (w : World) (hop : n.op = 24) (hS : Cells w b (([x] : List ThT).flatMap ThT.cs)) (h0 : x.t = ⟨0, 0⟩) :
    Calls Tryd.prog 63 #[.pointer (some ⟨gc, 0, none⟩), .agg n.cs.toArray, .slice (some b) 1 c] w fun e w' => e = .returned (resV ((⟨0, 0⟩, 0))) ∧ Below w.heap.size w w' := by
  have HM := Lib.hid (Mem.start w)
  obtain ⟨op, kids, text, neg, hi, lo, sc, day⟩ := n
  obtain ⟨⟨xk, xo⟩, xq, xn, xc⟩ := x
  have T0 := Lib.hid (show Cells w (b.add (0 * 3)) [.int .i64 xk, .int .i64 xo] from (hS.elem ThT.cs 3 ThT.cs_len (i := 0) rfl).take 2)
  have U0 := Lib.hid (show Cells w (b.add (0 * 3)) [.int .i64 xk, .int .i64 xo, .slice xq xn xc] from hS.elem ThT.cs 3 ThT.cs_len (i := 0) rfl)
  have b1 : (xk == 0) = true := by cases h0; rfl
  have b2 : (xo == 0) = true := by cases h0; rfl
  clear hS h0
  obtain rfl : op = 24 := hop
  go_enter Tryd.func63, Tryd.ntmps63
  go_wp2_with (first | ((with_reducible refine igd ?_); (with_reducible refine skip_op ?_ ?_); (exact rfl)) | ((with_reducible refine iload ?_); first | refine ldb1 HM.out 0 rfl rfl rfl ?_ | refine ldb1 HM.out 1 rfl rfl rfl ?_ | refine ldb1 HM.out 2 rfl rfl rfl ?_ | refine ldbW HM.out 0 rfl rfl rfl ?_ | refine ldbW HM.out 1 rfl rfl rfl ?_ | refine ldbW HM.out 2 rfl rfl rfl ?_ | ((first | refine ldbS HM.out 0 rfl rfl rfl ?_ | refine ldbS HM.out 1 rfl rfl rfl ?_ | refine ldbS HM.out 2 rfl rfl rfl ?_); simp only [List.take, List.drop])) | ((with_reducible refine istore ?_); (first | ((first | refine stbW rfl HM.out 0 rfl rfl rfl rfl rfl rfl ?_ | refine stbW rfl HM.out 1 rfl rfl rfl rfl rfl rfl ?_ | refine stbW rfl HM.out 2 rfl rfl rfl rfl rfl rfl ?_); intro W1 HM1; replace HM := Lib.hid HM1; clear HM1; simp only [List.set] at HM) | ((first | refine stbS rfl HM.out 0 rfl rfl rfl rfl rfl rfl ?_ | refine stbS rfl HM.out 1 rfl rfl rfl rfl rfl rfl ?_ | refine stbS rfl HM.out 2 rfl rfl rfl rfl rfl rfl ?_); intro W1 HM1; replace HM := Lib.hid HM1; clear HM1; simp only [lss, Nat.reduceAdd] at HM))) | ((with_reducible refine ibox (d := some 4) ?_); refine bxA rfl HM.out rfl ?_; intro g4 W1 HM1; replace HM := Lib.hid HM1; clear HM1) | ((with_reducible refine ialloc (d := some 6) ?_); refine alb rfl HM.out ?_; intro g6 W1 HM1; replace HM := Lib.hid HM1; clear HM1) | ((with_reducible refine ialloc ?_); refine alb rfl HM.out ?_; intro g1 W1 HM1; replace HM := Lib.hid HM1; clear HM1))
  refine wp_region_steps2 [(true, 0), (true, 1), (true, 2), (true, 3), (false, 4), (true, 5), (false, 6), (false, 7), (true, 8), (true, 9), (false, 10), (true, 11)] (by kernel_rfl) (by kernel_rfl) rfl (by kernel_rfl) (fun _ _ _ _ _ h => h) HM.out _ (.cons _ (.cons_cons _ .slnil)) ?_
  intro hNE W1 HM1; replace HM := Lib.hid HM1; clear HM1
  have HS0 := Lib.hid (HM.out.sub (.cons _ (.cons_cons _ .slnil)))
  simp only [wpSteps, List.getElem?_cons_succ, List.getElem?_cons_zero]
  (repeat (first | ((with_reducible refine wpQuiet_nil ?_); (try dsimp only)) | ((with_reducible refine qload ?_); first | (refine qdbW HS0.out 0 rfl rfl rfl ?_) | (refine qdbS HS0.out 0 rfl rfl rfl ?_; simp only [List.take, List.drop])) | ((with_reducible refine qat 152 ?_); (refine qixa (i := 0) rfl rfl rfl (by decide) ?_)) | ((with_reducible refine qat 154 ?_); (refine qdA (vs := [.int .i64 xk, .int .i64 xo]) rfl rfl (fun W ⟨q, hq⟩ => hq ▸ q.mem.olds T0.out) ?_)) | go_big_quiet_step (fail) | quiet_step (fail)))
  go_wp2_with (first | (go_at_call 17; (with_reducible refine (cof_any _ _).mono ?_); rintro e W1 ⟨rfl, hb⟩; replace HM := Lib.hid (HM.out.next hb); clear hb))
  refine ⟨⟨⟨_, HM.out.sub (by repeat (first | exact List.nil_sublist _ | with_reducible refine List.Sublist.cons_cons _ ?_ | refine List.Sublist.cons _ ?_))⟩, rfl⟩, ?_⟩
  (try dsimp only)
  (repeat (first | ((with_reducible refine wpQuiet_nil ?_); (try dsimp only)) | go_big_quiet_step (fail) | quiet_step (fail)))
  go_wp2_with (first | (go_at_call 17; (with_reducible refine (cof_any _ _).mono ?_); rintro e W1 ⟨rfl, hb⟩; replace HM := Lib.hid (HM.out.next hb); clear hb))
  refine ⟨⟨⟨_, HM.out.sub (by repeat (first | exact List.nil_sublist _ | with_reducible refine List.Sublist.cons_cons _ ?_ | refine List.Sublist.cons _ ?_))⟩, rfl⟩, ?_⟩
  (try dsimp only)
  go_wp2_with (first | (go_at_call 82; first | ((with_reducible refine (told_yes _ _ _).mono ?_); rintro e W1 ⟨rfl, hb⟩; replace HM := Lib.hid (HM.out.next hb); clear hb) | ((with_reducible refine (told_no _ _ _).mono ?_); rintro e W1 ⟨rfl, hb⟩; replace HM := Lib.hid (HM.out.next hb); clear hb)))
  refine ⟨⟨⟨_, HM.out.sub (by repeat (first | exact List.nil_sublist _ | with_reducible refine List.Sublist.cons_cons _ ?_ | refine List.Sublist.cons _ ?_))⟩, rfl⟩, ?_⟩
  (try dsimp only)
  (repeat (first | ((with_reducible refine wpQuiet_nil ?_); (try dsimp only)) | go_big_quiet_step (fail) | quiet_step (fail)))
  go_wp2_with (first | ((with_reducible refine istore ?_); (first | ((first | refine stbW rfl HM.out 0 rfl rfl rfl rfl rfl rfl ?_ | refine stbW rfl HM.out 1 rfl rfl rfl rfl rfl rfl ?_ | refine stbW rfl HM.out 2 rfl rfl rfl rfl rfl rfl ?_); intro W1 HM1; replace HM := Lib.hid HM1; clear HM1; simp only [List.set] at HM) | ((first | refine stbS rfl HM.out 0 rfl rfl rfl rfl rfl rfl ?_ | refine stbS rfl HM.out 1 rfl rfl rfl rfl rfl rfl ?_ | refine stbS rfl HM.out 2 rfl rfl rfl rfl rfl rfl ?_); intro W1 HM1; replace HM := Lib.hid HM1; clear HM1; simp only [lss, Nat.reduceAdd] at HM))))
  refine ⟨⟨⟨_, HM.out.sub (by repeat (first | exact List.nil_sublist _ | with_reducible refine List.Sublist.cons_cons _ ?_ | refine List.Sublist.cons _ ?_))⟩, rfl⟩, ?_⟩
  (try dsimp only)
  (repeat (first | ((with_reducible refine wpQuiet_nil ?_); (try dsimp only)) | go_big_quiet_step (fail) | quiet_step (fail)))
  clear HS0 hNE
  go_wp2_with fail
  exact bodyPost_ret (res_box_tmp rfl HM.out 0 rfl rfl rfl rfl) rfl ⟨rfl, HM.out.below⟩

set_option maxHeartbeats 4000000 in
theorem typed_path1 (gc gm : Nat) (sv : Value) (l : List SymD) (n : NodeD) (b : Addr) (c : Nat) (x : ThT) (w : World) (hop : n.op = 24) (hS : Cells w b (([x] : List ThT).flatMap ThT.cs)) (h0 : x.t.k ≠ 0) :
    Calls Tryd.prog 63 #[.pointer (some ⟨gc, 0, none⟩), .agg n.cs.toArray, .slice (some b) 1 c] w fun e w' => e = .returned (resV ((⟨0, 0⟩, 9))) ∧ Below w.heap.size w w' := by
  have HM := Lib.hid (Mem.start w)
  obtain ⟨op, kids, text, neg, hi, lo, sc, day⟩ := n
  obtain ⟨⟨xk, xo⟩, xq, xn, xc⟩ := x
  have T0 := Lib.hid (show Cells w (b.add (0 * 3)) [.int .i64 xk, .int .i64 xo] from (hS.elem ThT.cs 3 ThT.cs_len (i := 0) rfl).take 2)
  have U0 := Lib.hid (show Cells w (b.add (0 * 3)) [.int .i64 xk, .int .i64 xo, .slice xq xn xc] from hS.elem ThT.cs 3 ThT.cs_len (i := 0) rfl)
  have b1 : (xk == 0) = false := beq_false_of_ne h0
  have b2 : (xk != 0) = true := by simpa using h0
  have b3 : ¬ xk = 0 := h0
  clear hS h0
  obtain rfl : op = 24 := hop
  go_enter Tryd.func63, Tryd.ntmps63
  go_wp2_with (first | ((with_reducible refine igd ?_); (with_reducible refine skip_op ?_ ?_); (exact rfl)) | ((with_reducible refine iload ?_); first | refine ldb1 HM.out 0 rfl rfl rfl ?_ | refine ldb1 HM.out 1 rfl rfl rfl ?_ | refine ldb1 HM.out 2 rfl rfl rfl ?_ | refine ldbW HM.out 0 rfl rfl rfl ?_ | refine ldbW HM.out 1 rfl rfl rfl ?_ | refine ldbW HM.out 2 rfl rfl rfl ?_ | ((first | refine ldbS HM.out 0 rfl rfl rfl ?_ | refine ldbS HM.out 1 rfl rfl rfl ?_ | refine ldbS HM.out 2 rfl rfl rfl ?_); simp only [List.take, List.drop])) | ((with_reducible refine istore ?_); (first | ((first | refine stbW rfl HM.out 0 rfl rfl rfl rfl rfl rfl ?_ | refine stbW rfl HM.out 1 rfl rfl rfl rfl rfl rfl ?_ | refine stbW rfl HM.out 2 rfl rfl rfl rfl rfl rfl ?_); intro W1 HM1; replace HM := Lib.hid HM1; clear HM1; simp only [List.set] at HM) | ((first | refine stbS rfl HM.out 0 rfl rfl rfl rfl rfl rfl ?_ | refine stbS rfl HM.out 1 rfl rfl rfl rfl rfl rfl ?_ | refine stbS rfl HM.out 2 rfl rfl rfl rfl rfl rfl ?_); intro W1 HM1; replace HM := Lib.hid HM1; clear HM1; simp only [lss, Nat.reduceAdd] at HM))) | ((with_reducible refine ibox (d := some 4) ?_); refine bxA rfl HM.out rfl ?_; intro g4 W1 HM1; replace HM := Lib.hid HM1; clear HM1) | ((with_reducible refine ialloc (d := some 6) ?_); refine alb rfl HM.out ?_; intro g6 W1 HM1; replace HM := Lib.hid HM1; clear HM1) | ((with_reducible refine ialloc ?_); refine alb rfl HM.out ?_; intro g1 W1 HM1; replace HM := Lib.hid HM1; clear HM1))
  refine wp_region_steps2 [(true, 0), (true, 1), (true, 2), (true, 3), (false, 4), (true, 5), (false, 6), (false, 7), (true, 8), (true, 9), (false, 10), (true, 11)] (by kernel_rfl) (by kernel_rfl) rfl (by kernel_rfl) (fun _ _ _ _ _ h => h) HM.out _ (.cons _ (.cons_cons _ .slnil)) ?_
  intro hNE W1 HM1; replace HM := Lib.hid HM1; clear HM1
  have HS0 := Lib.hid (HM.out.sub (.cons _ (.cons_cons _ .slnil)))
  simp only [wpSteps, List.getElem?_cons_succ, List.getElem?_cons_zero]
  (repeat (first | ((with_reducible refine wpQuiet_nil ?_); (try dsimp only)) | ((with_reducible refine qload ?_); first | (refine qdbW HS0.out 0 rfl rfl rfl ?_) | (refine qdbS HS0.out 0 rfl rfl rfl ?_; simp only [List.take, List.drop])) | ((with_reducible refine qat 152 ?_); (refine qixa (i := 0) rfl rfl rfl (by decide) ?_)) | ((with_reducible refine qat 154 ?_); (refine qdA (vs := [.int .i64 xk, .int .i64 xo]) rfl rfl (fun W ⟨q, hq⟩ => hq ▸ q.mem.olds T0.out) ?_)) | go_big_quiet_step (fail) | quiet_step (fail)))
  go_wp2_with (first | (go_at_call 17; (with_reducible refine (cof_any _ _).mono ?_); rintro e W1 ⟨rfl, hb⟩; replace HM := Lib.hid (HM.out.next hb); clear hb))
  refine ⟨⟨⟨_, HM.out.sub (by repeat (first | exact List.nil_sublist _ | with_reducible refine List.Sublist.cons_cons _ ?_ | refine List.Sublist.cons _ ?_))⟩, rfl⟩, ?_⟩
  (try dsimp only)
  (repeat (first | ((with_reducible refine wpQuiet_nil ?_); (try dsimp only)) | go_big_quiet_step (fail) | quiet_step (fail)))
  go_wp2_with (first | (go_at_call 17; (with_reducible refine (cof_any _ _).mono ?_); rintro e W1 ⟨rfl, hb⟩; replace HM := Lib.hid (HM.out.next hb); clear hb))
  refine ⟨⟨⟨_, HM.out.sub (by repeat (first | exact List.nil_sublist _ | with_reducible refine List.Sublist.cons_cons _ ?_ | refine List.Sublist.cons _ ?_))⟩, rfl⟩, ?_⟩
  (try dsimp only)
  go_wp2_with (first | (go_at_call 82; first | ((with_reducible refine (told_yes _ _ _).mono ?_); rintro e W1 ⟨rfl, hb⟩; replace HM := Lib.hid (HM.out.next hb); clear hb) | ((with_reducible refine (told_no _ _ _).mono ?_); rintro e W1 ⟨rfl, hb⟩; replace HM := Lib.hid (HM.out.next hb); clear hb)))
  refine ⟨⟨⟨_, HM.out.sub (by repeat (first | exact List.nil_sublist _ | with_reducible refine List.Sublist.cons_cons _ ?_ | refine List.Sublist.cons _ ?_))⟩, rfl⟩, ?_⟩
  (try dsimp only)
  (repeat (first | ((with_reducible refine wpQuiet_nil ?_); (try dsimp only)) | go_big_quiet_step (fail) | quiet_step (fail)))
  go_wp2_with (first | ((with_reducible refine istore ?_); (first | ((first | refine stbW rfl HM.out 0 rfl rfl rfl rfl rfl rfl ?_ | refine stbW rfl HM.out 1 rfl rfl rfl rfl rfl rfl ?_ | refine stbW rfl HM.out 2 rfl rfl rfl rfl rfl rfl ?_); intro W1 HM1; replace HM := Lib.hid HM1; clear HM1; simp only [List.set] at HM) | ((first | refine stbS rfl HM.out 0 rfl rfl rfl rfl rfl rfl ?_ | refine stbS rfl HM.out 1 rfl rfl rfl rfl rfl rfl ?_ | refine stbS rfl HM.out 2 rfl rfl rfl rfl rfl rfl ?_); intro W1 HM1; replace HM := Lib.hid HM1; clear HM1; simp only [lss, Nat.reduceAdd] at HM))))
  refine ⟨⟨⟨_, HM.out.sub (by repeat (first | exact List.nil_sublist _ | with_reducible refine List.Sublist.cons_cons _ ?_ | refine List.Sublist.cons _ ?_))⟩, rfl⟩, ?_⟩
  (try dsimp only)
  (repeat (first | ((with_reducible refine wpQuiet_nil ?_); (try dsimp only)) | go_big_quiet_step (fail) | quiet_step (fail)))
  clear HS0 hNE
  go_wp2_with fail
  exact bodyPost_ret (res_box_tmp rfl HM.out 0 rfl rfl rfl rfl) rfl ⟨rfl, HM.out.below⟩

set_option maxHeartbeats 4000000 in
theorem typed_path2 (gc gm : Nat) (sv : Value) (l : List SymD) (n : NodeD) (b : Addr) (c : Nat) (x : ThT) (w : World) (hop : n.op = 24) (hS : Cells w b (([x] : List ThT).flatMap ThT.cs)) (h1 : x.t.k = 0) (h0 : x.t.o ≠ 0) :
    Calls Tryd.prog 63 #[.pointer (some ⟨gc, 0, none⟩), .agg n.cs.toArray, .slice (some b) 1 c] w fun e w' => e = .returned (resV ((⟨0, 0⟩, 9))) ∧ Below w.heap.size w w' := by
  have HM := Lib.hid (Mem.start w)
  obtain ⟨op, kids, text, neg, hi, lo, sc, day⟩ := n
  obtain ⟨⟨xk, xo⟩, xq, xn, xc⟩ := x
  have T0 := Lib.hid (show Cells w (b.add (0 * 3)) [.int .i64 xk, .int .i64 xo] from (hS.elem ThT.cs 3 ThT.cs_len (i := 0) rfl).take 2)
  have U0 := Lib.hid (show Cells w (b.add (0 * 3)) [.int .i64 xk, .int .i64 xo, .slice xq xn xc] from hS.elem ThT.cs 3 ThT.cs_len (i := 0) rfl)
  have b1 : (xk == 0) = true := by rw [show xk = 0 from h1]; rfl
  have b2 : (xo == 0) = false := beq_false_of_ne h0
  clear hS h0 h1
  obtain rfl : op = 24 := hop
  go_enter Tryd.func63, Tryd.ntmps63
  go_wp2_with (first | ((with_reducible refine igd ?_); (with_reducible refine skip_op ?_ ?_); (exact rfl)) | ((with_reducible refine iload ?_); first | refine ldb1 HM.out 0 rfl rfl rfl ?_ | refine ldb1 HM.out 1 rfl rfl rfl ?_ | refine ldb1 HM.out 2 rfl rfl rfl ?_ | refine ldbW HM.out 0 rfl rfl rfl ?_ | refine ldbW HM.out 1 rfl rfl rfl ?_ | refine ldbW HM.out 2 rfl rfl rfl ?_ | ((first | refine ldbS HM.out 0 rfl rfl rfl ?_ | refine ldbS HM.out 1 rfl rfl rfl ?_ | refine ldbS HM.out 2 rfl rfl rfl ?_); simp only [List.take, List.drop])) | ((with_reducible refine istore ?_); (first | ((first | refine stbW rfl HM.out 0 rfl rfl rfl rfl rfl rfl ?_ | refine stbW rfl HM.out 1 rfl rfl rfl rfl rfl rfl ?_ | refine stbW rfl HM.out 2 rfl rfl rfl rfl rfl rfl ?_); intro W1 HM1; replace HM := Lib.hid HM1; clear HM1; simp only [List.set] at HM) | ((first | refine stbS rfl HM.out 0 rfl rfl rfl rfl rfl rfl ?_ | refine stbS rfl HM.out 1 rfl rfl rfl rfl rfl rfl ?_ | refine stbS rfl HM.out 2 rfl rfl rfl rfl rfl rfl ?_); intro W1 HM1; replace HM := Lib.hid HM1; clear HM1; simp only [lss, Nat.reduceAdd] at HM))) | ((with_reducible refine ibox (d := some 4) ?_); refine bxA rfl HM.out rfl ?_; intro g4 W1 HM1; replace HM := Lib.hid HM1; clear HM1) | ((with_reducible refine ialloc (d := some 6) ?_); refine alb rfl HM.out ?_; intro g6 W1 HM1; replace HM := Lib.hid HM1; clear HM1) | ((with_reducible refine ialloc ?_); refine alb rfl HM.out ?_; intro g1 W1 HM1; replace HM := Lib.hid HM1; clear HM1))
  refine wp_region_steps2 [(true, 0), (true, 1), (true, 2), (true, 3), (false, 4), (true, 5), (false, 6), (false, 7), (true, 8), (true, 9), (false, 10), (true, 11)] (by kernel_rfl) (by kernel_rfl) rfl (by kernel_rfl) (fun _ _ _ _ _ h => h) HM.out _ (.cons _ (.cons_cons _ .slnil)) ?_
  intro hNE W1 HM1; replace HM := Lib.hid HM1; clear HM1
  have HS0 := Lib.hid (HM.out.sub (.cons _ (.cons_cons _ .slnil)))
  simp only [wpSteps, List.getElem?_cons_succ, List.getElem?_cons_zero]
  (repeat (first | ((with_reducible refine wpQuiet_nil ?_); (try dsimp only)) | ((with_reducible refine qload ?_); first | (refine qdbW HS0.out 0 rfl rfl rfl ?_) | (refine qdbS HS0.out 0 rfl rfl rfl ?_; simp only [List.take, List.drop])) | ((with_reducible refine qat 152 ?_); (refine qixa (i := 0) rfl rfl rfl (by decide) ?_)) | ((with_reducible refine qat 154 ?_); (refine qdA (vs := [.int .i64 xk, .int .i64 xo]) rfl rfl (fun W ⟨q, hq⟩ => hq ▸ q.mem.olds T0.out) ?_)) | go_big_quiet_step (fail) | quiet_step (fail)))
  go_wp2_with (first | (go_at_call 17; (with_reducible refine (cof_any _ _).mono ?_); rintro e W1 ⟨rfl, hb⟩; replace HM := Lib.hid (HM.out.next hb); clear hb))
  refine ⟨⟨⟨_, HM.out.sub (by repeat (first | exact List.nil_sublist _ | with_reducible refine List.Sublist.cons_cons _ ?_ | refine List.Sublist.cons _ ?_))⟩, rfl⟩, ?_⟩
  (try dsimp only)
  (repeat (first | ((with_reducible refine wpQuiet_nil ?_); (try dsimp only)) | go_big_quiet_step (fail) | quiet_step (fail)))
  go_wp2_with (first | (go_at_call 17; (with_reducible refine (cof_any _ _).mono ?_); rintro e W1 ⟨rfl, hb⟩; replace HM := Lib.hid (HM.out.next hb); clear hb))
  refine ⟨⟨⟨_, HM.out.sub (by repeat (first | exact List.nil_sublist _ | with_reducible refine List.Sublist.cons_cons _ ?_ | refine List.Sublist.cons _ ?_))⟩, rfl⟩, ?_⟩
  (try dsimp only)
  go_wp2_with (first | (go_at_call 82; first | ((with_reducible refine (told_yes _ _ _).mono ?_); rintro e W1 ⟨rfl, hb⟩; replace HM := Lib.hid (HM.out.next hb); clear hb) | ((with_reducible refine (told_no _ _ _).mono ?_); rintro e W1 ⟨rfl, hb⟩; replace HM := Lib.hid (HM.out.next hb); clear hb)))
  refine ⟨⟨⟨_, HM.out.sub (by repeat (first | exact List.nil_sublist _ | with_reducible refine List.Sublist.cons_cons _ ?_ | refine List.Sublist.cons _ ?_))⟩, rfl⟩, ?_⟩
  (try dsimp only)
  (repeat (first | ((with_reducible refine wpQuiet_nil ?_); (try dsimp only)) | go_big_quiet_step (fail) | quiet_step (fail)))
  go_wp2_with (first | ((with_reducible refine istore ?_); (first | ((first | refine stbW rfl HM.out 0 rfl rfl rfl rfl rfl rfl ?_ | refine stbW rfl HM.out 1 rfl rfl rfl rfl rfl rfl ?_ | refine stbW rfl HM.out 2 rfl rfl rfl rfl rfl rfl ?_); intro W1 HM1; replace HM := Lib.hid HM1; clear HM1; simp only [List.set] at HM) | ((first | refine stbS rfl HM.out 0 rfl rfl rfl rfl rfl rfl ?_ | refine stbS rfl HM.out 1 rfl rfl rfl rfl rfl rfl ?_ | refine stbS rfl HM.out 2 rfl rfl rfl rfl rfl rfl ?_); intro W1 HM1; replace HM := Lib.hid HM1; clear HM1; simp only [lss, Nat.reduceAdd] at HM))))
  refine ⟨⟨⟨_, HM.out.sub (by repeat (first | exact List.nil_sublist _ | with_reducible refine List.Sublist.cons_cons _ ?_ | refine List.Sublist.cons _ ?_))⟩, rfl⟩, ?_⟩
  (try dsimp only)
  (repeat (first | ((with_reducible refine wpQuiet_nil ?_); (try dsimp only)) | go_big_quiet_step (fail) | quiet_step (fail)))
  clear HS0 hNE
  go_wp2_with fail
  exact bodyPost_ret (res_box_tmp rfl HM.out 0 rfl rfl rfl rfl) rfl ⟨rfl, HM.out.below⟩

end Go.Proofs.YtpjcjgikfplgnaaDoor

namespace Go.Proofs.YtpjcjgikfplgnaaDoor
open Go.RowKit
set_option linter.unusedVariables false
set_option linter.unusedSimpArgs false
set_option maxRecDepth 100000

def ThsOk (w : World) : List ThT → List ThD → Prop
  | [], [] => True
  | x :: ts, d :: ds => ThOk w x d ∧ ThsOk w ts ds
  | _, _ => False
theorem ThsOk.types {w : World} : ∀ {ts : List ThT} {ds : List ThD}, ThsOk w ts ds → ts.map ThT.t = ds.map ThD.t
  | [], [], _ => rfl
  | x :: ts, d :: ds, h => by
    obtain ⟨h1, h2⟩ := (h : ThOk w x d ∧ ThsOk w ts ds)
    rw [List.map_cons, List.map_cons, h1.1, ThsOk.types h2]
  | [], _ :: _, h => h.elim
  | _ :: _, [], h => h.elim
theorem ThsOk.len {w : World} {ts : List ThT} {ds : List ThD} (h : ThsOk w ts ds) : ts.length = ds.length := by
  have := congrArg List.length h.types
  simpa using this
def ThForm (d : ThD) : Prop := d.t.form ∧ ∀ a, a ∈ d.qs → a.t.form
theorem ThsOk.forms {w : World} {ts : List ThT} {ds : List ThD} (h : ThsOk w ts ds) (hf : ∀ d, d ∈ ds → ThForm d) : ∀ t, t ∈ ts → t.t.form := fun t ht => by
  have h1 : t.t ∈ ts.map ThT.t := List.mem_map_of_mem ht
  rw [h.types] at h1
  obtain ⟨d, hd, he⟩ := List.mem_map.1 h1
  rw [← he]
  exact (hf d hd).1

/-- The type of a node out of its parts. -/
def typedF (l : List SymD) (op : Int) (s : ByteArray) (ds : List ThD) : TyD × Int :=
  if op = 8 ∨ op = 10 ∨ op = 11 ∨ op = 12 then toldF (allB (ds.map ThD.t) 2) ⟨2, 0⟩
  else if op = 9 then addF (ds.map ThD.t)
  else if op = 13 ∨ op = 14 then (match ds with | [x, y] => toldF (meetB x.t.k x.t.o y.t.k y.t.o) ⟨1, 0⟩ | _ => (⟨0, 0⟩, 0))
  else if op = 15 ∨ op = 16 ∨ op = 17 ∨ op = 18 then (match ds with | [x, y] => toldF (ordB x.t.k x.t.o y.t.k y.t.o) ⟨1, 0⟩ | _ => (⟨0, 0⟩, 0))
  else if op = 19 ∨ op = 20 then toldF (allB (ds.map ThD.t) 1) ⟨1, 0⟩
  else if op = 21 then (match ds with | [x, y, z] => toldF (meetB x.t.k x.t.o 1 0) ⟨(joinT y.t.k y.t.o z.t.k z.t.o).1, (joinT y.t.k y.t.o z.t.k z.t.o).2⟩ | _ => (⟨0, 0⟩, 0))
  else if op = 22 then (match ds with | [x, y, z] => toldF (ordB x.t.k x.t.o y.t.k y.t.o && ordB x.t.k x.t.o z.t.k z.t.o) ⟨1, 0⟩ | _ => (⟨0, 0⟩, 0))
  else if op = 23 then (match ds with | [x, y] => toldF (asksB x.t y.qs) ⟨1, 0⟩ | _ => (⟨0, 0⟩, 0))
  else if op = 24 then (match ds with | [x] => toldF (x.t.k == 0 && x.t.o == 0) ⟨0, 0⟩ | _ => (⟨0, 0⟩, 0))
  else if op = 25 then callF (fnF s.toList) (ds.map ThD.t)
  else if op = 26 then (itemsF (ds.map ThD.t), 0)
  else leafF l op s

theorem two_of {α : Type} {l : List α} (h : l.length = 2) : ∃ x y, l = [x, y] := by
  match l, h with
  | [x, y], _ => exact ⟨x, y, rfl⟩
theorem three_of {α : Type} {l : List α} (h : l.length = 3) : ∃ x y z, l = [x, y, z] := by
  match l, h with
  | [x, y, z], _ => exact ⟨x, y, z, rfl⟩
theorem one_of {α : Type} {l : List α} (h : l.length = 1) : ∃ x, l = [x] := by
  match l, h with
  | [x], _ => exact ⟨x, rfl⟩
theorem kids_eq {op : Int} {k : Nat} {m : Int} (h : kidsB op k = true) (ha : arI op = (m, m)) (hm : 0 ≤ m) : (k : Int) = m := by
  rw [kids_int] at h
  have h1 := of_decide_eq_true h
  rw [ha] at h1
  have h2 : m ≠ -1 := by omega
  rcases h1.2.2 with h3 | h3
  · exact absurd h3 h2
  · exact Int.le_antisymm h3 h1.2.1

theorem typed_any (gc gm : Nat) (sv : Value) (l : List SymD) (n : NodeD) (p : Option Addr) (c : Nat) (ts : List ThT) (ds : List ThD) (w : World) (hC : CheckerAt w gc gm sv l) (hS : Sl w p (ts.flatMap ThT.cs)) (hD : ThsOk w ts ds) (hF : ∀ d, d ∈ ds → ThForm d) (hk : kidsB n.op ts.length = true) (hc : ts.length ≤ c) (hl : ts.length ≤ 4611686018427387904) (hq : ∀ d, d ∈ ds → d.qs.length ≤ 4611686018427387904) :
    Calls Tryd.prog 63 #[.pointer (some ⟨gc, 0, none⟩), .agg n.cs.toArray, .slice p ts.length c] w fun e w' => e = .returned (resV (typedF l n.op n.text ds)) ∧ Below w.heap.size w w' := by
  have hT := hD.types
  have hf := hD.forms hF
  have hln := hD.len
  unfold typedF
  by_cases h1 : n.op = 8 ∨ n.op = 10 ∨ n.op = 11 ∨ n.op = 12
  · rw [if_pos h1, ← hT]
    exact typed_num gc gm sv l n p c ts w h1 hS hf hl
  rw [if_neg h1]
  by_cases h2 : n.op = 9
  · rw [if_pos h2, ← hT]
    exact typed_add gc gm sv l n p c ts w h2 hS hf hl
  rw [if_neg h2]
  by_cases h3 : n.op = 13 ∨ n.op = 14
  · rw [if_pos h3]
    have hlen : ts.length = 2 := by have := kids_eq (m := 2) hk (by rcases h3 with e | e <;> rw [e] <;> rfl) (by decide); omega
    obtain ⟨x, y, rfl⟩ := two_of hlen
    obtain ⟨x', y', rfl⟩ := two_of (hln ▸ hlen)
    obtain ⟨b, rfl, hb⟩ := hS.some_at (i := 0) ThT.cs_len (by decide) (by simp)
    obtain ⟨e1, e2, -⟩ := (hD : ThOk w x x' ∧ ThOk w y y' ∧ True)
    dsimp only
    rw [← e1.1, ← e2.1]
    exact typed_eq gc gm sv l n b c x y w h3 hb (hf x (by simp)) (hf y (by simp))
  rw [if_neg h3]
  by_cases h4 : n.op = 15 ∨ n.op = 16 ∨ n.op = 17 ∨ n.op = 18
  · rw [if_pos h4]
    have hlen : ts.length = 2 := by have := kids_eq (m := 2) hk (by rcases h4 with e | e | e | e <;> rw [e] <;> rfl) (by decide); omega
    obtain ⟨x, y, rfl⟩ := two_of hlen
    obtain ⟨x', y', rfl⟩ := two_of (hln ▸ hlen)
    obtain ⟨b, rfl, hb⟩ := hS.some_at (i := 0) ThT.cs_len (by decide) (by simp)
    obtain ⟨e1, e2, -⟩ := (hD : ThOk w x x' ∧ ThOk w y y' ∧ True)
    dsimp only
    rw [← e1.1, ← e2.1]
    exact typed_lt gc gm sv l n b c x y w h4 hb (hf x (by simp)) (hf y (by simp))
  rw [if_neg h4]
  by_cases h5 : n.op = 19 ∨ n.op = 20
  · rw [if_pos h5, ← hT]
    exact typed_truth gc gm sv l n p c ts w h5 hS hf hl
  rw [if_neg h5]
  by_cases h6 : n.op = 21
  · rw [if_pos h6]
    have hlen : ts.length = 3 := by have := kids_eq (m := 3) hk (by rw [h6]; rfl) (by decide); omega
    obtain ⟨x, y, z, rfl⟩ := three_of hlen
    obtain ⟨x', y', z', rfl⟩ := three_of (hln ▸ hlen)
    obtain ⟨b, rfl, hb⟩ := hS.some_at (i := 0) ThT.cs_len (by decide) (by simp)
    obtain ⟨e1, e2, e3, -⟩ := (hD : ThOk w x x' ∧ ThOk w y y' ∧ ThOk w z z' ∧ True)
    dsimp only
    rw [← e1.1, ← e2.1, ← e3.1]
    exact typed_if gc gm sv l n b c x y z w h6 hb hc (hf x (by simp)) (hf y (by simp)) (hf z (by simp))
  rw [if_neg h6]
  by_cases h7 : n.op = 22
  · rw [if_pos h7]
    have hlen : ts.length = 3 := by have := kids_eq (m := 3) hk (by rw [h7]; rfl) (by decide); omega
    obtain ⟨x, y, z, rfl⟩ := three_of hlen
    obtain ⟨x', y', z', rfl⟩ := three_of (hln ▸ hlen)
    obtain ⟨b, rfl, hb⟩ := hS.some_at (i := 0) ThT.cs_len (by decide) (by simp)
    obtain ⟨e1, e2, e3, -⟩ := (hD : ThOk w x x' ∧ ThOk w y y' ∧ ThOk w z z' ∧ True)
    dsimp only
    rw [← e1.1, ← e2.1, ← e3.1]
    exact typed_between gc gm sv l n b c x y z w h7 hb (hf x (by simp)) (hf y (by simp)) (hf z (by simp))
  rw [if_neg h7]
  by_cases h8 : n.op = 23
  · rw [if_pos h8]
    have hlen : ts.length = 2 := by have := kids_eq (m := 2) hk (by rw [h8]; rfl) (by decide); omega
    obtain ⟨x, y, rfl⟩ := two_of hlen
    obtain ⟨x', y', rfl⟩ := two_of (hln ▸ hlen)
    obtain ⟨b, rfl, hb⟩ := hS.some_at (i := 0) ThT.cs_len (by decide) (by simp)
    obtain ⟨e1, e2, -⟩ := (hD : ThOk w x x' ∧ ThOk w y y' ∧ True)
    dsimp only
    rw [← e1.1]
    exact typed_in gc gm sv l n b c x y w h8 hb y' e2 (hF y' (by simp)).2 (hf x (by simp)) (hq y' (by simp))
  rw [if_neg h8]
  by_cases h9 : n.op = 24
  · rw [if_pos h9]
    have hlen : ts.length = 1 := by have := kids_eq (m := 1) hk (by rw [h9]; rfl) (by decide); omega
    obtain ⟨x, rfl⟩ := one_of hlen
    obtain ⟨x', rfl⟩ := one_of (hln ▸ hlen)
    obtain ⟨b, rfl, hb⟩ := hS.some_at (i := 0) ThT.cs_len (by decide) (by simp)
    obtain ⟨e1, -⟩ := (hD : ThOk w x x' ∧ True)
    show Calls _ _ _ _ fun e w' => e = .returned (resV (toldF (x'.t.k == 0 && x'.t.o == 0) ⟨0, 0⟩)) ∧ _
    rw [← e1.1]
    by_cases h0 : x.t.k = 0
    · by_cases h0' : x.t.o = 0
      · rw [show (x.t.k == 0 && x.t.o == 0) = true by rw [h0, h0']; rfl]
        refine typed_path0 gc gm sv l n b c x w h9 hb ?_
        obtain ⟨⟨xk, xo⟩, _, _, _⟩ := x
        obtain rfl : xk = 0 := h0
        obtain rfl : xo = 0 := h0'
        rfl
      · rw [show (x.t.k == 0 && x.t.o == 0) = false by rw [Bool.and_eq_false_iff]; exact Or.inr (beq_false_of_ne h0')]
        exact typed_path2 gc gm sv l n b c x w h9 hb h0 h0'
    · rw [show (x.t.k == 0 && x.t.o == 0) = false by rw [Bool.and_eq_false_iff]; exact Or.inl (beq_false_of_ne h0)]
      exact typed_path1 gc gm sv l n b c x w h9 hb h0
  rw [if_neg h9]
  by_cases h10 : n.op = 25
  · rw [if_pos h10, ← hT]
    exact typed_call gc gm sv l n p c ts w h10 hS hf hl
  rw [if_neg h10]
  by_cases h11 : n.op = 26
  · rw [if_pos h11, ← hT]
    exact typed_list gc gm sv l n p c ts w h11 hS hf hl
  rw [if_neg h11]
  exact typed_leaf gc gm sv l n p c ts.length w (by omega) hC

/-- The machine's step. -/
def partsD (n : NodeD) (ds : List ThD) : List ThD := ds.drop (ds.length - n.kids.toNat)
def stepT (l : List SymD) (ds : List ThD) (n : NodeD) : ThD × Int :=
  if n.op = 36 ∨ n.op = 37 then (⟨⟨0, 0⟩, (partsD n ds).flatMap ThD.qs⟩, 0)
  else if 30 ≤ n.op ∧ n.op ≤ 35 then (⟨⟨0, 0⟩, (partsD n ds).map fun y => ⟨n.op != 30, y.t⟩⟩, 0)
  else (⟨(typedF l n.op n.text (partsD n ds)).1, []⟩, (typedF l n.op n.text (partsD n ds)).2)
def nextT (l : List SymD) (ds : List ThD) (n : NodeD) : List ThD := ds.take (ds.length - n.kids.toNat) ++ [(stepT l ds n).1]
def runT (l : List SymD) : List NodeD → List ThD → ThD × Int
  | [], ds => (ds.headD ⟨⟨0, 0⟩, []⟩, 0)
  | n :: ns, ds => if (stepT l ds n).2 = 0 then runT l ns (nextT l ds n) else (⟨⟨0, 0⟩, []⟩, (stepT l ds n).2)
def sizeT (ds : List ThD) : Nat := (ds.map fun d => d.qs.length + 1).sum
end Go.Proofs.YtpjcjgikfplgnaaDoor
