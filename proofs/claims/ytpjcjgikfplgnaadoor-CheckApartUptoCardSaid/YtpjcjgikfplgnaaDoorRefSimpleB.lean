/- The reference's simple: the type of a node out of its parts. Printed by wip/tools/gen_simple.py. (fast) -/
import Derived.Test.YtpjcjgikfplgnaaDoorNamesA
import Derived.Test.YtpjcjgikfplgnaaDoorTypedB
namespace Go.Proofs.YtpjcjgikfplgnaaDoor
open Go.RowKit
set_option linter.unusedVariables false
set_option linter.unusedSimpArgs false
set_option maxRecDepth 100000

set_option maxHeartbeats 4000000 in
theorem simple_between (q : Option Addr) (c2 : Nat) (l : List SymD) (n : NodeD) (b : Addr) (c : Nat) (x y z : TyD) (w : World) (hop : n.op = 22) (hS : Cells w b (([x, y, z] : List TyD).flatMap TyD.cs)) (hx : x.form) (hy : y.form) (hz : z.form) :
    Calls Tryd.prog 58 #[.agg n.cs.toArray, .slice (some b) 3 c, .slice q l.length c2] w fun e w' => e = .returned (resV (toldF (ordB x.k x.o y.k y.o && ordB x.k x.o z.k z.o) ⟨1, 0⟩)) ∧ Below w.heap.size w w' := by
  have HM := Lib.hid (Mem.start w)
  obtain ⟨op, kids, text, neg, hi, lo, sc, day⟩ := n
  obtain ⟨xk, xo⟩ := x
  obtain ⟨yk, yo⟩ := y
  obtain ⟨zk, zo⟩ := z
  have T0 := Lib.hid (show Cells w (b.add (0 * 2)) [.int .i64 xk, .int .i64 xo] from hS.elem TyD.cs 2 TyD.cs_len (i := 0) rfl)
  have T1 := Lib.hid (show Cells w (b.add (1 * 2)) [.int .i64 yk, .int .i64 yo] from hS.elem TyD.cs 2 TyD.cs_len (i := 1) rfl)
  have T2 := Lib.hid (show Cells w (b.add (2 * 2)) [.int .i64 zk, .int .i64 zo] from hS.elem TyD.cs 2 TyD.cs_len (i := 2) rfl)
  obtain ⟨m1, hm1⟩ : ∃ m, ordB xk xo yk yo = m := ⟨_, rfl⟩
  obtain ⟨m2, hm2⟩ : ∃ m, ordB xk xo zk zo = m := ⟨_, rfl⟩
  have H1 := Lib.hid (fun W => hm1 ▸ rOrdered_any xk xo yk yo W hx hy)
  have H2 := Lib.hid (fun W => hm2 ▸ rOrdered_any xk xo zk zo W hx hz)
  have HR := Lib.hid (show toldF (ordB xk xo yk yo && ordB xk xo zk zo) ⟨1, 0⟩ = toldF (m1 && m2) ⟨1, 0⟩ by rw [hm1, hm2])
  clear hS hm1 hm2
  obtain rfl : op = 22 := hop
  cases m1
  all_goals
    cases m2
    all_goals
      go_enter Tryd.func58, Tryd.ntmps58
      go_wp2_with (first | ((with_reducible refine igd ?_); (with_reducible refine skip_op ?_ ?_); (exact rfl)) | ((with_reducible refine iload ?_); first | refine ldb1 HM.out 0 rfl rfl rfl ?_ | refine ldb1 HM.out 1 rfl rfl rfl ?_ | refine ldb1 HM.out 2 rfl rfl rfl ?_ | refine ldbW HM.out 0 rfl rfl rfl ?_ | refine ldbW HM.out 1 rfl rfl rfl ?_ | refine ldbW HM.out 2 rfl rfl rfl ?_ | ((first | refine ldbS HM.out 0 rfl rfl rfl ?_ | refine ldbS HM.out 1 rfl rfl rfl ?_ | refine ldbS HM.out 2 rfl rfl rfl ?_); simp only [List.take, List.drop])) | ((with_reducible refine istore ?_); (first | ((first | refine stbW rfl HM.out 0 rfl rfl rfl rfl rfl rfl ?_ | refine stbW rfl HM.out 1 rfl rfl rfl rfl rfl rfl ?_ | refine stbW rfl HM.out 2 rfl rfl rfl rfl rfl rfl ?_); intro W1 HM1; replace HM := Lib.hid HM1; clear HM1; simp only [List.set] at HM) | ((first | refine stbS rfl HM.out 0 rfl rfl rfl rfl rfl rfl ?_ | refine stbS rfl HM.out 1 rfl rfl rfl rfl rfl rfl ?_ | refine stbS rfl HM.out 2 rfl rfl rfl rfl rfl rfl ?_); intro W1 HM1; replace HM := Lib.hid HM1; clear HM1; simp only [lss, Nat.reduceAdd] at HM))) | ((with_reducible refine ibox (d := some 3) ?_); refine bxA rfl HM.out rfl ?_; intro g3 W1 HM1; replace HM := Lib.hid HM1; clear HM1) | ((with_reducible refine ialloc (d := some 6) ?_); refine alb rfl HM.out ?_; intro g6 W1 HM1; replace HM := Lib.hid HM1; clear HM1))
      refine wp_region_steps2 [(true, 0), (true, 1), (true, 2), (true, 3), (true, 4), (true, 5), (false, 6), (true, 7), (true, 8), (true, 9), (true, 10), (true, 11), (true, 12), (true, 13), (false, 14), (true, 15), (false, 16), (true, 17), (true, 18), (false, 19), (true, 20)] (by kernel_rfl) (by kernel_rfl) rfl (by kernel_rfl) (fun _ _ _ _ _ h => h) HM.out _ (.cons _ (.cons_cons _ .slnil)) ?_
      intro hNE W1 HM1; replace HM := Lib.hid HM1; clear HM1
      have HS0 := Lib.hid (HM.out.sub (.cons _ (.cons_cons _ .slnil)))
      simp only [wpSteps, List.getElem?_cons_succ, List.getElem?_cons_zero]
      (repeat (first | ((with_reducible refine wpQuiet_nil ?_); (try dsimp only)) | ((with_reducible refine qload ?_); first | (refine qdbW HS0.out 0 rfl rfl rfl ?_) | (refine qdbS HS0.out 0 rfl rfl rfl ?_; simp only [List.take, List.drop])) | ((with_reducible refine qat 113 ?_); (refine qixa (i := 0) rfl rfl rfl (by decide) ?_)) | ((with_reducible refine qat 116 ?_); (refine qixa (i := 1) rfl rfl rfl (by decide) ?_)) | ((with_reducible refine qat 114 ?_); (refine qdA (vs := [.int .i64 xk, .int .i64 xo]) rfl rfl (fun W ⟨q, hq⟩ => hq ▸ q.mem.olds T0.out) ?_)) | ((with_reducible refine qat 117 ?_); (refine qdA (vs := [.int .i64 yk, .int .i64 yo]) rfl rfl (fun W ⟨q, hq⟩ => hq ▸ q.mem.olds T1.out) ?_)) | go_big_quiet_step (fail) | quiet_step (fail)))
      go_wp2_with (first | (go_at_call 66; first | ((with_reducible refine (H1.out _).mono ?_); rintro e W1 ⟨rfl, hb⟩; replace HM := Lib.hid (HM.out.next hb); clear hb) | ((with_reducible refine (H2.out _).mono ?_); rintro e W1 ⟨rfl, hb⟩; replace HM := Lib.hid (HM.out.next hb); clear hb)))
      refine ⟨⟨⟨_, HM.out.sub (by repeat (first | exact List.nil_sublist _ | with_reducible refine List.Sublist.cons_cons _ ?_ | refine List.Sublist.cons _ ?_))⟩, rfl⟩, ?_⟩
      (try dsimp only)
      (repeat (first | ((with_reducible refine qgd ?_); (with_reducible refine skip_q ?_ ?_ ?_); (exact rfl); (rotate_left; (exact (hNE.elim fun p => ⟨p.W, p, rfl⟩)))) | ((with_reducible refine wpQuiet_nil ?_); (try dsimp only)) | ((with_reducible refine qload ?_); first | (refine qdbW HS0.out 0 rfl rfl rfl ?_) | (refine qdbS HS0.out 0 rfl rfl rfl ?_; simp only [List.take, List.drop])) | ((with_reducible refine qat 121 ?_); (refine qixa (i := 0) rfl rfl rfl (by decide) ?_)) | ((with_reducible refine qat 124 ?_); (refine qixa (i := 2) rfl rfl rfl (by decide) ?_)) | ((with_reducible refine qat 122 ?_); (refine qdA (vs := [.int .i64 xk, .int .i64 xo]) rfl rfl (fun W ⟨q, hq⟩ => hq ▸ q.mem.olds T0.out) ?_)) | ((with_reducible refine qat 125 ?_); (refine qdA (vs := [.int .i64 zk, .int .i64 zo]) rfl rfl (fun W ⟨q, hq⟩ => hq ▸ q.mem.olds T2.out) ?_)) | go_big_quiet_step (fail) | quiet_step (fail)))
      go_wp2_with (first | ((with_reducible refine igd ?_); (with_reducible refine skip_op ?_ ?_); (exact rfl)) | (go_at_call 66; first | ((with_reducible refine (H1.out _).mono ?_); rintro e W1 ⟨rfl, hb⟩; replace HM := Lib.hid (HM.out.next hb); clear hb) | ((with_reducible refine (H2.out _).mono ?_); rintro e W1 ⟨rfl, hb⟩; replace HM := Lib.hid (HM.out.next hb); clear hb)))
      refine ⟨⟨⟨_, HM.out.sub (by repeat (first | exact List.nil_sublist _ | with_reducible refine List.Sublist.cons_cons _ ?_ | refine List.Sublist.cons _ ?_))⟩, rfl⟩, ?_⟩
      (try dsimp only)
      (repeat (first | ((with_reducible refine wpQuiet_nil ?_); (try dsimp only)) | go_big_quiet_step (fail) | quiet_step (fail)))
      go_wp2_with (first | (go_at_call 57; first | ((with_reducible refine (must_yes _ _).mono ?_); rintro e W1 ⟨rfl, hb⟩; replace HM := Lib.hid (HM.out.next hb); clear hb) | ((with_reducible refine (must_no _ _).mono ?_); rintro e W1 ⟨rfl, hb⟩; replace HM := Lib.hid (HM.out.next hb); clear hb)))
      refine ⟨⟨⟨_, HM.out.sub (by repeat (first | exact List.nil_sublist _ | with_reducible refine List.Sublist.cons_cons _ ?_ | refine List.Sublist.cons _ ?_))⟩, rfl⟩, ?_⟩
      (try dsimp only)
      (repeat (first | ((with_reducible refine wpQuiet_nil ?_); (try dsimp only)) | go_big_quiet_step (fail) | quiet_step (fail)))
      go_wp2_with (first | ((with_reducible refine istore ?_); (first | ((first | refine stbW rfl HM.out 0 rfl rfl rfl rfl rfl rfl ?_ | refine stbW rfl HM.out 1 rfl rfl rfl rfl rfl rfl ?_ | refine stbW rfl HM.out 2 rfl rfl rfl rfl rfl rfl ?_); intro W1 HM1; replace HM := Lib.hid HM1; clear HM1; simp only [List.set] at HM) | ((first | refine stbS rfl HM.out 0 rfl rfl rfl rfl rfl rfl ?_ | refine stbS rfl HM.out 1 rfl rfl rfl rfl rfl rfl ?_ | refine stbS rfl HM.out 2 rfl rfl rfl rfl rfl rfl ?_); intro W1 HM1; replace HM := Lib.hid HM1; clear HM1; simp only [lss, Nat.reduceAdd] at HM))))
      refine ⟨⟨⟨_, HM.out.sub (by repeat (first | exact List.nil_sublist _ | with_reducible refine List.Sublist.cons_cons _ ?_ | refine List.Sublist.cons _ ?_))⟩, rfl⟩, ?_⟩
      (try dsimp only)
      (repeat (first | ((with_reducible refine wpQuiet_nil ?_); (try dsimp only)) | go_big_quiet_step (fail) | quiet_step (fail)))
      clear HS0 hNE
      go_wp2_with fail
      exact bodyPost_ret (res_box_tmp rfl HM.out 0 rfl rfl rfl rfl) rfl ⟨by rw [HR.out]; rfl, HM.out.below⟩

set_option maxHeartbeats 4000000 in
theorem simple_if (q : Option Addr) (c2 : Nat) (l : List SymD) (n : NodeD) (b : Addr) (c : Nat) (x y z : TyD) (w : World) (hop : n.op = 21) (hS : Cells w b (([x, y, z] : List TyD).flatMap TyD.cs)) (hx : x.form) (hy : y.form) (hz : z.form) :
    Calls Tryd.prog 58 #[.agg n.cs.toArray, .slice (some b) 3 c, .slice q l.length c2] w fun e w' => e = .returned (resV (toldF (meetB x.k x.o 1 0) ⟨(joinT y.k y.o z.k z.o).1, (joinT y.k y.o z.k z.o).2⟩)) ∧ Below w.heap.size w w' := by
  have HM := Lib.hid (Mem.start w)
  obtain ⟨op, kids, text, neg, hi, lo, sc, day⟩ := n
  obtain ⟨xk, xo⟩ := x
  obtain ⟨yk, yo⟩ := y
  obtain ⟨zk, zo⟩ := z
  have T0 := Lib.hid (show Cells w (b.add (0 * 2)) [.int .i64 xk, .int .i64 xo] from hS.elem TyD.cs 2 TyD.cs_len (i := 0) rfl)
  have T1 := Lib.hid (show Cells w (b.add (1 * 2)) [.int .i64 yk, .int .i64 yo] from hS.elem TyD.cs 2 TyD.cs_len (i := 1) rfl)
  have T2 := Lib.hid (show Cells w (b.add (2 * 2)) [.int .i64 zk, .int .i64 zo] from hS.elem TyD.cs 2 TyD.cs_len (i := 2) rfl)
  obtain ⟨⟨jk, jo⟩, hj⟩ : ∃ j, joinT yk yo zk zo = j := ⟨_, rfl⟩
  obtain ⟨m, hm⟩ : ∃ m, meetB xk xo 1 0 = m := ⟨_, rfl⟩
  have H1 := Lib.hid (fun W => hm ▸ rMeet_any xk xo 1 0 W hx (by decide))
  have H2 := Lib.hid (fun W => (show Calls Tryd.prog 71 #[.agg #[.int .i64 yk, .int .i64 yo], .agg #[.int .i64 zk, .int .i64 zo]] W fun e w' => e = .returned (.agg #[.int .i64 jk, .int .i64 jo]) ∧ Below W.heap.size W w' from by
    have h2 := rJoin_any yk yo zk zo W hy hz
    rw [hj] at h2
    exact h2))
  have HR := Lib.hid (show toldF (meetB xk xo 1 0) ⟨(joinT yk yo zk zo).1, (joinT yk yo zk zo).2⟩ = toldF m ⟨jk, jo⟩ by rw [hm, hj])
  clear hS hm hj
  obtain rfl : op = 21 := hop
  cases m
  · go_enter Tryd.func58, Tryd.ntmps58
    go_wp2_with (first | ((with_reducible refine igd ?_); (with_reducible refine skip_op ?_ ?_); (exact rfl)) | ((with_reducible refine iload ?_); first | refine ldb1 HM.out 0 rfl rfl rfl ?_ | refine ldb1 HM.out 1 rfl rfl rfl ?_ | refine ldb1 HM.out 2 rfl rfl rfl ?_ | refine ldbW HM.out 0 rfl rfl rfl ?_ | refine ldbW HM.out 1 rfl rfl rfl ?_ | refine ldbW HM.out 2 rfl rfl rfl ?_ | ((first | refine ldbS HM.out 0 rfl rfl rfl ?_ | refine ldbS HM.out 1 rfl rfl rfl ?_ | refine ldbS HM.out 2 rfl rfl rfl ?_); simp only [List.take, List.drop])) | ((with_reducible refine istore ?_); (first | ((first | refine stbW rfl HM.out 0 rfl rfl rfl rfl rfl rfl ?_ | refine stbW rfl HM.out 1 rfl rfl rfl rfl rfl rfl ?_ | refine stbW rfl HM.out 2 rfl rfl rfl rfl rfl rfl ?_); intro W1 HM1; replace HM := Lib.hid HM1; clear HM1; simp only [List.set] at HM) | ((first | refine stbS rfl HM.out 0 rfl rfl rfl rfl rfl rfl ?_ | refine stbS rfl HM.out 1 rfl rfl rfl rfl rfl rfl ?_ | refine stbS rfl HM.out 2 rfl rfl rfl rfl rfl rfl ?_); intro W1 HM1; replace HM := Lib.hid HM1; clear HM1; simp only [lss, Nat.reduceAdd] at HM))) | ((with_reducible refine ibox (d := some 3) ?_); refine bxA rfl HM.out rfl ?_; intro g3 W1 HM1; replace HM := Lib.hid HM1; clear HM1) | ((with_reducible refine ialloc (d := some 6) ?_); refine alb rfl HM.out ?_; intro g6 W1 HM1; replace HM := Lib.hid HM1; clear HM1))
    refine wp_region_steps2 [(true, 0), (true, 1), (true, 2), (false, 3), (false, 4), (true, 5)] (by kernel_rfl) (by kernel_rfl) rfl (by kernel_rfl) (fun _ _ _ _ _ h => h) HM.out _ (.cons_cons _ (.cons_cons _ .slnil)) ?_
    intro hNE W1 HM1; replace HM := Lib.hid HM1; clear HM1
    have HS0 := Lib.hid (HM.out.sub (.cons_cons _ (.cons_cons _ .slnil)))
    simp only [wpSteps, List.getElem?_cons_succ, List.getElem?_cons_zero]
    (repeat (first | ((with_reducible refine wpQuiet_nil ?_); (try dsimp only)) | ((with_reducible refine qload ?_); first | (refine qdbW HS0.out 0 rfl rfl rfl ?_) | (refine qdbW HS0.out 1 rfl rfl rfl ?_) | (refine qdbS HS0.out 0 rfl rfl rfl ?_; simp only [List.take, List.drop]) | (refine qdbS HS0.out 1 rfl rfl rfl ?_; simp only [List.take, List.drop])) | ((with_reducible refine qat 97 ?_); (refine qixa (i := 0) rfl rfl rfl (by decide) ?_)) | ((with_reducible refine qat 98 ?_); (refine qdA (vs := [.int .i64 xk, .int .i64 xo]) rfl rfl (fun W ⟨q, hq⟩ => hq ▸ q.mem.olds T0.out) ?_)) | go_big_quiet_step (fail) | quiet_step (fail)))
    go_wp2_with (first | (go_at_call 29; (with_reducible refine (rof_any _ _).mono ?_); rintro e W1 ⟨rfl, hb⟩; replace HM := Lib.hid (HM.out.next hb); clear hb))
    refine ⟨⟨⟨_, HM.out.sub (by repeat (first | exact List.nil_sublist _ | with_reducible refine List.Sublist.cons_cons _ ?_ | refine List.Sublist.cons _ ?_))⟩, rfl⟩, ?_⟩
    (try dsimp only)
    go_wp2_with (first | (go_at_call 65; (with_reducible refine (H1.out _).mono ?_); rintro e W1 ⟨rfl, hb⟩; replace HM := Lib.hid (HM.out.next hb); clear hb))
    refine ⟨⟨⟨_, HM.out.sub (by repeat (first | exact List.nil_sublist _ | with_reducible refine List.Sublist.cons_cons _ ?_ | refine List.Sublist.cons _ ?_))⟩, rfl⟩, ?_⟩
    (try dsimp only)
    (repeat (first | ((with_reducible refine wpQuiet_nil ?_); (try dsimp only)) | go_big_quiet_step (fail) | quiet_step (fail)))
    clear HS0 hNE
    go_wp2_with (first | ((with_reducible refine igd ?_); (with_reducible refine skip_op ?_ ?_); (exact rfl)) | ((with_reducible refine iload ?_); first | refine ldb1 HM.out 0 rfl rfl rfl ?_ | refine ldb1 HM.out 1 rfl rfl rfl ?_ | refine ldb1 HM.out 2 rfl rfl rfl ?_ | refine ldbW HM.out 0 rfl rfl rfl ?_ | refine ldbW HM.out 1 rfl rfl rfl ?_ | refine ldbW HM.out 2 rfl rfl rfl ?_ | ((first | refine ldbS HM.out 0 rfl rfl rfl ?_ | refine ldbS HM.out 1 rfl rfl rfl ?_ | refine ldbS HM.out 2 rfl rfl rfl ?_); simp only [List.take, List.drop])) | ((with_reducible refine istore ?_); (first | ((first | refine stbW rfl HM.out 0 rfl rfl rfl rfl rfl rfl ?_ | refine stbW rfl HM.out 1 rfl rfl rfl rfl rfl rfl ?_ | refine stbW rfl HM.out 2 rfl rfl rfl rfl rfl rfl ?_); intro W1 HM1; replace HM := Lib.hid HM1; clear HM1; simp only [List.set] at HM) | ((first | refine stbS rfl HM.out 0 rfl rfl rfl rfl rfl rfl ?_ | refine stbS rfl HM.out 1 rfl rfl rfl rfl rfl rfl ?_ | refine stbS rfl HM.out 2 rfl rfl rfl rfl rfl rfl ?_); intro W1 HM1; replace HM := Lib.hid HM1; clear HM1; simp only [lss, Nat.reduceAdd] at HM))) | ((with_reducible refine ialloc ?_); refine alb rfl HM.out ?_; intro g1 W1 HM1; replace HM := Lib.hid HM1; clear HM1) | ((with_reducible refine ibox ?_); refine bxA rfl HM.out rfl ?_; intro g1 W1 HM1; replace HM := Lib.hid HM1; clear HM1))
    exact bodyPost_ret (res_box_tmp rfl HM.out 0 rfl rfl rfl rfl) rfl ⟨by rw [HR.out]; rfl, HM.out.below⟩
  · go_enter Tryd.func58, Tryd.ntmps58
    go_wp2_with (first | ((with_reducible refine igd ?_); (with_reducible refine skip_op ?_ ?_); (exact rfl)) | ((with_reducible refine iload ?_); first | refine ldb1 HM.out 0 rfl rfl rfl ?_ | refine ldb1 HM.out 1 rfl rfl rfl ?_ | refine ldb1 HM.out 2 rfl rfl rfl ?_ | refine ldbW HM.out 0 rfl rfl rfl ?_ | refine ldbW HM.out 1 rfl rfl rfl ?_ | refine ldbW HM.out 2 rfl rfl rfl ?_ | ((first | refine ldbS HM.out 0 rfl rfl rfl ?_ | refine ldbS HM.out 1 rfl rfl rfl ?_ | refine ldbS HM.out 2 rfl rfl rfl ?_); simp only [List.take, List.drop])) | ((with_reducible refine istore ?_); (first | ((first | refine stbW rfl HM.out 0 rfl rfl rfl rfl rfl rfl ?_ | refine stbW rfl HM.out 1 rfl rfl rfl rfl rfl rfl ?_ | refine stbW rfl HM.out 2 rfl rfl rfl rfl rfl rfl ?_); intro W1 HM1; replace HM := Lib.hid HM1; clear HM1; simp only [List.set] at HM) | ((first | refine stbS rfl HM.out 0 rfl rfl rfl rfl rfl rfl ?_ | refine stbS rfl HM.out 1 rfl rfl rfl rfl rfl rfl ?_ | refine stbS rfl HM.out 2 rfl rfl rfl rfl rfl rfl ?_); intro W1 HM1; replace HM := Lib.hid HM1; clear HM1; simp only [lss, Nat.reduceAdd] at HM))) | ((with_reducible refine ibox (d := some 3) ?_); refine bxA rfl HM.out rfl ?_; intro g3 W1 HM1; replace HM := Lib.hid HM1; clear HM1) | ((with_reducible refine ialloc (d := some 6) ?_); refine alb rfl HM.out ?_; intro g6 W1 HM1; replace HM := Lib.hid HM1; clear HM1))
    refine wp_region_steps2 [(true, 0), (true, 1), (true, 2), (false, 3), (false, 4), (true, 5)] (by kernel_rfl) (by kernel_rfl) rfl (by kernel_rfl) (fun _ _ _ _ _ h => h) HM.out _ (.cons_cons _ (.cons_cons _ .slnil)) ?_
    intro hNE W1 HM1; replace HM := Lib.hid HM1; clear HM1
    have HS0 := Lib.hid (HM.out.sub (.cons_cons _ (.cons_cons _ .slnil)))
    simp only [wpSteps, List.getElem?_cons_succ, List.getElem?_cons_zero]
    (repeat (first | ((with_reducible refine wpQuiet_nil ?_); (try dsimp only)) | ((with_reducible refine qload ?_); first | (refine qdbW HS0.out 0 rfl rfl rfl ?_) | (refine qdbW HS0.out 1 rfl rfl rfl ?_) | (refine qdbS HS0.out 0 rfl rfl rfl ?_; simp only [List.take, List.drop]) | (refine qdbS HS0.out 1 rfl rfl rfl ?_; simp only [List.take, List.drop])) | ((with_reducible refine qat 97 ?_); (refine qixa (i := 0) rfl rfl rfl (by decide) ?_)) | ((with_reducible refine qat 98 ?_); (refine qdA (vs := [.int .i64 xk, .int .i64 xo]) rfl rfl (fun W ⟨q, hq⟩ => hq ▸ q.mem.olds T0.out) ?_)) | go_big_quiet_step (fail) | quiet_step (fail)))
    go_wp2_with (first | (go_at_call 29; (with_reducible refine (rof_any _ _).mono ?_); rintro e W1 ⟨rfl, hb⟩; replace HM := Lib.hid (HM.out.next hb); clear hb))
    refine ⟨⟨⟨_, HM.out.sub (by repeat (first | exact List.nil_sublist _ | with_reducible refine List.Sublist.cons_cons _ ?_ | refine List.Sublist.cons _ ?_))⟩, rfl⟩, ?_⟩
    (try dsimp only)
    go_wp2_with (first | (go_at_call 65; (with_reducible refine (H1.out _).mono ?_); rintro e W1 ⟨rfl, hb⟩; replace HM := Lib.hid (HM.out.next hb); clear hb))
    refine ⟨⟨⟨_, HM.out.sub (by repeat (first | exact List.nil_sublist _ | with_reducible refine List.Sublist.cons_cons _ ?_ | refine List.Sublist.cons _ ?_))⟩, rfl⟩, ?_⟩
    (try dsimp only)
    (repeat (first | ((with_reducible refine wpQuiet_nil ?_); (try dsimp only)) | go_big_quiet_step (fail) | quiet_step (fail)))
    clear HS0 hNE
    go_wp2_with (first | ((with_reducible refine igd ?_); (with_reducible refine skip_op ?_ ?_); (exact rfl)) | ((with_reducible refine iload ?_); first | refine ldb1 HM.out 0 rfl rfl rfl ?_ | refine ldb1 HM.out 1 rfl rfl rfl ?_ | refine ldb1 HM.out 2 rfl rfl rfl ?_ | refine ldbW HM.out 0 rfl rfl rfl ?_ | refine ldbW HM.out 1 rfl rfl rfl ?_ | refine ldbW HM.out 2 rfl rfl rfl ?_ | ((first | refine ldbS HM.out 0 rfl rfl rfl ?_ | refine ldbS HM.out 1 rfl rfl rfl ?_ | refine ldbS HM.out 2 rfl rfl rfl ?_); simp only [List.take, List.drop])) | ((with_reducible refine istore ?_); (first | ((first | refine stbW rfl HM.out 0 rfl rfl rfl rfl rfl rfl ?_ | refine stbW rfl HM.out 1 rfl rfl rfl rfl rfl rfl ?_ | refine stbW rfl HM.out 2 rfl rfl rfl rfl rfl rfl ?_); intro W1 HM1; replace HM := Lib.hid HM1; clear HM1; simp only [List.set] at HM) | ((first | refine stbS rfl HM.out 0 rfl rfl rfl rfl rfl rfl ?_ | refine stbS rfl HM.out 1 rfl rfl rfl rfl rfl rfl ?_ | refine stbS rfl HM.out 2 rfl rfl rfl rfl rfl rfl ?_); intro W1 HM1; replace HM := Lib.hid HM1; clear HM1; simp only [lss, Nat.reduceAdd] at HM))) | ((with_reducible refine ialloc ?_); refine alb rfl HM.out ?_; intro g1 W1 HM1; replace HM := Lib.hid HM1; clear HM1) | ((with_reducible refine ibox ?_); refine bxA rfl HM.out rfl ?_; intro g1 W1 HM1; replace HM := Lib.hid HM1; clear HM1))
    refine wp_region_steps2 [(true, 0), (true, 1), (true, 2), (true, 3), (true, 4), (true, 5), (false, 6), (false, 7), (true, 8)] (by kernel_rfl) (by kernel_rfl) rfl (by kernel_rfl) (fun _ _ _ _ _ h => h) HM.out _ (.cons _ (.cons_cons _ .slnil)) ?_
    intro hNE W1 HM1; replace HM := Lib.hid HM1; clear HM1
    have HS0 := Lib.hid (HM.out.sub (.cons _ (.cons_cons _ .slnil)))
    simp only [wpSteps, List.getElem?_cons_succ, List.getElem?_cons_zero]
    (repeat (first | ((with_reducible refine wpQuiet_nil ?_); (try dsimp only)) | ((with_reducible refine qload ?_); first | (refine qdbW HS0.out 0 rfl rfl rfl ?_) | (refine qdbS HS0.out 0 rfl rfl rfl ?_; simp only [List.take, List.drop])) | ((with_reducible refine qat 104 ?_); (refine qixa (i := 1) rfl rfl rfl (by decide) ?_)) | ((with_reducible refine qat 107 ?_); (refine qixa (i := 2) rfl rfl rfl (by decide) ?_)) | ((with_reducible refine qat 105 ?_); (refine qdA (vs := [.int .i64 yk, .int .i64 yo]) rfl rfl (fun W ⟨q, hq⟩ => hq ▸ q.mem.olds T1.out) ?_)) | ((with_reducible refine qat 108 ?_); (refine qdA (vs := [.int .i64 zk, .int .i64 zo]) rfl rfl (fun W ⟨q, hq⟩ => hq ▸ q.mem.olds T2.out) ?_)) | go_big_quiet_step (fail) | quiet_step (fail)))
    go_wp2_with (first | (go_at_call 71; (with_reducible refine (H2.out _).mono ?_); rintro e W1 ⟨rfl, hb⟩; replace HM := Lib.hid (HM.out.next hb); clear hb))
    refine ⟨⟨⟨_, HM.out.sub (by repeat (first | exact List.nil_sublist _ | with_reducible refine List.Sublist.cons_cons _ ?_ | refine List.Sublist.cons _ ?_))⟩, rfl⟩, ?_⟩
    (try dsimp only)
    go_wp2_with (first | ((with_reducible refine istore ?_); (first | ((first | refine stbW rfl HM.out 0 rfl rfl rfl rfl rfl rfl ?_ | refine stbW rfl HM.out 1 rfl rfl rfl rfl rfl rfl ?_ | refine stbW rfl HM.out 2 rfl rfl rfl rfl rfl rfl ?_); intro W1 HM1; replace HM := Lib.hid HM1; clear HM1; simp only [List.set] at HM) | ((first | refine stbS rfl HM.out 0 rfl rfl rfl rfl rfl rfl ?_ | refine stbS rfl HM.out 1 rfl rfl rfl rfl rfl rfl ?_ | refine stbS rfl HM.out 2 rfl rfl rfl rfl rfl rfl ?_); intro W1 HM1; replace HM := Lib.hid HM1; clear HM1; simp only [lss, Nat.reduceAdd] at HM))))
    refine ⟨⟨⟨_, HM.out.sub (by repeat (first | exact List.nil_sublist _ | with_reducible refine List.Sublist.cons_cons _ ?_ | refine List.Sublist.cons _ ?_))⟩, rfl⟩, ?_⟩
    (try dsimp only)
    (repeat (first | ((with_reducible refine wpQuiet_nil ?_); (try dsimp only)) | go_big_quiet_step (fail) | quiet_step (fail)))
    clear HS0 hNE
    go_wp2_with fail
    exact bodyPost_ret (res_box_tmp rfl HM.out 0 rfl rfl rfl rfl) rfl ⟨by rw [HR.out]; rfl, HM.out.below⟩

set_option maxHeartbeats 4000000 in
theorem simple_path0 (q : Option Addr) (c2 : Nat) (l : List SymD) (n : NodeD) (b : Addr) (c : Nat) (x : TyD) (w : World) (hop : n.op = 24) (hS : Cells w b (([x] : List TyD).flatMap TyD.cs)) (h0 : x = ⟨0, 0⟩) :
    Calls Tryd.prog 58 #[.agg n.cs.toArray, .slice (some b) 1 c, .slice q l.length c2] w fun e w' => e = .returned (resV ((⟨0, 0⟩, 0))) ∧ Below w.heap.size w w' := by
  have HM := Lib.hid (Mem.start w)
  obtain ⟨op, kids, text, neg, hi, lo, sc, day⟩ := n
  obtain ⟨xk, xo⟩ := x
  have T0 := Lib.hid (show Cells w (b.add (0 * 2)) [.int .i64 xk, .int .i64 xo] from hS.elem TyD.cs 2 TyD.cs_len (i := 0) rfl)
  have b1 : (xk == 0) = true := by cases h0; rfl
  have b2 : (xo == 0) = true := by cases h0; rfl
  clear hS h0
  obtain rfl : op = 24 := hop
  go_enter Tryd.func58, Tryd.ntmps58
  go_wp2_with (first | ((with_reducible refine igd ?_); (with_reducible refine skip_op ?_ ?_); (exact rfl)) | ((with_reducible refine iload ?_); first | refine ldb1 HM.out 0 rfl rfl rfl ?_ | refine ldb1 HM.out 1 rfl rfl rfl ?_ | refine ldb1 HM.out 2 rfl rfl rfl ?_ | refine ldbW HM.out 0 rfl rfl rfl ?_ | refine ldbW HM.out 1 rfl rfl rfl ?_ | refine ldbW HM.out 2 rfl rfl rfl ?_ | ((first | refine ldbS HM.out 0 rfl rfl rfl ?_ | refine ldbS HM.out 1 rfl rfl rfl ?_ | refine ldbS HM.out 2 rfl rfl rfl ?_); simp only [List.take, List.drop])) | ((with_reducible refine istore ?_); (first | ((first | refine stbW rfl HM.out 0 rfl rfl rfl rfl rfl rfl ?_ | refine stbW rfl HM.out 1 rfl rfl rfl rfl rfl rfl ?_ | refine stbW rfl HM.out 2 rfl rfl rfl rfl rfl rfl ?_); intro W1 HM1; replace HM := Lib.hid HM1; clear HM1; simp only [List.set] at HM) | ((first | refine stbS rfl HM.out 0 rfl rfl rfl rfl rfl rfl ?_ | refine stbS rfl HM.out 1 rfl rfl rfl rfl rfl rfl ?_ | refine stbS rfl HM.out 2 rfl rfl rfl rfl rfl rfl ?_); intro W1 HM1; replace HM := Lib.hid HM1; clear HM1; simp only [lss, Nat.reduceAdd] at HM))) | ((with_reducible refine ibox (d := some 3) ?_); refine bxA rfl HM.out rfl ?_; intro g3 W1 HM1; replace HM := Lib.hid HM1; clear HM1) | ((with_reducible refine ialloc (d := some 6) ?_); refine alb rfl HM.out ?_; intro g6 W1 HM1; replace HM := Lib.hid HM1; clear HM1))
  refine wp_region_steps2 [(true, 0), (true, 1), (true, 2), (false, 3), (true, 4), (false, 5), (true, 6), (true, 7), (false, 8), (true, 9)] (by kernel_rfl) (by kernel_rfl) rfl (by kernel_rfl) (fun _ _ _ _ _ h => h) HM.out _ (.cons _ (.cons_cons _ .slnil)) ?_
  intro hNE W1 HM1; replace HM := Lib.hid HM1; clear HM1
  have HS0 := Lib.hid (HM.out.sub (.cons _ (.cons_cons _ .slnil)))
  simp only [wpSteps, List.getElem?_cons_succ, List.getElem?_cons_zero]
  (repeat (first | ((with_reducible refine wpQuiet_nil ?_); (try dsimp only)) | ((with_reducible refine qload ?_); first | (refine qdbW HS0.out 0 rfl rfl rfl ?_) | (refine qdbS HS0.out 0 rfl rfl rfl ?_; simp only [List.take, List.drop])) | ((with_reducible refine qat 134 ?_); (refine qixa (i := 0) rfl rfl rfl (by decide) ?_)) | ((with_reducible refine qat 135 ?_); (refine qdA (vs := [.int .i64 xk, .int .i64 xo]) rfl rfl (fun W ⟨q, hq⟩ => hq ▸ q.mem.olds T0.out) ?_)) | go_big_quiet_step (fail) | quiet_step (fail)))
  go_wp2_with (first | (go_at_call 29; (with_reducible refine (rof_any _ _).mono ?_); rintro e W1 ⟨rfl, hb⟩; replace HM := Lib.hid (HM.out.next hb); clear hb))
  refine ⟨⟨⟨_, HM.out.sub (by repeat (first | exact List.nil_sublist _ | with_reducible refine List.Sublist.cons_cons _ ?_ | refine List.Sublist.cons _ ?_))⟩, rfl⟩, ?_⟩
  (try dsimp only)
  (repeat (first | ((with_reducible refine wpQuiet_nil ?_); (try dsimp only)) | go_big_quiet_step (fail) | quiet_step (fail)))
  go_wp2_with (first | (go_at_call 57; first | ((with_reducible refine (must_yes _ _).mono ?_); rintro e W1 ⟨rfl, hb⟩; replace HM := Lib.hid (HM.out.next hb); clear hb) | ((with_reducible refine (must_no _ _).mono ?_); rintro e W1 ⟨rfl, hb⟩; replace HM := Lib.hid (HM.out.next hb); clear hb)))
  refine ⟨⟨⟨_, HM.out.sub (by repeat (first | exact List.nil_sublist _ | with_reducible refine List.Sublist.cons_cons _ ?_ | refine List.Sublist.cons _ ?_))⟩, rfl⟩, ?_⟩
  (try dsimp only)
  (repeat (first | ((with_reducible refine wpQuiet_nil ?_); (try dsimp only)) | go_big_quiet_step (fail) | quiet_step (fail)))
  go_wp2_with (first | ((with_reducible refine istore ?_); (first | ((first | refine stbW rfl HM.out 0 rfl rfl rfl rfl rfl rfl ?_ | refine stbW rfl HM.out 1 rfl rfl rfl rfl rfl rfl ?_ | refine stbW rfl HM.out 2 rfl rfl rfl rfl rfl rfl ?_); intro W1 HM1; replace HM := Lib.hid HM1; clear HM1; simp only [List.set] at HM) | ((first | refine stbS rfl HM.out 0 rfl rfl rfl rfl rfl rfl ?_ | refine stbS rfl HM.out 1 rfl rfl rfl rfl rfl rfl ?_ | refine stbS rfl HM.out 2 rfl rfl rfl rfl rfl rfl ?_); intro W1 HM1; replace HM := Lib.hid HM1; clear HM1; simp only [lss, Nat.reduceAdd] at HM))))
  refine ⟨⟨⟨_, HM.out.sub (by repeat (first | exact List.nil_sublist _ | with_reducible refine List.Sublist.cons_cons _ ?_ | refine List.Sublist.cons _ ?_))⟩, rfl⟩, ?_⟩
  (try dsimp only)
  (repeat (first | ((with_reducible refine wpQuiet_nil ?_); (try dsimp only)) | go_big_quiet_step (fail) | quiet_step (fail)))
  clear HS0 hNE
  go_wp2_with fail
  exact bodyPost_ret (res_box_tmp rfl HM.out 0 rfl rfl rfl rfl) rfl ⟨rfl, HM.out.below⟩

set_option maxHeartbeats 4000000 in
theorem simple_path1 (q : Option Addr) (c2 : Nat) (l : List SymD) (n : NodeD) (b : Addr) (c : Nat) (x : TyD) (w : World) (hop : n.op = 24) (hS : Cells w b (([x] : List TyD).flatMap TyD.cs)) (h0 : x.k ≠ 0) :
    Calls Tryd.prog 58 #[.agg n.cs.toArray, .slice (some b) 1 c, .slice q l.length c2] w fun e w' => e = .returned (resV ((⟨0, 0⟩, 9))) ∧ Below w.heap.size w w' := by
  have HM := Lib.hid (Mem.start w)
  obtain ⟨op, kids, text, neg, hi, lo, sc, day⟩ := n
  obtain ⟨xk, xo⟩ := x
  have T0 := Lib.hid (show Cells w (b.add (0 * 2)) [.int .i64 xk, .int .i64 xo] from hS.elem TyD.cs 2 TyD.cs_len (i := 0) rfl)
  have b1 : (xk == 0) = false := beq_false_of_ne h0
  have b2 : (xk != 0) = true := by simpa using h0
  have b3 : ¬ xk = 0 := h0
  clear hS h0
  obtain rfl : op = 24 := hop
  go_enter Tryd.func58, Tryd.ntmps58
  go_wp2_with (first | ((with_reducible refine igd ?_); (with_reducible refine skip_op ?_ ?_); (exact rfl)) | ((with_reducible refine iload ?_); first | refine ldb1 HM.out 0 rfl rfl rfl ?_ | refine ldb1 HM.out 1 rfl rfl rfl ?_ | refine ldb1 HM.out 2 rfl rfl rfl ?_ | refine ldbW HM.out 0 rfl rfl rfl ?_ | refine ldbW HM.out 1 rfl rfl rfl ?_ | refine ldbW HM.out 2 rfl rfl rfl ?_ | ((first | refine ldbS HM.out 0 rfl rfl rfl ?_ | refine ldbS HM.out 1 rfl rfl rfl ?_ | refine ldbS HM.out 2 rfl rfl rfl ?_); simp only [List.take, List.drop])) | ((with_reducible refine istore ?_); (first | ((first | refine stbW rfl HM.out 0 rfl rfl rfl rfl rfl rfl ?_ | refine stbW rfl HM.out 1 rfl rfl rfl rfl rfl rfl ?_ | refine stbW rfl HM.out 2 rfl rfl rfl rfl rfl rfl ?_); intro W1 HM1; replace HM := Lib.hid HM1; clear HM1; simp only [List.set] at HM) | ((first | refine stbS rfl HM.out 0 rfl rfl rfl rfl rfl rfl ?_ | refine stbS rfl HM.out 1 rfl rfl rfl rfl rfl rfl ?_ | refine stbS rfl HM.out 2 rfl rfl rfl rfl rfl rfl ?_); intro W1 HM1; replace HM := Lib.hid HM1; clear HM1; simp only [lss, Nat.reduceAdd] at HM))) | ((with_reducible refine ibox (d := some 3) ?_); refine bxA rfl HM.out rfl ?_; intro g3 W1 HM1; replace HM := Lib.hid HM1; clear HM1) | ((with_reducible refine ialloc (d := some 6) ?_); refine alb rfl HM.out ?_; intro g6 W1 HM1; replace HM := Lib.hid HM1; clear HM1))
  refine wp_region_steps2 [(true, 0), (true, 1), (true, 2), (false, 3), (true, 4), (false, 5), (true, 6), (true, 7), (false, 8), (true, 9)] (by kernel_rfl) (by kernel_rfl) rfl (by kernel_rfl) (fun _ _ _ _ _ h => h) HM.out _ (.cons _ (.cons_cons _ .slnil)) ?_
  intro hNE W1 HM1; replace HM := Lib.hid HM1; clear HM1
  have HS0 := Lib.hid (HM.out.sub (.cons _ (.cons_cons _ .slnil)))
  simp only [wpSteps, List.getElem?_cons_succ, List.getElem?_cons_zero]
  (repeat (first | ((with_reducible refine wpQuiet_nil ?_); (try dsimp only)) | ((with_reducible refine qload ?_); first | (refine qdbW HS0.out 0 rfl rfl rfl ?_) | (refine qdbS HS0.out 0 rfl rfl rfl ?_; simp only [List.take, List.drop])) | ((with_reducible refine qat 134 ?_); (refine qixa (i := 0) rfl rfl rfl (by decide) ?_)) | ((with_reducible refine qat 135 ?_); (refine qdA (vs := [.int .i64 xk, .int .i64 xo]) rfl rfl (fun W ⟨q, hq⟩ => hq ▸ q.mem.olds T0.out) ?_)) | go_big_quiet_step (fail) | quiet_step (fail)))
  go_wp2_with (first | (go_at_call 29; (with_reducible refine (rof_any _ _).mono ?_); rintro e W1 ⟨rfl, hb⟩; replace HM := Lib.hid (HM.out.next hb); clear hb))
  refine ⟨⟨⟨_, HM.out.sub (by repeat (first | exact List.nil_sublist _ | with_reducible refine List.Sublist.cons_cons _ ?_ | refine List.Sublist.cons _ ?_))⟩, rfl⟩, ?_⟩
  (try dsimp only)
  (repeat (first | ((with_reducible refine wpQuiet_nil ?_); (try dsimp only)) | go_big_quiet_step (fail) | quiet_step (fail)))
  go_wp2_with (first | (go_at_call 57; first | ((with_reducible refine (must_yes _ _).mono ?_); rintro e W1 ⟨rfl, hb⟩; replace HM := Lib.hid (HM.out.next hb); clear hb) | ((with_reducible refine (must_no _ _).mono ?_); rintro e W1 ⟨rfl, hb⟩; replace HM := Lib.hid (HM.out.next hb); clear hb)))
  refine ⟨⟨⟨_, HM.out.sub (by repeat (first | exact List.nil_sublist _ | with_reducible refine List.Sublist.cons_cons _ ?_ | refine List.Sublist.cons _ ?_))⟩, rfl⟩, ?_⟩
  (try dsimp only)
  (repeat (first | ((with_reducible refine wpQuiet_nil ?_); (try dsimp only)) | go_big_quiet_step (fail) | quiet_step (fail)))
  go_wp2_with (first | ((with_reducible refine istore ?_); (first | ((first | refine stbW rfl HM.out 0 rfl rfl rfl rfl rfl rfl ?_ | refine stbW rfl HM.out 1 rfl rfl rfl rfl rfl rfl ?_ | refine stbW rfl HM.out 2 rfl rfl rfl rfl rfl rfl ?_); intro W1 HM1; replace HM := Lib.hid HM1; clear HM1; simp only [List.set] at HM) | ((first | refine stbS rfl HM.out 0 rfl rfl rfl rfl rfl rfl ?_ | refine stbS rfl HM.out 1 rfl rfl rfl rfl rfl rfl ?_ | refine stbS rfl HM.out 2 rfl rfl rfl rfl rfl rfl ?_); intro W1 HM1; replace HM := Lib.hid HM1; clear HM1; simp only [lss, Nat.reduceAdd] at HM))))
  refine ⟨⟨⟨_, HM.out.sub (by repeat (first | exact List.nil_sublist _ | with_reducible refine List.Sublist.cons_cons _ ?_ | refine List.Sublist.cons _ ?_))⟩, rfl⟩, ?_⟩
  (try dsimp only)
  (repeat (first | ((with_reducible refine wpQuiet_nil ?_); (try dsimp only)) | go_big_quiet_step (fail) | quiet_step (fail)))
  clear HS0 hNE
  go_wp2_with fail
  exact bodyPost_ret (res_box_tmp rfl HM.out 0 rfl rfl rfl rfl) rfl ⟨rfl, HM.out.below⟩

set_option maxHeartbeats 4000000 in
theorem simple_path2 (q : Option Addr) (c2 : Nat) (l : List SymD) (n : NodeD) (b : Addr) (c : Nat) (x : TyD) (w : World) (hop : n.op = 24) (hS : Cells w b (([x] : List TyD).flatMap TyD.cs)) (h1 : x.k = 0) (h0 : x.o ≠ 0) :
    Calls Tryd.prog 58 #[.agg n.cs.toArray, .slice (some b) 1 c, .slice q l.length c2] w fun e w' => e = .returned (resV ((⟨0, 0⟩, 9))) ∧ Below w.heap.size w w' := by
  have HM := Lib.hid (Mem.start w)
  obtain ⟨op, kids, text, neg, hi, lo, sc, day⟩ := n
  obtain ⟨xk, xo⟩ := x
  have T0 := Lib.hid (show Cells w (b.add (0 * 2)) [.int .i64 xk, .int .i64 xo] from hS.elem TyD.cs 2 TyD.cs_len (i := 0) rfl)
  have b1 : (xk == 0) = true := by rw [show xk = 0 from h1]; rfl
  have b2 : (xo == 0) = false := beq_false_of_ne h0
  clear hS h0 h1
  obtain rfl : op = 24 := hop
  go_enter Tryd.func58, Tryd.ntmps58
  go_wp2_with (first | ((with_reducible refine igd ?_); (with_reducible refine skip_op ?_ ?_); (exact rfl)) | ((with_reducible refine iload ?_); first | refine ldb1 HM.out 0 rfl rfl rfl ?_ | refine ldb1 HM.out 1 rfl rfl rfl ?_ | refine ldb1 HM.out 2 rfl rfl rfl ?_ | refine ldbW HM.out 0 rfl rfl rfl ?_ | refine ldbW HM.out 1 rfl rfl rfl ?_ | refine ldbW HM.out 2 rfl rfl rfl ?_ | ((first | refine ldbS HM.out 0 rfl rfl rfl ?_ | refine ldbS HM.out 1 rfl rfl rfl ?_ | refine ldbS HM.out 2 rfl rfl rfl ?_); simp only [List.take, List.drop])) | ((with_reducible refine istore ?_); (first | ((first | refine stbW rfl HM.out 0 rfl rfl rfl rfl rfl rfl ?_ | refine stbW rfl HM.out 1 rfl rfl rfl rfl rfl rfl ?_ | refine stbW rfl HM.out 2 rfl rfl rfl rfl rfl rfl ?_); intro W1 HM1; replace HM := Lib.hid HM1; clear HM1; simp only [List.set] at HM) | ((first | refine stbS rfl HM.out 0 rfl rfl rfl rfl rfl rfl ?_ | refine stbS rfl HM.out 1 rfl rfl rfl rfl rfl rfl ?_ | refine stbS rfl HM.out 2 rfl rfl rfl rfl rfl rfl ?_); intro W1 HM1; replace HM := Lib.hid HM1; clear HM1; simp only [lss, Nat.reduceAdd] at HM))) | ((with_reducible refine ibox (d := some 3) ?_); refine bxA rfl HM.out rfl ?_; intro g3 W1 HM1; replace HM := Lib.hid HM1; clear HM1) | ((with_reducible refine ialloc (d := some 6) ?_); refine alb rfl HM.out ?_; intro g6 W1 HM1; replace HM := Lib.hid HM1; clear HM1))
  refine wp_region_steps2 [(true, 0), (true, 1), (true, 2), (false, 3), (true, 4), (false, 5), (true, 6), (true, 7), (false, 8), (true, 9)] (by kernel_rfl) (by kernel_rfl) rfl (by kernel_rfl) (fun _ _ _ _ _ h => h) HM.out _ (.cons _ (.cons_cons _ .slnil)) ?_
  intro hNE W1 HM1; replace HM := Lib.hid HM1; clear HM1
  have HS0 := Lib.hid (HM.out.sub (.cons _ (.cons_cons _ .slnil)))
  simp only [wpSteps, List.getElem?_cons_succ, List.getElem?_cons_zero]
  (repeat (first | ((with_reducible refine wpQuiet_nil ?_); (try dsimp only)) | ((with_reducible refine qload ?_); first | (refine qdbW HS0.out 0 rfl rfl rfl ?_) | (refine qdbS HS0.out 0 rfl rfl rfl ?_; simp only [List.take, List.drop])) | ((with_reducible refine qat 134 ?_); (refine qixa (i := 0) rfl rfl rfl (by decide) ?_)) | ((with_reducible refine qat 135 ?_); (refine qdA (vs := [.int .i64 xk, .int .i64 xo]) rfl rfl (fun W ⟨q, hq⟩ => hq ▸ q.mem.olds T0.out) ?_)) | go_big_quiet_step (fail) | quiet_step (fail)))
  go_wp2_with (first | (go_at_call 29; (with_reducible refine (rof_any _ _).mono ?_); rintro e W1 ⟨rfl, hb⟩; replace HM := Lib.hid (HM.out.next hb); clear hb))
  refine ⟨⟨⟨_, HM.out.sub (by repeat (first | exact List.nil_sublist _ | with_reducible refine List.Sublist.cons_cons _ ?_ | refine List.Sublist.cons _ ?_))⟩, rfl⟩, ?_⟩
  (try dsimp only)
  (repeat (first | ((with_reducible refine wpQuiet_nil ?_); (try dsimp only)) | go_big_quiet_step (fail) | quiet_step (fail)))
  go_wp2_with (first | (go_at_call 57; first | ((with_reducible refine (must_yes _ _).mono ?_); rintro e W1 ⟨rfl, hb⟩; replace HM := Lib.hid (HM.out.next hb); clear hb) | ((with_reducible refine (must_no _ _).mono ?_); rintro e W1 ⟨rfl, hb⟩; replace HM := Lib.hid (HM.out.next hb); clear hb)))
  refine ⟨⟨⟨_, HM.out.sub (by repeat (first | exact List.nil_sublist _ | with_reducible refine List.Sublist.cons_cons _ ?_ | refine List.Sublist.cons _ ?_))⟩, rfl⟩, ?_⟩
  (try dsimp only)
  (repeat (first | ((with_reducible refine wpQuiet_nil ?_); (try dsimp only)) | go_big_quiet_step (fail) | quiet_step (fail)))
  go_wp2_with (first | ((with_reducible refine istore ?_); (first | ((first | refine stbW rfl HM.out 0 rfl rfl rfl rfl rfl rfl ?_ | refine stbW rfl HM.out 1 rfl rfl rfl rfl rfl rfl ?_ | refine stbW rfl HM.out 2 rfl rfl rfl rfl rfl rfl ?_); intro W1 HM1; replace HM := Lib.hid HM1; clear HM1; simp only [List.set] at HM) | ((first | refine stbS rfl HM.out 0 rfl rfl rfl rfl rfl rfl ?_ | refine stbS rfl HM.out 1 rfl rfl rfl rfl rfl rfl ?_ | refine stbS rfl HM.out 2 rfl rfl rfl rfl rfl rfl ?_); intro W1 HM1; replace HM := Lib.hid HM1; clear HM1; simp only [lss, Nat.reduceAdd] at HM))))
  refine ⟨⟨⟨_, HM.out.sub (by repeat (first | exact List.nil_sublist _ | with_reducible refine List.Sublist.cons_cons _ ?_ | refine List.Sublist.cons _ ?_))⟩, rfl⟩, ?_⟩
  (try dsimp only)
  (repeat (first | ((with_reducible refine wpQuiet_nil ?_); (try dsimp only)) | go_big_quiet_step (fail) | quiet_step (fail)))
  clear HS0 hNE
  go_wp2_with fail
  exact bodyPost_ret (res_box_tmp rfl HM.out 0 rfl rfl rfl rfl) rfl ⟨rfl, HM.out.below⟩

end Go.Proofs.YtpjcjgikfplgnaaDoor
