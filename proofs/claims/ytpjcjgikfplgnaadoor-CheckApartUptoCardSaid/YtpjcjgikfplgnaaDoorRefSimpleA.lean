/- The reference's simple: the type of a node out of its parts. Printed by wip/tools/gen_simple.py. (fast) -/
import Derived.Test.YtpjcjgikfplgnaaDoorNamesA
import Derived.Test.YtpjcjgikfplgnaaDoorTypedB
namespace Go.Proofs.YtpjcjgikfplgnaaDoor
open Go.RowKit
set_option linter.unusedVariables false
set_option linter.unusedSimpArgs false
set_option maxRecDepth 100000

set_option maxHeartbeats 4000000 in
theorem simple_num (q : Option Addr) (c2 : Nat) (l : List SymD) (n : NodeD) (p : Option Addr) (c : Nat) (ts : List TyD) (w : World) (hop : n.op = 8 ∨ n.op = 10 ∨ n.op = 11 ∨ n.op = 12) (hS : Sl w p (ts.flatMap TyD.cs)) (hf : ∀ t, t ∈ ts → t.form) (hl : ts.length ≤ 4611686018427387904) :
    Calls Tryd.prog 58 #[.agg n.cs.toArray, .slice p ts.length c, .slice q l.length c2] w fun e w' => e = .returned (resV (toldF (allB ts 2) ⟨2, 0⟩)) ∧ Below w.heap.size w w' := by
  have HM := Lib.hid (Mem.start w)
  obtain ⟨op, kids, text, neg, hi, lo, sc, day⟩ := n
  have HS := Lib.hid hS
  obtain ⟨m, hm⟩ : ∃ m, allB ts 2 = m := ⟨_, rfl⟩
  have HB := Lib.hid (fun W (h : Sl W p (ts.flatMap TyD.cs)) => hm ▸ all_any p c ts 2 W h hf (by decide) hl)
  rw [hm]
  clear hm hS hf
  rcases hop with rfl | rfl | rfl | rfl
  all_goals
    cases m
    all_goals
      go_enter Tryd.func58, Tryd.ntmps58
      go_wp2_with (first | (go_at_call 70; (with_reducible refine (HB.out _ (HM.out.sl HS.out)).mono ?_); rintro e W1 ⟨rfl, hb⟩; replace HM := Lib.hid (HM.out.next hb); clear hb) | (go_at_call 29; (with_reducible refine (rof_any _ _).mono ?_); rintro e W1 ⟨rfl, hb⟩; replace HM := Lib.hid (HM.out.next hb); clear hb) | (go_at_call 57; first | ((with_reducible refine (must_yes _ _).mono ?_); rintro e W1 ⟨rfl, hb⟩; replace HM := Lib.hid (HM.out.next hb); clear hb) | ((with_reducible refine (must_no _ _).mono ?_); rintro e W1 ⟨rfl, hb⟩; replace HM := Lib.hid (HM.out.next hb); clear hb)) | ((with_reducible refine igd ?_); (with_reducible refine skip_op ?_ ?_); (exact rfl)) | ((with_reducible refine iload ?_); first | refine ldb1 HM.out 0 rfl rfl rfl ?_ | refine ldb1 HM.out 1 rfl rfl rfl ?_ | refine ldb1 HM.out 2 rfl rfl rfl ?_ | refine ldbW HM.out 0 rfl rfl rfl ?_ | refine ldbW HM.out 1 rfl rfl rfl ?_ | refine ldbW HM.out 2 rfl rfl rfl ?_ | ((first | refine ldbS HM.out 0 rfl rfl rfl ?_ | refine ldbS HM.out 1 rfl rfl rfl ?_ | refine ldbS HM.out 2 rfl rfl rfl ?_); simp only [List.take, List.drop])) | ((with_reducible refine istore ?_); (first | ((first | refine stbW rfl HM.out 0 rfl rfl rfl rfl rfl rfl ?_ | refine stbW rfl HM.out 1 rfl rfl rfl rfl rfl rfl ?_ | refine stbW rfl HM.out 2 rfl rfl rfl rfl rfl rfl ?_); intro W1 HM1; replace HM := Lib.hid HM1; clear HM1; simp only [List.set] at HM) | ((first | refine stbS rfl HM.out 0 rfl rfl rfl rfl rfl rfl ?_ | refine stbS rfl HM.out 1 rfl rfl rfl rfl rfl rfl ?_ | refine stbS rfl HM.out 2 rfl rfl rfl rfl rfl rfl ?_); intro W1 HM1; replace HM := Lib.hid HM1; clear HM1; simp only [lss, Nat.reduceAdd] at HM))) | ((with_reducible refine ibox (d := some 3) ?_); refine bxA rfl HM.out rfl ?_; intro g3 W1 HM1; replace HM := Lib.hid HM1; clear HM1) | ((with_reducible refine ialloc (d := some 6) ?_); refine alb rfl HM.out ?_; intro g6 W1 HM1; replace HM := Lib.hid HM1; clear HM1))
      exact bodyPost_ret (res_box_tmp rfl HM.out 0 rfl rfl rfl rfl) rfl ⟨rfl, HM.out.below⟩

set_option maxHeartbeats 4000000 in
theorem simple_truth (q : Option Addr) (c2 : Nat) (l : List SymD) (n : NodeD) (p : Option Addr) (c : Nat) (ts : List TyD) (w : World) (hop : n.op = 19 ∨ n.op = 20) (hS : Sl w p (ts.flatMap TyD.cs)) (hf : ∀ t, t ∈ ts → t.form) (hl : ts.length ≤ 4611686018427387904) :
    Calls Tryd.prog 58 #[.agg n.cs.toArray, .slice p ts.length c, .slice q l.length c2] w fun e w' => e = .returned (resV (toldF (allB ts 1) ⟨1, 0⟩)) ∧ Below w.heap.size w w' := by
  have HM := Lib.hid (Mem.start w)
  obtain ⟨op, kids, text, neg, hi, lo, sc, day⟩ := n
  have HS := Lib.hid hS
  obtain ⟨m, hm⟩ : ∃ m, allB ts 1 = m := ⟨_, rfl⟩
  have HB := Lib.hid (fun W (h : Sl W p (ts.flatMap TyD.cs)) => hm ▸ all_any p c ts 1 W h hf (by decide) hl)
  rw [hm]
  clear hm hS hf
  rcases hop with rfl | rfl
  all_goals
    cases m
    all_goals
      go_enter Tryd.func58, Tryd.ntmps58
      go_wp2_with (first | (go_at_call 70; (with_reducible refine (HB.out _ (HM.out.sl HS.out)).mono ?_); rintro e W1 ⟨rfl, hb⟩; replace HM := Lib.hid (HM.out.next hb); clear hb) | (go_at_call 29; (with_reducible refine (rof_any _ _).mono ?_); rintro e W1 ⟨rfl, hb⟩; replace HM := Lib.hid (HM.out.next hb); clear hb) | (go_at_call 57; first | ((with_reducible refine (must_yes _ _).mono ?_); rintro e W1 ⟨rfl, hb⟩; replace HM := Lib.hid (HM.out.next hb); clear hb) | ((with_reducible refine (must_no _ _).mono ?_); rintro e W1 ⟨rfl, hb⟩; replace HM := Lib.hid (HM.out.next hb); clear hb)) | ((with_reducible refine igd ?_); (with_reducible refine skip_op ?_ ?_); (exact rfl)) | ((with_reducible refine iload ?_); first | refine ldb1 HM.out 0 rfl rfl rfl ?_ | refine ldb1 HM.out 1 rfl rfl rfl ?_ | refine ldb1 HM.out 2 rfl rfl rfl ?_ | refine ldbW HM.out 0 rfl rfl rfl ?_ | refine ldbW HM.out 1 rfl rfl rfl ?_ | refine ldbW HM.out 2 rfl rfl rfl ?_ | ((first | refine ldbS HM.out 0 rfl rfl rfl ?_ | refine ldbS HM.out 1 rfl rfl rfl ?_ | refine ldbS HM.out 2 rfl rfl rfl ?_); simp only [List.take, List.drop])) | ((with_reducible refine istore ?_); (first | ((first | refine stbW rfl HM.out 0 rfl rfl rfl rfl rfl rfl ?_ | refine stbW rfl HM.out 1 rfl rfl rfl rfl rfl rfl ?_ | refine stbW rfl HM.out 2 rfl rfl rfl rfl rfl rfl ?_); intro W1 HM1; replace HM := Lib.hid HM1; clear HM1; simp only [List.set] at HM) | ((first | refine stbS rfl HM.out 0 rfl rfl rfl rfl rfl rfl ?_ | refine stbS rfl HM.out 1 rfl rfl rfl rfl rfl rfl ?_ | refine stbS rfl HM.out 2 rfl rfl rfl rfl rfl rfl ?_); intro W1 HM1; replace HM := Lib.hid HM1; clear HM1; simp only [lss, Nat.reduceAdd] at HM))) | ((with_reducible refine ibox (d := some 3) ?_); refine bxA rfl HM.out rfl ?_; intro g3 W1 HM1; replace HM := Lib.hid HM1; clear HM1) | ((with_reducible refine ialloc (d := some 6) ?_); refine alb rfl HM.out ?_; intro g6 W1 HM1; replace HM := Lib.hid HM1; clear HM1))
      exact bodyPost_ret (res_box_tmp rfl HM.out 0 rfl rfl rfl rfl) rfl ⟨rfl, HM.out.below⟩

set_option maxHeartbeats 4000000 in
theorem simple_add (q : Option Addr) (c2 : Nat) (l : List SymD) (n : NodeD) (p : Option Addr) (c : Nat) (ts : List TyD) (w : World) (hop : n.op = 9) (hS : Sl w p (ts.flatMap TyD.cs)) (hf : ∀ t, t ∈ ts → t.form) (hl : ts.length ≤ 4611686018427387904) :
    Calls Tryd.prog 58 #[.agg n.cs.toArray, .slice p ts.length c, .slice q l.length c2] w fun e w' => e = .returned (resV (addF ts)) ∧ Below w.heap.size w w' := by
  have HM := Lib.hid (Mem.start w)
  obtain ⟨op, kids, text, neg, hi, lo, sc, day⟩ := n
  have HS := Lib.hid hS
  obtain ⟨m, hm⟩ : ∃ m, allB ts 2 = m := ⟨_, rfl⟩
  obtain ⟨m2, hm2⟩ : ∃ m, allB ts 3 = m := ⟨_, rfl⟩
  have HB := Lib.hid (fun W (h : Sl W p (ts.flatMap TyD.cs)) => hm ▸ all_any p c ts 2 W h hf (by decide) hl)
  have HB2 := Lib.hid (fun W (h : Sl W p (ts.flatMap TyD.cs)) => hm2 ▸ all_any p c ts 3 W h hf (by decide) hl)
  have HR := Lib.hid (show addF ts = if m && m2 then (⟨0, 0⟩, 0) else if m2 then (⟨3, 0⟩, 0) else toldF m ⟨2, 0⟩ by unfold addF; rw [hm, hm2])
  clear hm hm2 hS hf
  obtain rfl : op = 9 := hop
  cases m
  all_goals
    cases m2
    all_goals
      go_enter Tryd.func58, Tryd.ntmps58
      go_wp2_with (first | (go_at_call 70; first | ((with_reducible refine (HB.out _ (HM.out.sl HS.out)).mono ?_); rintro e W1 ⟨rfl, hb⟩; replace HM := Lib.hid (HM.out.next hb); clear hb) | ((with_reducible refine (HB2.out _ (HM.out.sl HS.out)).mono ?_); rintro e W1 ⟨rfl, hb⟩; replace HM := Lib.hid (HM.out.next hb); clear hb)) | (go_at_call 29; (with_reducible refine (rof_any _ _).mono ?_); rintro e W1 ⟨rfl, hb⟩; replace HM := Lib.hid (HM.out.next hb); clear hb) | (go_at_call 57; first | ((with_reducible refine (must_yes _ _).mono ?_); rintro e W1 ⟨rfl, hb⟩; replace HM := Lib.hid (HM.out.next hb); clear hb) | ((with_reducible refine (must_no _ _).mono ?_); rintro e W1 ⟨rfl, hb⟩; replace HM := Lib.hid (HM.out.next hb); clear hb)) | ((with_reducible refine igd ?_); (with_reducible refine skip_op ?_ ?_); (exact rfl)) | ((with_reducible refine iload ?_); first | refine ldb1 HM.out 0 rfl rfl rfl ?_ | refine ldb1 HM.out 1 rfl rfl rfl ?_ | refine ldb1 HM.out 2 rfl rfl rfl ?_ | refine ldbW HM.out 0 rfl rfl rfl ?_ | refine ldbW HM.out 1 rfl rfl rfl ?_ | refine ldbW HM.out 2 rfl rfl rfl ?_ | ((first | refine ldbS HM.out 0 rfl rfl rfl ?_ | refine ldbS HM.out 1 rfl rfl rfl ?_ | refine ldbS HM.out 2 rfl rfl rfl ?_); simp only [List.take, List.drop])) | ((with_reducible refine istore ?_); (first | ((first | refine stbW rfl HM.out 0 rfl rfl rfl rfl rfl rfl ?_ | refine stbW rfl HM.out 1 rfl rfl rfl rfl rfl rfl ?_ | refine stbW rfl HM.out 2 rfl rfl rfl rfl rfl rfl ?_); intro W1 HM1; replace HM := Lib.hid HM1; clear HM1; simp only [List.set] at HM) | ((first | refine stbS rfl HM.out 0 rfl rfl rfl rfl rfl rfl ?_ | refine stbS rfl HM.out 1 rfl rfl rfl rfl rfl rfl ?_ | refine stbS rfl HM.out 2 rfl rfl rfl rfl rfl rfl ?_); intro W1 HM1; replace HM := Lib.hid HM1; clear HM1; simp only [lss, Nat.reduceAdd] at HM))) | ((with_reducible refine ibox (d := some 3) ?_); refine bxA rfl HM.out rfl ?_; intro g3 W1 HM1; replace HM := Lib.hid HM1; clear HM1) | ((with_reducible refine ialloc (d := some 6) ?_); refine alb rfl HM.out ?_; intro g6 W1 HM1; replace HM := Lib.hid HM1; clear HM1))
      exact bodyPost_ret (res_box_tmp rfl HM.out 0 rfl rfl rfl rfl) rfl ⟨by rw [HR.out]; rfl, HM.out.below⟩

set_option maxHeartbeats 4000000 in
theorem simple_eq (q : Option Addr) (c2 : Nat) (l : List SymD) (n : NodeD) (b : Addr) (c : Nat) (x y : TyD) (w : World) (hop : n.op = 13 ∨ n.op = 14) (hS : Cells w b (([x, y] : List TyD).flatMap TyD.cs)) (hx : x.form) (hy : y.form) :
    Calls Tryd.prog 58 #[.agg n.cs.toArray, .slice (some b) 2 c, .slice q l.length c2] w fun e w' => e = .returned (resV (toldF (meetB x.k x.o y.k y.o) ⟨1, 0⟩)) ∧ Below w.heap.size w w' := by
  have HM := Lib.hid (Mem.start w)
  obtain ⟨op, kids, text, neg, hi, lo, sc, day⟩ := n
  obtain ⟨xk, xo⟩ := x
  obtain ⟨yk, yo⟩ := y
  have T0 := Lib.hid (show Cells w (b.add (0 * 2)) [.int .i64 xk, .int .i64 xo] from hS.elem TyD.cs 2 TyD.cs_len (i := 0) rfl)
  have T1 := Lib.hid (show Cells w (b.add (1 * 2)) [.int .i64 yk, .int .i64 yo] from hS.elem TyD.cs 2 TyD.cs_len (i := 1) rfl)
  obtain ⟨m, hm⟩ : ∃ m, meetB xk xo yk yo = m := ⟨_, rfl⟩
  have HMt := Lib.hid (fun W => hm ▸ rMeet_any xk xo yk yo W hx hy)
  have HR := Lib.hid (show toldF (meetB xk xo yk yo) ⟨1, 0⟩ = toldF m ⟨1, 0⟩ by rw [hm])
  clear hS hm
  rcases hop with rfl | rfl
  all_goals
    cases m
    all_goals
      go_enter Tryd.func58, Tryd.ntmps58
      go_wp2_with (first | ((with_reducible refine igd ?_); (with_reducible refine skip_op ?_ ?_); (exact rfl)) | ((with_reducible refine iload ?_); first | refine ldb1 HM.out 0 rfl rfl rfl ?_ | refine ldb1 HM.out 1 rfl rfl rfl ?_ | refine ldb1 HM.out 2 rfl rfl rfl ?_ | refine ldbW HM.out 0 rfl rfl rfl ?_ | refine ldbW HM.out 1 rfl rfl rfl ?_ | refine ldbW HM.out 2 rfl rfl rfl ?_ | ((first | refine ldbS HM.out 0 rfl rfl rfl ?_ | refine ldbS HM.out 1 rfl rfl rfl ?_ | refine ldbS HM.out 2 rfl rfl rfl ?_); simp only [List.take, List.drop])) | ((with_reducible refine istore ?_); (first | ((first | refine stbW rfl HM.out 0 rfl rfl rfl rfl rfl rfl ?_ | refine stbW rfl HM.out 1 rfl rfl rfl rfl rfl rfl ?_ | refine stbW rfl HM.out 2 rfl rfl rfl rfl rfl rfl ?_); intro W1 HM1; replace HM := Lib.hid HM1; clear HM1; simp only [List.set] at HM) | ((first | refine stbS rfl HM.out 0 rfl rfl rfl rfl rfl rfl ?_ | refine stbS rfl HM.out 1 rfl rfl rfl rfl rfl rfl ?_ | refine stbS rfl HM.out 2 rfl rfl rfl rfl rfl rfl ?_); intro W1 HM1; replace HM := Lib.hid HM1; clear HM1; simp only [lss, Nat.reduceAdd] at HM))) | ((with_reducible refine ibox (d := some 3) ?_); refine bxA rfl HM.out rfl ?_; intro g3 W1 HM1; replace HM := Lib.hid HM1; clear HM1) | ((with_reducible refine ialloc (d := some 6) ?_); refine alb rfl HM.out ?_; intro g6 W1 HM1; replace HM := Lib.hid HM1; clear HM1))
      refine wp_region_steps2 [(true, 0), (true, 1), (true, 2), (true, 3), (true, 4), (true, 5), (false, 6), (false, 7), (true, 8), (true, 9), (false, 10), (true, 11)] (by kernel_rfl) (by kernel_rfl) rfl (by kernel_rfl) (fun _ _ _ _ _ h => h) HM.out _ (.cons _ (.cons_cons _ .slnil)) ?_
      intro hNE W1 HM1; replace HM := Lib.hid HM1; clear HM1
      have HS0 := Lib.hid (HM.out.sub (.cons _ (.cons_cons _ .slnil)))
      simp only [wpSteps, List.getElem?_cons_succ, List.getElem?_cons_zero]
      (repeat (first | ((with_reducible refine wpQuiet_nil ?_); (try dsimp only)) | ((with_reducible refine qload ?_); first | (refine qdbW HS0.out 0 rfl rfl rfl ?_) | (refine qdbS HS0.out 0 rfl rfl rfl ?_; simp only [List.take, List.drop])) | ((with_reducible refine qat 62 ?_); (refine qixa (i := 0) rfl rfl rfl (by decide) ?_)) | ((with_reducible refine qat 65 ?_); (refine qixa (i := 1) rfl rfl rfl (by decide) ?_)) | ((with_reducible refine qat 63 ?_); (refine qdA (vs := [.int .i64 xk, .int .i64 xo]) rfl rfl (fun W ⟨q, hq⟩ => hq ▸ q.mem.olds T0.out) ?_)) | ((with_reducible refine qat 66 ?_); (refine qdA (vs := [.int .i64 yk, .int .i64 yo]) rfl rfl (fun W ⟨q, hq⟩ => hq ▸ q.mem.olds T1.out) ?_)) | go_big_quiet_step (fail) | quiet_step (fail)))
      go_wp2_with (first | (go_at_call 65; (with_reducible refine (HMt.out _).mono ?_); rintro e W1 ⟨rfl, hb⟩; replace HM := Lib.hid (HM.out.next hb); clear hb))
      refine ⟨⟨⟨_, HM.out.sub (by repeat (first | exact List.nil_sublist _ | with_reducible refine List.Sublist.cons_cons _ ?_ | refine List.Sublist.cons _ ?_))⟩, rfl⟩, ?_⟩
      (try dsimp only)
      go_wp2_with (first | (go_at_call 57; first | ((with_reducible refine (must_yes _ _).mono ?_); rintro e W1 ⟨rfl, hb⟩; replace HM := Lib.hid (HM.out.next hb); clear hb) | ((with_reducible refine (must_no _ _).mono ?_); rintro e W1 ⟨rfl, hb⟩; replace HM := Lib.hid (HM.out.next hb); clear hb)))
      refine ⟨⟨⟨_, HM.out.sub (by repeat (first | exact List.nil_sublist _ | with_reducible refine List.Sublist.cons_cons _ ?_ | refine List.Sublist.cons _ ?_))⟩, rfl⟩, ?_⟩
      (try dsimp only)
      (repeat (first | ((with_reducible refine wpQuiet_nil ?_); (try dsimp only)) | go_big_quiet_step (fail) | quiet_step (fail)))
      go_wp2_with (first | ((with_reducible refine istore ?_); (first | ((first | refine stbW rfl HM.out 0 rfl rfl rfl rfl rfl rfl ?_ | refine stbW rfl HM.out 1 rfl rfl rfl rfl rfl rfl ?_ | refine stbW rfl HM.out 2 rfl rfl rfl rfl rfl rfl ?_); intro W1 HM1; replace HM := Lib.hid HM1; clear HM1; simp only [List.set] at HM) | ((first | refine stbS rfl HM.out 0 rfl rfl rfl rfl rfl rfl ?_ | refine stbS rfl HM.out 1 rfl rfl rfl rfl rfl rfl ?_ | refine stbS rfl HM.out 2 rfl rfl rfl rfl rfl rfl ?_); intro W1 HM1; replace HM := Lib.hid HM1; clear HM1; simp only [lss, Nat.reduceAdd] at HM))))
      refine ⟨⟨⟨_, HM.out.sub (by repeat (first | exact List.nil_sublist _ | with_reducible refine List.Sublist.cons_cons _ ?_ | refine List.Sublist.cons _ ?_))⟩, rfl⟩, ?_⟩
      (try dsimp only)
      (repeat (first | ((with_reducible refine wpQuiet_nil ?_); (try dsimp only)) | go_big_quiet_step (fail) | quiet_step (fail)))
      clear HS0 hNE
      go_wp2_with fail
      exact bodyPost_ret (res_box_tmp rfl HM.out 0 rfl rfl rfl rfl) rfl ⟨by rw [HR.out]; rfl, HM.out.below⟩

set_option maxHeartbeats 4000000 in
theorem simple_lt (q : Option Addr) (c2 : Nat) (l : List SymD) (n : NodeD) (b : Addr) (c : Nat) (x y : TyD) (w : World) (hop : n.op = 15 ∨ n.op = 16 ∨ n.op = 17 ∨ n.op = 18) (hS : Cells w b (([x, y] : List TyD).flatMap TyD.cs)) (hx : x.form) (hy : y.form) :
    Calls Tryd.prog 58 #[.agg n.cs.toArray, .slice (some b) 2 c, .slice q l.length c2] w fun e w' => e = .returned (resV (toldF (ordB x.k x.o y.k y.o) ⟨1, 0⟩)) ∧ Below w.heap.size w w' := by
  have HM := Lib.hid (Mem.start w)
  obtain ⟨op, kids, text, neg, hi, lo, sc, day⟩ := n
  obtain ⟨xk, xo⟩ := x
  obtain ⟨yk, yo⟩ := y
  have T0 := Lib.hid (show Cells w (b.add (0 * 2)) [.int .i64 xk, .int .i64 xo] from hS.elem TyD.cs 2 TyD.cs_len (i := 0) rfl)
  have T1 := Lib.hid (show Cells w (b.add (1 * 2)) [.int .i64 yk, .int .i64 yo] from hS.elem TyD.cs 2 TyD.cs_len (i := 1) rfl)
  obtain ⟨m, hm⟩ : ∃ m, ordB xk xo yk yo = m := ⟨_, rfl⟩
  have HMt := Lib.hid (fun W => hm ▸ rOrdered_any xk xo yk yo W hx hy)
  have HR := Lib.hid (show toldF (ordB xk xo yk yo) ⟨1, 0⟩ = toldF m ⟨1, 0⟩ by rw [hm])
  clear hS hm
  rcases hop with rfl | rfl | rfl | rfl
  all_goals
    cases m
    all_goals
      go_enter Tryd.func58, Tryd.ntmps58
      go_wp2_with (first | ((with_reducible refine igd ?_); (with_reducible refine skip_op ?_ ?_); (exact rfl)) | ((with_reducible refine iload ?_); first | refine ldb1 HM.out 0 rfl rfl rfl ?_ | refine ldb1 HM.out 1 rfl rfl rfl ?_ | refine ldb1 HM.out 2 rfl rfl rfl ?_ | refine ldbW HM.out 0 rfl rfl rfl ?_ | refine ldbW HM.out 1 rfl rfl rfl ?_ | refine ldbW HM.out 2 rfl rfl rfl ?_ | ((first | refine ldbS HM.out 0 rfl rfl rfl ?_ | refine ldbS HM.out 1 rfl rfl rfl ?_ | refine ldbS HM.out 2 rfl rfl rfl ?_); simp only [List.take, List.drop])) | ((with_reducible refine istore ?_); (first | ((first | refine stbW rfl HM.out 0 rfl rfl rfl rfl rfl rfl ?_ | refine stbW rfl HM.out 1 rfl rfl rfl rfl rfl rfl ?_ | refine stbW rfl HM.out 2 rfl rfl rfl rfl rfl rfl ?_); intro W1 HM1; replace HM := Lib.hid HM1; clear HM1; simp only [List.set] at HM) | ((first | refine stbS rfl HM.out 0 rfl rfl rfl rfl rfl rfl ?_ | refine stbS rfl HM.out 1 rfl rfl rfl rfl rfl rfl ?_ | refine stbS rfl HM.out 2 rfl rfl rfl rfl rfl rfl ?_); intro W1 HM1; replace HM := Lib.hid HM1; clear HM1; simp only [lss, Nat.reduceAdd] at HM))) | ((with_reducible refine ibox (d := some 3) ?_); refine bxA rfl HM.out rfl ?_; intro g3 W1 HM1; replace HM := Lib.hid HM1; clear HM1) | ((with_reducible refine ialloc (d := some 6) ?_); refine alb rfl HM.out ?_; intro g6 W1 HM1; replace HM := Lib.hid HM1; clear HM1))
      refine wp_region_steps2 [(true, 0), (true, 1), (true, 2), (true, 3), (true, 4), (true, 5), (false, 6), (false, 7), (true, 8), (true, 9), (false, 10), (true, 11)] (by kernel_rfl) (by kernel_rfl) rfl (by kernel_rfl) (fun _ _ _ _ _ h => h) HM.out _ (.cons _ (.cons_cons _ .slnil)) ?_
      intro hNE W1 HM1; replace HM := Lib.hid HM1; clear HM1
      have HS0 := Lib.hid (HM.out.sub (.cons _ (.cons_cons _ .slnil)))
      simp only [wpSteps, List.getElem?_cons_succ, List.getElem?_cons_zero]
      (repeat (first | ((with_reducible refine wpQuiet_nil ?_); (try dsimp only)) | ((with_reducible refine qload ?_); first | (refine qdbW HS0.out 0 rfl rfl rfl ?_) | (refine qdbS HS0.out 0 rfl rfl rfl ?_; simp only [List.take, List.drop])) | ((with_reducible refine qat 77 ?_); (refine qixa (i := 0) rfl rfl rfl (by decide) ?_)) | ((with_reducible refine qat 80 ?_); (refine qixa (i := 1) rfl rfl rfl (by decide) ?_)) | ((with_reducible refine qat 78 ?_); (refine qdA (vs := [.int .i64 xk, .int .i64 xo]) rfl rfl (fun W ⟨q, hq⟩ => hq ▸ q.mem.olds T0.out) ?_)) | ((with_reducible refine qat 81 ?_); (refine qdA (vs := [.int .i64 yk, .int .i64 yo]) rfl rfl (fun W ⟨q, hq⟩ => hq ▸ q.mem.olds T1.out) ?_)) | go_big_quiet_step (fail) | quiet_step (fail)))
      go_wp2_with (first | (go_at_call 66; (with_reducible refine (HMt.out _).mono ?_); rintro e W1 ⟨rfl, hb⟩; replace HM := Lib.hid (HM.out.next hb); clear hb))
      refine ⟨⟨⟨_, HM.out.sub (by repeat (first | exact List.nil_sublist _ | with_reducible refine List.Sublist.cons_cons _ ?_ | refine List.Sublist.cons _ ?_))⟩, rfl⟩, ?_⟩
      (try dsimp only)
      go_wp2_with (first | (go_at_call 57; first | ((with_reducible refine (must_yes _ _).mono ?_); rintro e W1 ⟨rfl, hb⟩; replace HM := Lib.hid (HM.out.next hb); clear hb) | ((with_reducible refine (must_no _ _).mono ?_); rintro e W1 ⟨rfl, hb⟩; replace HM := Lib.hid (HM.out.next hb); clear hb)))
      refine ⟨⟨⟨_, HM.out.sub (by repeat (first | exact List.nil_sublist _ | with_reducible refine List.Sublist.cons_cons _ ?_ | refine List.Sublist.cons _ ?_))⟩, rfl⟩, ?_⟩
      (try dsimp only)
      (repeat (first | ((with_reducible refine wpQuiet_nil ?_); (try dsimp only)) | go_big_quiet_step (fail) | quiet_step (fail)))
      go_wp2_with (first | ((with_reducible refine istore ?_); (first | ((first | refine stbW rfl HM.out 0 rfl rfl rfl rfl rfl rfl ?_ | refine stbW rfl HM.out 1 rfl rfl rfl rfl rfl rfl ?_ | refine stbW rfl HM.out 2 rfl rfl rfl rfl rfl rfl ?_); intro W1 HM1; replace HM := Lib.hid HM1; clear HM1; simp only [List.set] at HM) | ((first | refine stbS rfl HM.out 0 rfl rfl rfl rfl rfl rfl ?_ | refine stbS rfl HM.out 1 rfl rfl rfl rfl rfl rfl ?_ | refine stbS rfl HM.out 2 rfl rfl rfl rfl rfl rfl ?_); intro W1 HM1; replace HM := Lib.hid HM1; clear HM1; simp only [lss, Nat.reduceAdd] at HM))))
      refine ⟨⟨⟨_, HM.out.sub (by repeat (first | exact List.nil_sublist _ | with_reducible refine List.Sublist.cons_cons _ ?_ | refine List.Sublist.cons _ ?_))⟩, rfl⟩, ?_⟩
      (try dsimp only)
      (repeat (first | ((with_reducible refine wpQuiet_nil ?_); (try dsimp only)) | go_big_quiet_step (fail) | quiet_step (fail)))
      clear HS0 hNE
      go_wp2_with fail
      exact bodyPost_ret (res_box_tmp rfl HM.out 0 rfl rfl rfl rfl) rfl ⟨by rw [HR.out]; rfl, HM.out.below⟩

end Go.Proofs.YtpjcjgikfplgnaaDoor
