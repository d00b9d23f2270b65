/- typed of check: the type of a node out of its parts. Printed by wip/tools/gen_typed.py. typed of check: the type of a node out of its parts. Printed by wip/tools/gen_typed.py. -/
import Derived.Test.YtpjcjgikfplgnaaDoorCheckTyped
namespace Go.Proofs.YtpjcjgikfplgnaaDoor
open Go.RowKit
set_option linter.unusedVariables false
set_option linter.unusedSimpArgs false
set_option maxRecDepth 100000



set_option maxHeartbeats 4000000 in
theorem typed_between (gc gm : Nat) (sv : Value) (l : List SymD) (n : NodeD) (b : Addr) (c : Nat) (x y z : ThT) (w : World) (hop : n.op = 22) (hS : Cells w b (([x, y, z] : List ThT).flatMap ThT.cs)) (hx : x.t.form) (hy : y.t.form) (hz : z.t.form) :
    Calls Tryd.prog 63 #[.pointer (some ⟨gc, 0, none⟩), .agg n.cs.toArray, .slice (some b) 3 c] w fun e w' => e = .returned (resV (toldF (ordB x.t.k x.t.o y.t.k y.t.o && ordB x.t.k x.t.o z.t.k z.t.o) ⟨1, 0⟩)) ∧ Below w.heap.size w w' := by
  have HM := Lib.hid (Mem.start w)
  obtain ⟨op, kids, text, neg, hi, lo, sc, day⟩ := n
  obtain ⟨⟨xk, xo⟩, xq, xn, xc⟩ := x
  obtain ⟨⟨yk, yo⟩, yq, yn, yc⟩ := y
  obtain ⟨⟨zk, zo⟩, zq, zn, zc⟩ := z
  have T0 := Lib.hid (show Cells w (b.add (0 * 3)) [.int .i64 xk, .int .i64 xo] from (hS.elem ThT.cs 3 ThT.cs_len (i := 0) rfl).take 2)
  have U0 := Lib.hid (show Cells w (b.add (0 * 3)) [.int .i64 xk, .int .i64 xo, .slice xq xn xc] from hS.elem ThT.cs 3 ThT.cs_len (i := 0) rfl)
  have T1 := Lib.hid (show Cells w (b.add (1 * 3)) [.int .i64 yk, .int .i64 yo] from (hS.elem ThT.cs 3 ThT.cs_len (i := 1) rfl).take 2)
  have U1 := Lib.hid (show Cells w (b.add (1 * 3)) [.int .i64 yk, .int .i64 yo, .slice yq yn yc] from hS.elem ThT.cs 3 ThT.cs_len (i := 1) rfl)
  have T2 := Lib.hid (show Cells w (b.add (2 * 3)) [.int .i64 zk, .int .i64 zo] from (hS.elem ThT.cs 3 ThT.cs_len (i := 2) rfl).take 2)
  have U2 := Lib.hid (show Cells w (b.add (2 * 3)) [.int .i64 zk, .int .i64 zo, .slice zq zn zc] from hS.elem ThT.cs 3 ThT.cs_len (i := 2) rfl)
  obtain ⟨m1, hm1⟩ : ∃ m, ordB xk xo yk yo = m := ⟨_, rfl⟩
  obtain ⟨m2, hm2⟩ : ∃ m, ordB xk xo zk zo = m := ⟨_, rfl⟩
  have H1 := Lib.hid (fun W => hm1 ▸ ordered_any xk xo yk yo W hx hy)
  have H2 := Lib.hid (fun W => hm2 ▸ ordered_any xk xo zk zo W hx hz)
  have HR := Lib.hid (show toldF (ordB xk xo yk yo && ordB xk xo zk zo) ⟨1, 0⟩ = toldF (m1 && m2) ⟨1, 0⟩ by rw [hm1, hm2])
  clear hS hm1 hm2
  obtain rfl : op = 22 := hop
  cases m1
  all_goals
    cases m2
    all_goals
      go_enter Tryd.func63, Tryd.ntmps63
      go_wp2_with (first | ((with_reducible refine igd ?_); (with_reducible refine skip_op ?_ ?_); (exact rfl)) | ((with_reducible refine iload ?_); first | refine ldb1 HM.out 0 rfl rfl rfl ?_ | refine ldb1 HM.out 1 rfl rfl rfl ?_ | refine ldb1 HM.out 2 rfl rfl rfl ?_ | refine ldbW HM.out 0 rfl rfl rfl ?_ | refine ldbW HM.out 1 rfl rfl rfl ?_ | refine ldbW HM.out 2 rfl rfl rfl ?_ | ((first | refine ldbS HM.out 0 rfl rfl rfl ?_ | refine ldbS HM.out 1 rfl rfl rfl ?_ | refine ldbS HM.out 2 rfl rfl rfl ?_); simp only [List.take, List.drop])) | ((with_reducible refine istore ?_); (first | ((first | refine stbW rfl HM.out 0 rfl rfl rfl rfl rfl rfl ?_ | refine stbW rfl HM.out 1 rfl rfl rfl rfl rfl rfl ?_ | refine stbW rfl HM.out 2 rfl rfl rfl rfl rfl rfl ?_); intro W1 HM1; replace HM := Lib.hid HM1; clear HM1; simp only [List.set] at HM) | ((first | refine stbS rfl HM.out 0 rfl rfl rfl rfl rfl rfl ?_ | refine stbS rfl HM.out 1 rfl rfl rfl rfl rfl rfl ?_ | refine stbS rfl HM.out 2 rfl rfl rfl rfl rfl rfl ?_); intro W1 HM1; replace HM := Lib.hid HM1; clear HM1; simp only [lss, Nat.reduceAdd] at HM))) | ((with_reducible refine ibox (d := some 4) ?_); refine bxA rfl HM.out rfl ?_; intro g4 W1 HM1; replace HM := Lib.hid HM1; clear HM1) | ((with_reducible refine ialloc (d := some 6) ?_); refine alb rfl HM.out ?_; intro g6 W1 HM1; replace HM := Lib.hid HM1; clear HM1) | ((with_reducible refine ialloc ?_); refine alb rfl HM.out ?_; intro g1 W1 HM1; replace HM := Lib.hid HM1; clear HM1))
      refine wp_region_steps2 [(true, 0), (true, 1), (true, 2), (true, 3), (true, 4), (true, 5), (true, 6), (true, 7), (false, 8), (true, 9), (true, 10), (true, 11), (true, 12), (true, 13), (true, 14), (true, 15), (true, 16), (true, 17), (false, 18), (true, 19), (false, 20), (false, 21), (true, 22), (true, 23), (false, 24), (true, 25)] (by kernel_rfl) (by kernel_rfl) rfl (by kernel_rfl) (fun _ _ _ _ _ h => h) HM.out _ (.cons _ (.cons_cons _ .slnil)) ?_
      intro hNE W1 HM1; replace HM := Lib.hid HM1; clear HM1
      have HS0 := Lib.hid (HM.out.sub (.cons _ (.cons_cons _ .slnil)))
      simp only [wpSteps, List.getElem?_cons_succ, List.getElem?_cons_zero]
      (repeat (first | ((with_reducible refine wpQuiet_nil ?_); (try dsimp only)) | ((with_reducible refine qload ?_); first | (refine qdbW HS0.out 0 rfl rfl rfl ?_) | (refine qdbS HS0.out 0 rfl rfl rfl ?_; simp only [List.take, List.drop])) | ((with_reducible refine qat 112 ?_); (refine qixa (i := 0) rfl rfl rfl (by decide) ?_)) | ((with_reducible refine qat 116 ?_); (refine qixa (i := 1) rfl rfl rfl (by decide) ?_)) | ((with_reducible refine qat 114 ?_); (refine qdA (vs := [.int .i64 xk, .int .i64 xo]) rfl rfl (fun W ⟨q, hq⟩ => hq ▸ q.mem.olds T0.out) ?_)) | ((with_reducible refine qat 118 ?_); (refine qdA (vs := [.int .i64 yk, .int .i64 yo]) rfl rfl (fun W ⟨q, hq⟩ => hq ▸ q.mem.olds T1.out) ?_)) | go_big_quiet_step (fail) | quiet_step (fail)))
      go_wp2_with (first | (go_at_call 45; first | ((with_reducible refine (H1.out _).mono ?_); rintro e W1 ⟨rfl, hb⟩; replace HM := Lib.hid (HM.out.next hb); clear hb) | ((with_reducible refine (H2.out _).mono ?_); rintro e W1 ⟨rfl, hb⟩; replace HM := Lib.hid (HM.out.next hb); clear hb)))
      refine ⟨⟨⟨_, HM.out.sub (by repeat (first | exact List.nil_sublist _ | with_reducible refine List.Sublist.cons_cons _ ?_ | refine List.Sublist.cons _ ?_))⟩, rfl⟩, ?_⟩
      (try dsimp only)
      (repeat (first | ((with_reducible refine qgd ?_); (with_reducible refine skip_q ?_ ?_ ?_); (exact rfl); (rotate_left; (exact (hNE.elim fun p => ⟨p.W, p, rfl⟩)))) | ((with_reducible refine wpQuiet_nil ?_); (try dsimp only)) | ((with_reducible refine qload ?_); first | (refine qdbW HS0.out 0 rfl rfl rfl ?_) | (refine qdbS HS0.out 0 rfl rfl rfl ?_; simp only [List.take, List.drop])) | ((with_reducible refine qat 122 ?_); (refine qixa (i := 0) rfl rfl rfl (by decide) ?_)) | ((with_reducible refine qat 126 ?_); (refine qixa (i := 2) rfl rfl rfl (by decide) ?_)) | ((with_reducible refine qat 124 ?_); (refine qdA (vs := [.int .i64 xk, .int .i64 xo]) rfl rfl (fun W ⟨q, hq⟩ => hq ▸ q.mem.olds T0.out) ?_)) | ((with_reducible refine qat 128 ?_); (refine qdA (vs := [.int .i64 zk, .int .i64 zo]) rfl rfl (fun W ⟨q, hq⟩ => hq ▸ q.mem.olds T2.out) ?_)) | go_big_quiet_step (fail) | quiet_step (fail)))
      go_wp2_with (first | ((with_reducible refine igd ?_); (with_reducible refine skip_op ?_ ?_); (exact rfl)) | (go_at_call 45; first | ((with_reducible refine (H1.out _).mono ?_); rintro e W1 ⟨rfl, hb⟩; replace HM := Lib.hid (HM.out.next hb); clear hb) | ((with_reducible refine (H2.out _).mono ?_); rintro e W1 ⟨rfl, hb⟩; replace HM := Lib.hid (HM.out.next hb); clear hb)))
      refine ⟨⟨⟨_, HM.out.sub (by repeat (first | exact List.nil_sublist _ | with_reducible refine List.Sublist.cons_cons _ ?_ | refine List.Sublist.cons _ ?_))⟩, rfl⟩, ?_⟩
      (try dsimp only)
      (repeat (first | ((with_reducible refine wpQuiet_nil ?_); (try dsimp only)) | go_big_quiet_step (fail) | quiet_step (fail)))
      go_wp2_with (first | (go_at_call 17; (with_reducible refine (cof_any _ _).mono ?_); rintro e W1 ⟨rfl, hb⟩; replace HM := Lib.hid (HM.out.next hb); clear hb))
      refine ⟨⟨⟨_, HM.out.sub (by repeat (first | exact List.nil_sublist _ | with_reducible refine List.Sublist.cons_cons _ ?_ | refine List.Sublist.cons _ ?_))⟩, rfl⟩, ?_⟩
      (try dsimp only)
      go_wp2_with (first | (go_at_call 82; first | ((with_reducible refine (told_yes _ _ _).mono ?_); rintro e W1 ⟨rfl, hb⟩; replace HM := Lib.hid (HM.out.next hb); clear hb) | ((with_reducible refine (told_no _ _ _).mono ?_); rintro e W1 ⟨rfl, hb⟩; replace HM := Lib.hid (HM.out.next hb); clear hb)))
      refine ⟨⟨⟨_, HM.out.sub (by repeat (first | exact List.nil_sublist _ | with_reducible refine List.Sublist.cons_cons _ ?_ | refine List.Sublist.cons _ ?_))⟩, rfl⟩, ?_⟩
      (try dsimp only)
      (repeat (first | ((with_reducible refine wpQuiet_nil ?_); (try dsimp only)) | go_big_quiet_step (fail) | quiet_step (fail)))
      go_wp2_with (first | ((with_reducible refine istore ?_); (first | ((first | refine stbW rfl HM.out 0 rfl rfl rfl rfl rfl rfl ?_ | refine stbW rfl HM.out 1 rfl rfl rfl rfl rfl rfl ?_ | refine stbW rfl HM.out 2 rfl rfl rfl rfl rfl rfl ?_); intro W1 HM1; replace HM := Lib.hid HM1; clear HM1; simp only [List.set] at HM) | ((first | refine stbS rfl HM.out 0 rfl rfl rfl rfl rfl rfl ?_ | refine stbS rfl HM.out 1 rfl rfl rfl rfl rfl rfl ?_ | refine stbS rfl HM.out 2 rfl rfl rfl rfl rfl rfl ?_); intro W1 HM1; replace HM := Lib.hid HM1; clear HM1; simp only [lss, Nat.reduceAdd] at HM))))
      refine ⟨⟨⟨_, HM.out.sub (by repeat (first | exact List.nil_sublist _ | with_reducible refine List.Sublist.cons_cons _ ?_ | refine List.Sublist.cons _ ?_))⟩, rfl⟩, ?_⟩
      (try dsimp only)
      (repeat (first | ((with_reducible refine wpQuiet_nil ?_); (try dsimp only)) | go_big_quiet_step (fail) | quiet_step (fail)))
      clear HS0 hNE
      go_wp2_with fail
      exact bodyPost_ret (res_box_tmp rfl HM.out 0 rfl rfl rfl rfl) rfl ⟨by rw [HR.out]; rfl, HM.out.below⟩

end Go.Proofs.YtpjcjgikfplgnaaDoor

namespace Go.Proofs.YtpjcjgikfplgnaaDoor
open Go.RowKit
set_option linter.unusedVariables false
set_option linter.unusedSimpArgs false
set_option maxRecDepth 100000


theorem Mem.checker {w0 W : World} {L : List Res} (h : Mem w0 W L) {gc gm : Nat} {sv : Value} {l : List SymD} (hc : CheckerAt w0 gc gm sv l) : CheckerAt W gc gm sv l := ⟨h.olds hc.1, (h.oldmap hc.2).2⟩

set_option maxHeartbeats 4000000 in
theorem typed_in (gc gm : Nat) (sv : Value) (l : List SymD) (n : NodeD) (b : Addr) (c : Nat) (x y : ThT) (w : World) (hop : n.op = 23) (hS : Cells w b (([x, y] : List ThT).flatMap ThT.cs)) (d : ThD) (hd : ThOk w y d) (hq : ∀ a, a ∈ d.qs → a.t.form) (hx : x.t.form) (hl : d.qs.length ≤ 4611686018427387904) :
    Calls Tryd.prog 63 #[.pointer (some ⟨gc, 0, none⟩), .agg n.cs.toArray, .slice (some b) 2 c] w fun e w' => e = .returned (resV (toldF (asksB x.t d.qs) ⟨1, 0⟩)) ∧ Below w.heap.size w w' := by
  have HM := Lib.hid (Mem.start w)
  obtain ⟨op, kids, text, neg, hi, lo, sc, day⟩ := n
  obtain ⟨⟨xk, xo⟩, xq, xn, xc⟩ := x
  obtain ⟨⟨yk, yo⟩, yq, yn, yc⟩ := y
  have T0 := Lib.hid (show Cells w (b.add (0 * 3)) [.int .i64 xk, .int .i64 xo] from (hS.elem ThT.cs 3 ThT.cs_len (i := 0) rfl).take 2)
  have U0 := Lib.hid (show Cells w (b.add (0 * 3)) [.int .i64 xk, .int .i64 xo, .slice xq xn xc] from hS.elem ThT.cs 3 ThT.cs_len (i := 0) rfl)
  have T1 := Lib.hid (show Cells w (b.add (1 * 3)) [.int .i64 yk, .int .i64 yo] from (hS.elem ThT.cs 3 ThT.cs_len (i := 1) rfl).take 2)
  have U1 := Lib.hid (show Cells w (b.add (1 * 3)) [.int .i64 yk, .int .i64 yo, .slice yq yn yc] from hS.elem ThT.cs 3 ThT.cs_len (i := 1) rfl)
  obtain ⟨hd1, hd2, hd3⟩ := hd
  obtain rfl : yn = d.qs.length := hd2
  obtain ⟨m, hm⟩ : ∃ m, asksB ⟨xk, xo⟩ d.qs = m := ⟨_, rfl⟩
  have HQ := Lib.hid (show Sl w yq (d.qs.flatMap AskD.cs) from hd3)
  have H1 := Lib.hid (fun W (h : Sl W yq (d.qs.flatMap AskD.cs)) => hm ▸ fits_any yk yo yq yc d.qs ⟨xk, xo⟩ W h hq hx hl)
  have HR := Lib.hid (show toldF (asksB ⟨xk, xo⟩ d.qs) ⟨1, 0⟩ = toldF m ⟨1, 0⟩ by rw [hm])
  clear hS hm hd1 hd3
  obtain rfl : op = 23 := hop
  cases m
  all_goals
    go_enter Tryd.func63, Tryd.ntmps63
    go_wp2_with (first | ((with_reducible refine igd ?_); (with_reducible refine skip_op ?_ ?_); (exact rfl)) | ((with_reducible refine iload ?_); first | refine ldb1 HM.out 0 rfl rfl rfl ?_ | refine ldb1 HM.out 1 rfl rfl rfl ?_ | refine ldb1 HM.out 2 rfl rfl rfl ?_ | refine ldbW HM.out 0 rfl rfl rfl ?_ | refine ldbW HM.out 1 rfl rfl rfl ?_ | refine ldbW HM.out 2 rfl rfl rfl ?_ | ((first | refine ldbS HM.out 0 rfl rfl rfl ?_ | refine ldbS HM.out 1 rfl rfl rfl ?_ | refine ldbS HM.out 2 rfl rfl rfl ?_); simp only [List.take, List.drop])) | ((with_reducible refine istore ?_); (first | ((first | refine stbW rfl HM.out 0 rfl rfl rfl rfl rfl rfl ?_ | refine stbW rfl HM.out 1 rfl rfl rfl rfl rfl rfl ?_ | refine stbW rfl HM.out 2 rfl rfl rfl rfl rfl rfl ?_); intro W1 HM1; replace HM := Lib.hid HM1; clear HM1; simp only [List.set] at HM) | ((first | refine stbS rfl HM.out 0 rfl rfl rfl rfl rfl rfl ?_ | refine stbS rfl HM.out 1 rfl rfl rfl rfl rfl rfl ?_ | refine stbS rfl HM.out 2 rfl rfl rfl rfl rfl rfl ?_); intro W1 HM1; replace HM := Lib.hid HM1; clear HM1; simp only [lss, Nat.reduceAdd] at HM))) | ((with_reducible refine ibox (d := some 4) ?_); refine bxA rfl HM.out rfl ?_; intro g4 W1 HM1; replace HM := Lib.hid HM1; clear HM1) | ((with_reducible refine ialloc (d := some 6) ?_); refine alb rfl HM.out ?_; intro g6 W1 HM1; replace HM := Lib.hid HM1; clear HM1) | ((with_reducible refine ialloc ?_); refine alb rfl HM.out ?_; intro g1 W1 HM1; replace HM := Lib.hid HM1; clear HM1))
    refine wp_region_steps2 [(true, 0), (true, 1), (true, 2), (true, 3), (true, 4), (true, 5), (true, 6), (false, 7), (false, 8), (false, 9), (true, 10), (true, 11), (false, 12), (true, 13)] (by kernel_rfl) (by kernel_rfl) rfl (by kernel_rfl) (fun _ _ _ _ _ h => h) HM.out _ (.cons _ (.cons_cons _ .slnil)) ?_
    intro hNE W1 HM1; replace HM := Lib.hid HM1; clear HM1
    have HS0 := Lib.hid (HM.out.sub (.cons _ (.cons_cons _ .slnil)))
    simp only [wpSteps, List.getElem?_cons_succ, List.getElem?_cons_zero]
    (repeat (first | ((with_reducible refine wpQuiet_nil ?_); (try dsimp only)) | ((with_reducible refine qload ?_); first | (refine qdbW HS0.out 0 rfl rfl rfl ?_) | (refine qdbS HS0.out 0 rfl rfl rfl ?_; simp only [List.take, List.drop])) | ((with_reducible refine qat 138 ?_); (refine qixa (i := 1) rfl rfl rfl (by decide) ?_)) | ((with_reducible refine qat 141 ?_); (refine qixa (i := 0) rfl rfl rfl (by decide) ?_)) | ((with_reducible refine qat 143 ?_); (refine qdA (vs := [.int .i64 xk, .int .i64 xo]) rfl rfl (fun W ⟨q, hq⟩ => hq ▸ q.mem.olds T0.out) ?_)) | ((with_reducible refine qat 139 ?_); (refine qdA (vs := [.int .i64 yk, .int .i64 yo, .slice yq d.qs.length yc]) rfl rfl (fun W ⟨q, hq⟩ => hq ▸ q.mem.olds U1.out) ?_)) | go_big_quiet_step (fail) | quiet_step (fail)))
    go_wp2_with (first | (go_at_call 26; (with_reducible refine (H1.out _ (HM.out.sl HQ.out)).mono ?_); rintro e W1 ⟨rfl, hb⟩; replace HM := Lib.hid (HM.out.next hb); clear hb))
    refine ⟨⟨⟨_, HM.out.sub (by repeat (first | exact List.nil_sublist _ | with_reducible refine List.Sublist.cons_cons _ ?_ | refine List.Sublist.cons _ ?_))⟩, rfl⟩, ?_⟩
    (try dsimp only)
    go_wp2_with (first | (go_at_call 17; (with_reducible refine (cof_any _ _).mono ?_); rintro e W1 ⟨rfl, hb⟩; replace HM := Lib.hid (HM.out.next hb); clear hb))
    refine ⟨⟨⟨_, HM.out.sub (by repeat (first | exact List.nil_sublist _ | with_reducible refine List.Sublist.cons_cons _ ?_ | refine List.Sublist.cons _ ?_))⟩, rfl⟩, ?_⟩
    (try dsimp only)
    go_wp2_with (first | (go_at_call 82; first | ((with_reducible refine (told_yes _ _ _).mono ?_); rintro e W1 ⟨rfl, hb⟩; replace HM := Lib.hid (HM.out.next hb); clear hb) | ((with_reducible refine (told_no _ _ _).mono ?_); rintro e W1 ⟨rfl, hb⟩; replace HM := Lib.hid (HM.out.next hb); clear hb)))
    refine ⟨⟨⟨_, HM.out.sub (by repeat (first | exact List.nil_sublist _ | with_reducible refine List.Sublist.cons_cons _ ?_ | refine List.Sublist.cons _ ?_))⟩, rfl⟩, ?_⟩
    (try dsimp only)
    (repeat (first | ((with_reducible refine wpQuiet_nil ?_); (try dsimp only)) | go_big_quiet_step (fail) | quiet_step (fail)))
    go_wp2_with (first | ((with_reducible refine istore ?_); (first | ((first | refine stbW rfl HM.out 0 rfl rfl rfl rfl rfl rfl ?_ | refine stbW rfl HM.out 1 rfl rfl rfl rfl rfl rfl ?_ | refine stbW rfl HM.out 2 rfl rfl rfl rfl rfl rfl ?_); intro W1 HM1; replace HM := Lib.hid HM1; clear HM1; simp only [List.set] at HM) | ((first | refine stbS rfl HM.out 0 rfl rfl rfl rfl rfl rfl ?_ | refine stbS rfl HM.out 1 rfl rfl rfl rfl rfl rfl ?_ | refine stbS rfl HM.out 2 rfl rfl rfl rfl rfl rfl ?_); intro W1 HM1; replace HM := Lib.hid HM1; clear HM1; simp only [lss, Nat.reduceAdd] at HM))))
    refine ⟨⟨⟨_, HM.out.sub (by repeat (first | exact List.nil_sublist _ | with_reducible refine List.Sublist.cons_cons _ ?_ | refine List.Sublist.cons _ ?_))⟩, rfl⟩, ?_⟩
    (try dsimp only)
    (repeat (first | ((with_reducible refine wpQuiet_nil ?_); (try dsimp only)) | go_big_quiet_step (fail) | quiet_step (fail)))
    clear HS0 hNE
    go_wp2_with fail
    exact bodyPost_ret (res_box_tmp rfl HM.out 0 rfl rfl rfl rfl) rfl ⟨by rw [HR.out]; rfl, HM.out.below⟩

set_option maxHeartbeats 4000000 in
theorem typed_call (gc gm : Nat) (sv : Value) (l : List SymD) (n : NodeD) (p : Option Addr) (c : Nat) (ts : List ThT) (w : World) (hop : n.op = 25) (hS : Sl w p (ts.flatMap ThT.cs)) (hf : ∀ t, t ∈ ts → t.t.form) (hl : ts.length ≤ 4611686018427387904) :
    Calls Tryd.prog 63 #[.pointer (some ⟨gc, 0, none⟩), .agg n.cs.toArray, .slice p ts.length c] w fun e w' => e = .returned (resV (callF (fnF n.text.toList) (ts.map ThT.t))) ∧ Below w.heap.size w w' := by
  have HM := Lib.hid (Mem.start w)
  obtain ⟨op, kids, text, neg, hi, lo, sc, day⟩ := n
  obtain ⟨⟨⟨rk, ro⟩, re⟩, hr⟩ : ∃ r, callF (fnF text.toList) (ts.map ThT.t) = r := ⟨_, rfl⟩
  have HS := Lib.hid hS
  have H1 := Lib.hid (fun W (h : Sl W p (ts.flatMap ThT.cs)) => (show Calls Tryd.prog 85 #[.string text, .slice p ts.length c] W fun e w' => e = .returned (.tuple #[.agg #[.int .i64 rk, .int .i64 ro], .int .i64 re]) ∧ Below W.heap.size W w' from by
    have h2 := call_any text p c ts W h hf hl
    rw [hr] at h2
    exact h2))
  have HR := Lib.hid hr
  clear hS hf hr
  obtain rfl : op = 25 := hop
  go_enter Tryd.func63, Tryd.ntmps63
  go_wp2_with (first | (go_at_call 85; (with_reducible refine (H1.out _ (HM.out.sl HS.out)).mono ?_); rintro e W1 ⟨rfl, hb⟩; replace HM := Lib.hid (HM.out.next hb); clear hb) | ((with_reducible refine igd ?_); (with_reducible refine skip_op ?_ ?_); (exact rfl)) | ((with_reducible refine iload ?_); first | refine ldb1 HM.out 0 rfl rfl rfl ?_ | refine ldb1 HM.out 1 rfl rfl rfl ?_ | refine ldb1 HM.out 2 rfl rfl rfl ?_ | refine ldbW HM.out 0 rfl rfl rfl ?_ | refine ldbW HM.out 1 rfl rfl rfl ?_ | refine ldbW HM.out 2 rfl rfl rfl ?_ | ((first | refine ldbS HM.out 0 rfl rfl rfl ?_ | refine ldbS HM.out 1 rfl rfl rfl ?_ | refine ldbS HM.out 2 rfl rfl rfl ?_); simp only [List.take, List.drop])) | ((with_reducible refine istore ?_); (first | ((first | refine stbW rfl HM.out 0 rfl rfl rfl rfl rfl rfl ?_ | refine stbW rfl HM.out 1 rfl rfl rfl rfl rfl rfl ?_ | refine stbW rfl HM.out 2 rfl rfl rfl rfl rfl rfl ?_); intro W1 HM1; replace HM := Lib.hid HM1; clear HM1; simp only [List.set] at HM) | ((first | refine stbS rfl HM.out 0 rfl rfl rfl rfl rfl rfl ?_ | refine stbS rfl HM.out 1 rfl rfl rfl rfl rfl rfl ?_ | refine stbS rfl HM.out 2 rfl rfl rfl rfl rfl rfl ?_); intro W1 HM1; replace HM := Lib.hid HM1; clear HM1; simp only [lss, Nat.reduceAdd] at HM))) | ((with_reducible refine ibox (d := some 4) ?_); refine bxA rfl HM.out rfl ?_; intro g4 W1 HM1; replace HM := Lib.hid HM1; clear HM1) | ((with_reducible refine ialloc (d := some 6) ?_); refine alb rfl HM.out ?_; intro g6 W1 HM1; replace HM := Lib.hid HM1; clear HM1) | ((with_reducible refine ialloc ?_); refine alb rfl HM.out ?_; intro g1 W1 HM1; replace HM := Lib.hid HM1; clear HM1))
  exact bodyPost_ret (res_box_tmp rfl HM.out 0 rfl rfl rfl rfl) rfl ⟨by rw [HR.out]; rfl, HM.out.below⟩

set_option maxHeartbeats 4000000 in
theorem typed_list (gc gm : Nat) (sv : Value) (l : List SymD) (n : NodeD) (p : Option Addr) (c : Nat) (ts : List ThT) (w : World) (hop : n.op = 26) (hS : Sl w p (ts.flatMap ThT.cs)) (hf : ∀ t, t ∈ ts → t.t.form) (hl : ts.length ≤ 4611686018427387904) :
    Calls Tryd.prog 63 #[.pointer (some ⟨gc, 0, none⟩), .agg n.cs.toArray, .slice p ts.length c] w fun e w' => e = .returned (resV ((itemsF (ts.map ThT.t), 0))) ∧ Below w.heap.size w w' := by
  have HM := Lib.hid (Mem.start w)
  obtain ⟨op, kids, text, neg, hi, lo, sc, day⟩ := n
  obtain ⟨⟨rk, ro⟩, hr⟩ : ∃ r, itemsF (ts.map ThT.t) = r := ⟨_, rfl⟩
  have HS := Lib.hid hS
  have H1 := Lib.hid (fun W (h : Sl W p (ts.flatMap ThT.cs)) => (show Calls Tryd.prog 86 #[.slice p ts.length c] W fun e w' => e = .returned (.agg #[.int .i64 rk, .int .i64 ro]) ∧ Below W.heap.size W w' from by
    have h2 := items_any p c ts W h hl
    rw [hr] at h2
    exact h2))
  have HR := Lib.hid hr
  clear hS hf hr
  obtain rfl : op = 26 := hop
  go_enter Tryd.func63, Tryd.ntmps63
  go_wp2_with (first | (go_at_call 86; (with_reducible refine (H1.out _ (HM.out.sl HS.out)).mono ?_); rintro e W1 ⟨rfl, hb⟩; replace HM := Lib.hid (HM.out.next hb); clear hb) | ((with_reducible refine igd ?_); (with_reducible refine skip_op ?_ ?_); (exact rfl)) | ((with_reducible refine iload ?_); first | refine ldb1 HM.out 0 rfl rfl rfl ?_ | refine ldb1 HM.out 1 rfl rfl rfl ?_ | refine ldb1 HM.out 2 rfl rfl rfl ?_ | refine ldbW HM.out 0 rfl rfl rfl ?_ | refine ldbW HM.out 1 rfl rfl rfl ?_ | refine ldbW HM.out 2 rfl rfl rfl ?_ | ((first | refine ldbS HM.out 0 rfl rfl rfl ?_ | refine ldbS HM.out 1 rfl rfl rfl ?_ | refine ldbS HM.out 2 rfl rfl rfl ?_); simp only [List.take, List.drop])) | ((with_reducible refine istore ?_); (first | ((first | refine stbW rfl HM.out 0 rfl rfl rfl rfl rfl rfl ?_ | refine stbW rfl HM.out 1 rfl rfl rfl rfl rfl rfl ?_ | refine stbW rfl HM.out 2 rfl rfl rfl rfl rfl rfl ?_); intro W1 HM1; replace HM := Lib.hid HM1; clear HM1; simp only [List.set] at HM) | ((first | refine stbS rfl HM.out 0 rfl rfl rfl rfl rfl rfl ?_ | refine stbS rfl HM.out 1 rfl rfl rfl rfl rfl rfl ?_ | refine stbS rfl HM.out 2 rfl rfl rfl rfl rfl rfl ?_); intro W1 HM1; replace HM := Lib.hid HM1; clear HM1; simp only [lss, Nat.reduceAdd] at HM))) | ((with_reducible refine ibox (d := some 4) ?_); refine bxA rfl HM.out rfl ?_; intro g4 W1 HM1; replace HM := Lib.hid HM1; clear HM1) | ((with_reducible refine ialloc (d := some 6) ?_); refine alb rfl HM.out ?_; intro g6 W1 HM1; replace HM := Lib.hid HM1; clear HM1) | ((with_reducible refine ialloc ?_); refine alb rfl HM.out ?_; intro g1 W1 HM1; replace HM := Lib.hid HM1; clear HM1))
  exact bodyPost_ret (res_box_tmp rfl HM.out 0 rfl rfl rfl rfl) rfl ⟨by rw [HR.out]; rfl, HM.out.below⟩

set_option maxHeartbeats 4000000 in
theorem typed_leaf (gc gm : Nat) (sv : Value) (l : List SymD) (n : NodeD) (p : Option Addr) (c k : Nat) (w : World) (hop : n.op < 8 ∨ 26 < n.op) (hC : CheckerAt w gc gm sv l) :
    Calls Tryd.prog 63 #[.pointer (some ⟨gc, 0, none⟩), .agg n.cs.toArray, .slice p k c] w fun e w' => e = .returned (resV (leafF l n.op n.text)) ∧ Below w.heap.size w w' := by
  have HM := Lib.hid (Mem.start w)
  obtain ⟨op, kids, text, neg, hi, lo, sc, day⟩ := n
  obtain ⟨⟨⟨rk, ro⟩, re⟩, hr⟩ : ∃ r, leafF l op text = r := ⟨_, rfl⟩
  have HC := Lib.hid hC
  have H1 := Lib.hid (fun W (h : CheckerAt W gc gm sv l) => (show Calls Tryd.prog 87 #[.pointer (some ⟨gc, 0, none⟩), .agg (NodeD.cs ⟨op, kids, text, neg, hi, lo, sc, day⟩).toArray] W fun e w' => e = .returned (.tuple #[.agg #[.int .i64 rk, .int .i64 ro], .int .i64 re]) ∧ Below W.heap.size W w' from by
    have h2 := leaf_any gc gm sv l ⟨op, kids, text, neg, hi, lo, sc, day⟩ W h
    rw [show leafF l (NodeD.op ⟨op, kids, text, neg, hi, lo, sc, day⟩) (NodeD.text ⟨op, kids, text, neg, hi, lo, sc, day⟩) = ((⟨rk, ro⟩, re) : TyD × Int) from hr] at h2
    exact h2))
  have HR := Lib.hid hr
  clear hC hr
  have b8 : (op == 8) = false := beq_false_of_ne (by have h : op < 8 ∨ 26 < op := hop; omega)
  have b9 : (op == 9) = false := beq_false_of_ne (by have h : op < 8 ∨ 26 < op := hop; omega)
  have b10 : (op == 10) = false := beq_false_of_ne (by have h : op < 8 ∨ 26 < op := hop; omega)
  have b11 : (op == 11) = false := beq_false_of_ne (by have h : op < 8 ∨ 26 < op := hop; omega)
  have b12 : (op == 12) = false := beq_false_of_ne (by have h : op < 8 ∨ 26 < op := hop; omega)
  have b13 : (op == 13) = false := beq_false_of_ne (by have h : op < 8 ∨ 26 < op := hop; omega)
  have b14 : (op == 14) = false := beq_false_of_ne (by have h : op < 8 ∨ 26 < op := hop; omega)
  have b15 : (op == 15) = false := beq_false_of_ne (by have h : op < 8 ∨ 26 < op := hop; omega)
  have b16 : (op == 16) = false := beq_false_of_ne (by have h : op < 8 ∨ 26 < op := hop; omega)
  have b17 : (op == 17) = false := beq_false_of_ne (by have h : op < 8 ∨ 26 < op := hop; omega)
  have b18 : (op == 18) = false := beq_false_of_ne (by have h : op < 8 ∨ 26 < op := hop; omega)
  have b19 : (op == 19) = false := beq_false_of_ne (by have h : op < 8 ∨ 26 < op := hop; omega)
  have b20 : (op == 20) = false := beq_false_of_ne (by have h : op < 8 ∨ 26 < op := hop; omega)
  have b21 : (op == 21) = false := beq_false_of_ne (by have h : op < 8 ∨ 26 < op := hop; omega)
  have b22 : (op == 22) = false := beq_false_of_ne (by have h : op < 8 ∨ 26 < op := hop; omega)
  have b23 : (op == 23) = false := beq_false_of_ne (by have h : op < 8 ∨ 26 < op := hop; omega)
  have b24 : (op == 24) = false := beq_false_of_ne (by have h : op < 8 ∨ 26 < op := hop; omega)
  have b25 : (op == 25) = false := beq_false_of_ne (by have h : op < 8 ∨ 26 < op := hop; omega)
  have b26 : (op == 26) = false := beq_false_of_ne (by have h : op < 8 ∨ 26 < op := hop; omega)
  clear hop
  go_enter Tryd.func63, Tryd.ntmps63
  go_wp2_with (first | (go_at_call 87; (with_reducible refine (H1.out _ (HM.out.checker HC.out)).mono ?_); rintro e W1 ⟨rfl, hb⟩; replace HM := Lib.hid (HM.out.next hb); clear hb) | ((with_reducible refine igd ?_); (with_reducible refine skip_op ?_ ?_); (exact rfl)) | ((with_reducible refine iload ?_); first | refine ldb1 HM.out 0 rfl rfl rfl ?_ | refine ldb1 HM.out 1 rfl rfl rfl ?_ | refine ldb1 HM.out 2 rfl rfl rfl ?_ | refine ldbW HM.out 0 rfl rfl rfl ?_ | refine ldbW HM.out 1 rfl rfl rfl ?_ | refine ldbW HM.out 2 rfl rfl rfl ?_ | ((first | refine ldbS HM.out 0 rfl rfl rfl ?_ | refine ldbS HM.out 1 rfl rfl rfl ?_ | refine ldbS HM.out 2 rfl rfl rfl ?_); simp only [List.take, List.drop])) | ((with_reducible refine istore ?_); (first | ((first | refine stbW rfl HM.out 0 rfl rfl rfl rfl rfl rfl ?_ | refine stbW rfl HM.out 1 rfl rfl rfl rfl rfl rfl ?_ | refine stbW rfl HM.out 2 rfl rfl rfl rfl rfl rfl ?_); intro W1 HM1; replace HM := Lib.hid HM1; clear HM1; simp only [List.set] at HM) | ((first | refine stbS rfl HM.out 0 rfl rfl rfl rfl rfl rfl ?_ | refine stbS rfl HM.out 1 rfl rfl rfl rfl rfl rfl ?_ | refine stbS rfl HM.out 2 rfl rfl rfl rfl rfl rfl ?_); intro W1 HM1; replace HM := Lib.hid HM1; clear HM1; simp only [lss, Nat.reduceAdd] at HM))) | ((with_reducible refine ibox (d := some 4) ?_); refine bxA rfl HM.out rfl ?_; intro g4 W1 HM1; replace HM := Lib.hid HM1; clear HM1) | ((with_reducible refine ialloc (d := some 6) ?_); refine alb rfl HM.out ?_; intro g6 W1 HM1; replace HM := Lib.hid HM1; clear HM1) | ((with_reducible refine ialloc ?_); refine alb rfl HM.out ?_; intro g1 W1 HM1; replace HM := Lib.hid HM1; clear HM1))
  exact bodyPost_ret (res_box_tmp rfl HM.out 0 rfl rfl rfl rfl) rfl ⟨by rw [HR.out]; rfl, HM.out.below⟩

end Go.Proofs.YtpjcjgikfplgnaaDoor
