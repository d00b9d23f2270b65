/- The reference's simple: the type of a node out of its parts. Printed by wip/tools/gen_simple.py. (fast) -/
import Derived.Test.YtpjcjgikfplgnaaDoorNamesA
import Derived.Test.YtpjcjgikfplgnaaDoorTypedB
namespace Go.Proofs.YtpjcjgikfplgnaaDoor
open Go.RowKit
set_option linter.unusedVariables false
set_option linter.unusedSimpArgs false
set_option maxRecDepth 100000

set_option maxHeartbeats 4000000 in
theorem simple_call (q : Option Addr) (c2 : Nat) (l : List SymD) (n : NodeD) (p : Option Addr) (c : Nat) (ts : List TyD) (w : World) (hop : n.op = 25) (hS : Sl w p (ts.flatMap TyD.cs)) (hf : ∀ t, t ∈ ts → t.form) (hl : ts.length ≤ 4611686018427387904) :
    Calls Tryd.prog 58 #[.agg n.cs.toArray, .slice p ts.length c, .slice q l.length c2] w fun e w' => e = .returned (resV (callF (fnF n.text.toList) ts)) ∧ Below w.heap.size w w' := by
  have HM := Lib.hid (Mem.start w)
  obtain ⟨op, kids, text, neg, hi, lo, sc, day⟩ := n
  obtain ⟨⟨⟨rk, ro⟩, re⟩, hr⟩ : ∃ r, callF (fnF text.toList) ts = r := ⟨_, rfl⟩
  have HS := Lib.hid hS
  have H1 := Lib.hid (fun W (h : Sl W p (ts.flatMap TyD.cs)) => (show Calls Tryd.prog 72 #[.string text, .slice p ts.length c] W fun e w' => e = .returned (.tuple #[.agg #[.int .i64 rk, .int .i64 ro], .int .i64 re]) ∧ Below W.heap.size W w' from by
    have h2 := rcall_any text p c ts W h hf hl
    rw [hr] at h2
    exact h2))
  have HR := Lib.hid hr
  clear hS hf hr
  obtain rfl : op = 25 := hop
  go_enter Tryd.func58, Tryd.ntmps58
  go_wp2_with (first | (go_at_call 72; (with_reducible refine (H1.out _ (HM.out.sl HS.out)).mono ?_); rintro e W1 ⟨rfl, hb⟩; replace HM := Lib.hid (HM.out.next hb); clear hb) | ((with_reducible refine igd ?_); (with_reducible refine skip_op ?_ ?_); (exact rfl)) | ((with_reducible refine iload ?_); first | refine ldb1 HM.out 0 rfl rfl rfl ?_ | refine ldb1 HM.out 1 rfl rfl rfl ?_ | refine ldb1 HM.out 2 rfl rfl rfl ?_ | refine ldbW HM.out 0 rfl rfl rfl ?_ | refine ldbW HM.out 1 rfl rfl rfl ?_ | refine ldbW HM.out 2 rfl rfl rfl ?_ | ((first | refine ldbS HM.out 0 rfl rfl rfl ?_ | refine ldbS HM.out 1 rfl rfl rfl ?_ | refine ldbS HM.out 2 rfl rfl rfl ?_); simp only [List.take, List.drop])) | ((with_reducible refine istore ?_); (first | ((first | refine stbW rfl HM.out 0 rfl rfl rfl rfl rfl rfl ?_ | refine stbW rfl HM.out 1 rfl rfl rfl rfl rfl rfl ?_ | refine stbW rfl HM.out 2 rfl rfl rfl rfl rfl rfl ?_); intro W1 HM1; replace HM := Lib.hid HM1; clear HM1; simp only [List.set] at HM) | ((first | refine stbS rfl HM.out 0 rfl rfl rfl rfl rfl rfl ?_ | refine stbS rfl HM.out 1 rfl rfl rfl rfl rfl rfl ?_ | refine stbS rfl HM.out 2 rfl rfl rfl rfl rfl rfl ?_); intro W1 HM1; replace HM := Lib.hid HM1; clear HM1; simp only [lss, Nat.reduceAdd] at HM))) | ((with_reducible refine ibox (d := some 3) ?_); refine bxA rfl HM.out rfl ?_; intro g3 W1 HM1; replace HM := Lib.hid HM1; clear HM1) | ((with_reducible refine ialloc (d := some 6) ?_); refine alb rfl HM.out ?_; intro g6 W1 HM1; replace HM := Lib.hid HM1; clear HM1))
  exact bodyPost_ret (res_box_tmp rfl HM.out 0 rfl rfl rfl rfl) rfl ⟨by rw [HR.out]; rfl, HM.out.below⟩

set_option maxHeartbeats 4000000 in
theorem simple_list (q : Option Addr) (c2 : Nat) (l : List SymD) (n : NodeD) (p : Option Addr) (c : Nat) (ts : List TyD) (w : World) (hop : n.op = 26) (hS : Sl w p (ts.flatMap TyD.cs)) (hf : ∀ t, t ∈ ts → t.form) (hl : ts.length ≤ 4611686018427387904) :
    Calls Tryd.prog 58 #[.agg n.cs.toArray, .slice p ts.length c, .slice q l.length c2] w fun e w' => e = .returned (resV ((itemsF ts, 0))) ∧ Below w.heap.size w w' := by
  have HM := Lib.hid (Mem.start w)
  obtain ⟨op, kids, text, neg, hi, lo, sc, day⟩ := n
  obtain ⟨⟨rk, ro⟩, hr⟩ : ∃ r, itemsF ts = r := ⟨_, rfl⟩
  have HS := Lib.hid hS
  have H1 := Lib.hid (fun W (h : Sl W p (ts.flatMap TyD.cs)) => (show Calls Tryd.prog 73 #[.slice p ts.length c] W fun e w' => e = .returned (.agg #[.int .i64 rk, .int .i64 ro]) ∧ Below W.heap.size W w' from by
    have h2 := ritems_any p c ts W h hf hl
    rw [hr] at h2
    exact h2))
  have HR := Lib.hid hr
  clear hS hf hr
  obtain rfl : op = 26 := hop
  go_enter Tryd.func58, Tryd.ntmps58
  go_wp2_with (first | (go_at_call 73; (with_reducible refine (H1.out _ (HM.out.sl HS.out)).mono ?_); rintro e W1 ⟨rfl, hb⟩; replace HM := Lib.hid (HM.out.next hb); clear hb) | ((with_reducible refine igd ?_); (with_reducible refine skip_op ?_ ?_); (exact rfl)) | ((with_reducible refine iload ?_); first | refine ldb1 HM.out 0 rfl rfl rfl ?_ | refine ldb1 HM.out 1 rfl rfl rfl ?_ | refine ldb1 HM.out 2 rfl rfl rfl ?_ | refine ldbW HM.out 0 rfl rfl rfl ?_ | refine ldbW HM.out 1 rfl rfl rfl ?_ | refine ldbW HM.out 2 rfl rfl rfl ?_ | ((first | refine ldbS HM.out 0 rfl rfl rfl ?_ | refine ldbS HM.out 1 rfl rfl rfl ?_ | refine ldbS HM.out 2 rfl rfl rfl ?_); simp only [List.take, List.drop])) | ((with_reducible refine istore ?_); (first | ((first | refine stbW rfl HM.out 0 rfl rfl rfl rfl rfl rfl ?_ | refine stbW rfl HM.out 1 rfl rfl rfl rfl rfl rfl ?_ | refine stbW rfl HM.out 2 rfl rfl rfl rfl rfl rfl ?_); intro W1 HM1; replace HM := Lib.hid HM1; clear HM1; simp only [List.set] at HM) | ((first | refine stbS rfl HM.out 0 rfl rfl rfl rfl rfl rfl ?_ | refine stbS rfl HM.out 1 rfl rfl rfl rfl rfl rfl ?_ | refine stbS rfl HM.out 2 rfl rfl rfl rfl rfl rfl ?_); intro W1 HM1; replace HM := Lib.hid HM1; clear HM1; simp only [lss, Nat.reduceAdd] at HM))) | ((with_reducible refine ibox (d := some 3) ?_); refine bxA rfl HM.out rfl ?_; intro g3 W1 HM1; replace HM := Lib.hid HM1; clear HM1) | ((with_reducible refine ialloc (d := some 6) ?_); refine alb rfl HM.out ?_; intro g6 W1 HM1; replace HM := Lib.hid HM1; clear HM1))
  exact bodyPost_ret (res_box_tmp rfl HM.out 0 rfl rfl rfl rfl) rfl ⟨by rw [HR.out]; rfl, HM.out.below⟩

set_option maxHeartbeats 4000000 in
theorem simple_name (q : Option Addr) (c2 : Nat) (l : List SymD) (n : NodeD) (p : Option Addr) (c k : Nat) (w : World) (hop : n.op = 7) (hL : Sl w q (l.flatMap SymD.cs)) (hl : l.length ≤ 4611686018427387904) :
    Calls Tryd.prog 58 #[.agg n.cs.toArray, .slice p k c, .slice q l.length c2] w fun e w' => e = .returned (resV (findF n.text l)) ∧ Below w.heap.size w w' := by
  have HM := Lib.hid (Mem.start w)
  obtain ⟨op, kids, text, neg, hi, lo, sc, day⟩ := n
  obtain ⟨⟨⟨rk, ro⟩, re⟩, hr⟩ : ∃ r, findF text l = r := ⟨_, rfl⟩
  have HS := Lib.hid hL
  have H1 := Lib.hid (fun W (h : Sl W q (l.flatMap SymD.cs)) => (show Calls Tryd.prog 69 #[.slice q l.length c2, .string text] W fun e w' => e = .returned (.tuple #[.agg #[.int .i64 rk, .int .i64 ro], .int .i64 re]) ∧ Below W.heap.size W w' from by
    have h2 := find_any q c2 l text W h hl
    rw [hr] at h2
    exact h2))
  have HR := Lib.hid hr
  clear hL hr
  obtain rfl : op = 7 := hop
  go_enter Tryd.func58, Tryd.ntmps58
  go_wp2_with (first | (go_at_call 69; (with_reducible refine (H1.out _ (HM.out.sl HS.out)).mono ?_); rintro e W1 ⟨rfl, hb⟩; replace HM := Lib.hid (HM.out.next hb); clear hb) | ((with_reducible refine igd ?_); (with_reducible refine skip_op ?_ ?_); (exact rfl)) | ((with_reducible refine iload ?_); first | refine ldb1 HM.out 0 rfl rfl rfl ?_ | refine ldb1 HM.out 1 rfl rfl rfl ?_ | refine ldb1 HM.out 2 rfl rfl rfl ?_ | refine ldbW HM.out 0 rfl rfl rfl ?_ | refine ldbW HM.out 1 rfl rfl rfl ?_ | refine ldbW HM.out 2 rfl rfl rfl ?_ | ((first | refine ldbS HM.out 0 rfl rfl rfl ?_ | refine ldbS HM.out 1 rfl rfl rfl ?_ | refine ldbS HM.out 2 rfl rfl rfl ?_); simp only [List.take, List.drop])) | ((with_reducible refine istore ?_); (first | ((first | refine stbW rfl HM.out 0 rfl rfl rfl rfl rfl rfl ?_ | refine stbW rfl HM.out 1 rfl rfl rfl rfl rfl rfl ?_ | refine stbW rfl HM.out 2 rfl rfl rfl rfl rfl rfl ?_); intro W1 HM1; replace HM := Lib.hid HM1; clear HM1; simp only [List.set] at HM) | ((first | refine stbS rfl HM.out 0 rfl rfl rfl rfl rfl rfl ?_ | refine stbS rfl HM.out 1 rfl rfl rfl rfl rfl rfl ?_ | refine stbS rfl HM.out 2 rfl rfl rfl rfl rfl rfl ?_); intro W1 HM1; replace HM := Lib.hid HM1; clear HM1; simp only [lss, Nat.reduceAdd] at HM))) | ((with_reducible refine ibox (d := some 3) ?_); refine bxA rfl HM.out rfl ?_; intro g3 W1 HM1; replace HM := Lib.hid HM1; clear HM1) | ((with_reducible refine ialloc (d := some 6) ?_); refine alb rfl HM.out ?_; intro g6 W1 HM1; replace HM := Lib.hid HM1; clear HM1))
  exact bodyPost_ret (res_box_tmp rfl HM.out 0 rfl rfl rfl rfl) rfl ⟨by rw [HR.out]; rfl, HM.out.below⟩

set_option maxHeartbeats 4000000 in
theorem simple_truths (q : Option Addr) (c2 : Nat) (l : List SymD) (n : NodeD) (p : Option Addr) (c k : Nat) (w : World) (hop : n.op = 2 ∨ n.op = 3)  :
    Calls Tryd.prog 58 #[.agg n.cs.toArray, .slice p k c, .slice q l.length c2] w fun e w' => e = .returned (resV ((⟨1, 0⟩, 0))) ∧ Below w.heap.size w w' := by
  have HM := Lib.hid (Mem.start w)
  obtain ⟨op, kids, text, neg, hi, lo, sc, day⟩ := n

  rcases hop with rfl | rfl
  all_goals
    go_enter Tryd.func58, Tryd.ntmps58
    go_wp2_with (first | (go_at_call 29; (with_reducible refine (rof_any _ _).mono ?_); rintro e W1 ⟨rfl, hb⟩; replace HM := Lib.hid (HM.out.next hb); clear hb) | ((with_reducible refine igd ?_); (with_reducible refine skip_op ?_ ?_); (exact rfl)) | ((with_reducible refine iload ?_); first | refine ldb1 HM.out 0 rfl rfl rfl ?_ | refine ldb1 HM.out 1 rfl rfl rfl ?_ | refine ldb1 HM.out 2 rfl rfl rfl ?_ | refine ldbW HM.out 0 rfl rfl rfl ?_ | refine ldbW HM.out 1 rfl rfl rfl ?_ | refine ldbW HM.out 2 rfl rfl rfl ?_ | ((first | refine ldbS HM.out 0 rfl rfl rfl ?_ | refine ldbS HM.out 1 rfl rfl rfl ?_ | refine ldbS HM.out 2 rfl rfl rfl ?_); simp only [List.take, List.drop])) | ((with_reducible refine istore ?_); (first | ((first | refine stbW rfl HM.out 0 rfl rfl rfl rfl rfl rfl ?_ | refine stbW rfl HM.out 1 rfl rfl rfl rfl rfl rfl ?_ | refine stbW rfl HM.out 2 rfl rfl rfl rfl rfl rfl ?_); intro W1 HM1; replace HM := Lib.hid HM1; clear HM1; simp only [List.set] at HM) | ((first | refine stbS rfl HM.out 0 rfl rfl rfl rfl rfl rfl ?_ | refine stbS rfl HM.out 1 rfl rfl rfl rfl rfl rfl ?_ | refine stbS rfl HM.out 2 rfl rfl rfl rfl rfl rfl ?_); intro W1 HM1; replace HM := Lib.hid HM1; clear HM1; simp only [lss, Nat.reduceAdd] at HM))) | ((with_reducible refine ibox (d := some 3) ?_); refine bxA rfl HM.out rfl ?_; intro g3 W1 HM1; replace HM := Lib.hid HM1; clear HM1) | ((with_reducible refine ialloc (d := some 6) ?_); refine alb rfl HM.out ?_; intro g6 W1 HM1; replace HM := Lib.hid HM1; clear HM1))
    exact bodyPost_ret (res_box_tmp rfl HM.out 0 rfl rfl rfl rfl) rfl ⟨rfl, HM.out.below⟩

set_option maxHeartbeats 4000000 in
theorem simple_numb (q : Option Addr) (c2 : Nat) (l : List SymD) (n : NodeD) (p : Option Addr) (c k : Nat) (w : World) (hop : n.op = 4)  :
    Calls Tryd.prog 58 #[.agg n.cs.toArray, .slice p k c, .slice q l.length c2] w fun e w' => e = .returned (resV ((⟨2, 0⟩, 0))) ∧ Below w.heap.size w w' := by
  have HM := Lib.hid (Mem.start w)
  obtain ⟨op, kids, text, neg, hi, lo, sc, day⟩ := n

  rcases hop with rfl
  all_goals
    go_enter Tryd.func58, Tryd.ntmps58
    go_wp2_with (first | (go_at_call 29; (with_reducible refine (rof_any _ _).mono ?_); rintro e W1 ⟨rfl, hb⟩; replace HM := Lib.hid (HM.out.next hb); clear hb) | ((with_reducible refine igd ?_); (with_reducible refine skip_op ?_ ?_); (exact rfl)) | ((with_reducible refine iload ?_); first | refine ldb1 HM.out 0 rfl rfl rfl ?_ | refine ldb1 HM.out 1 rfl rfl rfl ?_ | refine ldb1 HM.out 2 rfl rfl rfl ?_ | refine ldbW HM.out 0 rfl rfl rfl ?_ | refine ldbW HM.out 1 rfl rfl rfl ?_ | refine ldbW HM.out 2 rfl rfl rfl ?_ | ((first | refine ldbS HM.out 0 rfl rfl rfl ?_ | refine ldbS HM.out 1 rfl rfl rfl ?_ | refine ldbS HM.out 2 rfl rfl rfl ?_); simp only [List.take, List.drop])) | ((with_reducible refine istore ?_); (first | ((first | refine stbW rfl HM.out 0 rfl rfl rfl rfl rfl rfl ?_ | refine stbW rfl HM.out 1 rfl rfl rfl rfl rfl rfl ?_ | refine stbW rfl HM.out 2 rfl rfl rfl rfl rfl rfl ?_); intro W1 HM1; replace HM := Lib.hid HM1; clear HM1; simp only [List.set] at HM) | ((first | refine stbS rfl HM.out 0 rfl rfl rfl rfl rfl rfl ?_ | refine stbS rfl HM.out 1 rfl rfl rfl rfl rfl rfl ?_ | refine stbS rfl HM.out 2 rfl rfl rfl rfl rfl rfl ?_); intro W1 HM1; replace HM := Lib.hid HM1; clear HM1; simp only [lss, Nat.reduceAdd] at HM))) | ((with_reducible refine ibox (d := some 3) ?_); refine bxA rfl HM.out rfl ?_; intro g3 W1 HM1; replace HM := Lib.hid HM1; clear HM1) | ((with_reducible refine ialloc (d := some 6) ?_); refine alb rfl HM.out ?_; intro g6 W1 HM1; replace HM := Lib.hid HM1; clear HM1))
    exact bodyPost_ret (res_box_tmp rfl HM.out 0 rfl rfl rfl rfl) rfl ⟨rfl, HM.out.below⟩

set_option maxHeartbeats 4000000 in
theorem simple_text (q : Option Addr) (c2 : Nat) (l : List SymD) (n : NodeD) (p : Option Addr) (c k : Nat) (w : World) (hop : n.op = 5)  :
    Calls Tryd.prog 58 #[.agg n.cs.toArray, .slice p k c, .slice q l.length c2] w fun e w' => e = .returned (resV ((⟨3, 0⟩, 0))) ∧ Below w.heap.size w w' := by
  have HM := Lib.hid (Mem.start w)
  obtain ⟨op, kids, text, neg, hi, lo, sc, day⟩ := n

  rcases hop with rfl
  all_goals
    go_enter Tryd.func58, Tryd.ntmps58
    go_wp2_with (first | (go_at_call 29; (with_reducible refine (rof_any _ _).mono ?_); rintro e W1 ⟨rfl, hb⟩; replace HM := Lib.hid (HM.out.next hb); clear hb) | ((with_reducible refine igd ?_); (with_reducible refine skip_op ?_ ?_); (exact rfl)) | ((with_reducible refine iload ?_); first | refine ldb1 HM.out 0 rfl rfl rfl ?_ | refine ldb1 HM.out 1 rfl rfl rfl ?_ | refine ldb1 HM.out 2 rfl rfl rfl ?_ | refine ldbW HM.out 0 rfl rfl rfl ?_ | refine ldbW HM.out 1 rfl rfl rfl ?_ | refine ldbW HM.out 2 rfl rfl rfl ?_ | ((first | refine ldbS HM.out 0 rfl rfl rfl ?_ | refine ldbS HM.out 1 rfl rfl rfl ?_ | refine ldbS HM.out 2 rfl rfl rfl ?_); simp only [List.take, List.drop])) | ((with_reducible refine istore ?_); (first | ((first | refine stbW rfl HM.out 0 rfl rfl rfl rfl rfl rfl ?_ | refine stbW rfl HM.out 1 rfl rfl rfl rfl rfl rfl ?_ | refine stbW rfl HM.out 2 rfl rfl rfl rfl rfl rfl ?_); intro W1 HM1; replace HM := Lib.hid HM1; clear HM1; simp only [List.set] at HM) | ((first | refine stbS rfl HM.out 0 rfl rfl rfl rfl rfl rfl ?_ | refine stbS rfl HM.out 1 rfl rfl rfl rfl rfl rfl ?_ | refine stbS rfl HM.out 2 rfl rfl rfl rfl rfl rfl ?_); intro W1 HM1; replace HM := Lib.hid HM1; clear HM1; simp only [lss, Nat.reduceAdd] at HM))) | ((with_reducible refine ibox (d := some 3) ?_); refine bxA rfl HM.out rfl ?_; intro g3 W1 HM1; replace HM := Lib.hid HM1; clear HM1) | ((with_reducible refine ialloc (d := some 6) ?_); refine alb rfl HM.out ?_; intro g6 W1 HM1; replace HM := Lib.hid HM1; clear HM1))
    exact bodyPost_ret (res_box_tmp rfl HM.out 0 rfl rfl rfl rfl) rfl ⟨rfl, HM.out.below⟩

set_option maxHeartbeats 4000000 in
theorem simple_date (q : Option Addr) (c2 : Nat) (l : List SymD) (n : NodeD) (p : Option Addr) (c k : Nat) (w : World) (hop : n.op = 6)  :
    Calls Tryd.prog 58 #[.agg n.cs.toArray, .slice p k c, .slice q l.length c2] w fun e w' => e = .returned (resV ((⟨4, 0⟩, 0))) ∧ Below w.heap.size w w' := by
  have HM := Lib.hid (Mem.start w)
  obtain ⟨op, kids, text, neg, hi, lo, sc, day⟩ := n

  rcases hop with rfl
  all_goals
    go_enter Tryd.func58, Tryd.ntmps58
    go_wp2_with (first | (go_at_call 29; (with_reducible refine (rof_any _ _).mono ?_); rintro e W1 ⟨rfl, hb⟩; replace HM := Lib.hid (HM.out.next hb); clear hb) | ((with_reducible refine igd ?_); (with_reducible refine skip_op ?_ ?_); (exact rfl)) | ((with_reducible refine iload ?_); first | refine ldb1 HM.out 0 rfl rfl rfl ?_ | refine ldb1 HM.out 1 rfl rfl rfl ?_ | refine ldb1 HM.out 2 rfl rfl rfl ?_ | refine ldbW HM.out 0 rfl rfl rfl ?_ | refine ldbW HM.out 1 rfl rfl rfl ?_ | refine ldbW HM.out 2 rfl rfl rfl ?_ | ((first | refine ldbS HM.out 0 rfl rfl rfl ?_ | refine ldbS HM.out 1 rfl rfl rfl ?_ | refine ldbS HM.out 2 rfl rfl rfl ?_); simp only [List.take, List.drop])) | ((with_reducible refine istore ?_); (first | ((first | refine stbW rfl HM.out 0 rfl rfl rfl rfl rfl rfl ?_ | refine stbW rfl HM.out 1 rfl rfl rfl rfl rfl rfl ?_ | refine stbW rfl HM.out 2 rfl rfl rfl rfl rfl rfl ?_); intro W1 HM1; replace HM := Lib.hid HM1; clear HM1; simp only [List.set] at HM) | ((first | refine stbS rfl HM.out 0 rfl rfl rfl rfl rfl rfl ?_ | refine stbS rfl HM.out 1 rfl rfl rfl rfl rfl rfl ?_ | refine stbS rfl HM.out 2 rfl rfl rfl rfl rfl rfl ?_); intro W1 HM1; replace HM := Lib.hid HM1; clear HM1; simp only [lss, Nat.reduceAdd] at HM))) | ((with_reducible refine ibox (d := some 3) ?_); refine bxA rfl HM.out rfl ?_; intro g3 W1 HM1; replace HM := Lib.hid HM1; clear HM1) | ((with_reducible refine ialloc (d := some 6) ?_); refine alb rfl HM.out ?_; intro g6 W1 HM1; replace HM := Lib.hid HM1; clear HM1))
    exact bodyPost_ret (res_box_tmp rfl HM.out 0 rfl rfl rfl rfl) rfl ⟨rfl, HM.out.below⟩

set_option maxHeartbeats 4000000 in
theorem simple_else (q : Option Addr) (c2 : Nat) (l : List SymD) (n : NodeD) (p : Option Addr) (c k : Nat) (w : World) (hop : n.op < 2 ∨ n.op = 23 ∨ 26 < n.op)  :
    Calls Tryd.prog 58 #[.agg n.cs.toArray, .slice p k c, .slice q l.length c2] w fun e w' => e = .returned (resV ((⟨0, 0⟩, 0))) ∧ Below w.heap.size w w' := by
  have HM := Lib.hid (Mem.start w)
  obtain ⟨op, kids, text, neg, hi, lo, sc, day⟩ := n
  have b2 : (op == 2) = false := beq_false_of_ne (by have h : op < 2 ∨ op = 23 ∨ 26 < op := hop; omega)
  have b3 : (op == 3) = false := beq_false_of_ne (by have h : op < 2 ∨ op = 23 ∨ 26 < op := hop; omega)
  have b4 : (op == 4) = false := beq_false_of_ne (by have h : op < 2 ∨ op = 23 ∨ 26 < op := hop; omega)
  have b5 : (op == 5) = false := beq_false_of_ne (by have h : op < 2 ∨ op = 23 ∨ 26 < op := hop; omega)
  have b6 : (op == 6) = false := beq_false_of_ne (by have h : op < 2 ∨ op = 23 ∨ 26 < op := hop; omega)
  have b7 : (op == 7) = false := beq_false_of_ne (by have h : op < 2 ∨ op = 23 ∨ 26 < op := hop; omega)
  have b8 : (op == 8) = false := beq_false_of_ne (by have h : op < 2 ∨ op = 23 ∨ 26 < op := hop; omega)
  have b9 : (op == 9) = false := beq_false_of_ne (by have h : op < 2 ∨ op = 23 ∨ 26 < op := hop; omega)
  have b10 : (op == 10) = false := beq_false_of_ne (by have h : op < 2 ∨ op = 23 ∨ 26 < op := hop; omega)
  have b11 : (op == 11) = false := beq_false_of_ne (by have h : op < 2 ∨ op = 23 ∨ 26 < op := hop; omega)
  have b12 : (op == 12) = false := beq_false_of_ne (by have h : op < 2 ∨ op = 23 ∨ 26 < op := hop; omega)
  have b13 : (op == 13) = false := beq_false_of_ne (by have h : op < 2 ∨ op = 23 ∨ 26 < op := hop; omega)
  have b14 : (op == 14) = false := beq_false_of_ne (by have h : op < 2 ∨ op = 23 ∨ 26 < op := hop; omega)
  have b15 : (op == 15) = false := beq_false_of_ne (by have h : op < 2 ∨ op = 23 ∨ 26 < op := hop; omega)
  have b16 : (op == 16) = false := beq_false_of_ne (by have h : op < 2 ∨ op = 23 ∨ 26 < op := hop; omega)
  have b17 : (op == 17) = false := beq_false_of_ne (by have h : op < 2 ∨ op = 23 ∨ 26 < op := hop; omega)
  have b18 : (op == 18) = false := beq_false_of_ne (by have h : op < 2 ∨ op = 23 ∨ 26 < op := hop; omega)
  have b19 : (op == 19) = false := beq_false_of_ne (by have h : op < 2 ∨ op = 23 ∨ 26 < op := hop; omega)
  have b20 : (op == 20) = false := beq_false_of_ne (by have h : op < 2 ∨ op = 23 ∨ 26 < op := hop; omega)
  have b21 : (op == 21) = false := beq_false_of_ne (by have h : op < 2 ∨ op = 23 ∨ 26 < op := hop; omega)
  have b22 : (op == 22) = false := beq_false_of_ne (by have h : op < 2 ∨ op = 23 ∨ 26 < op := hop; omega)
  have b24 : (op == 24) = false := beq_false_of_ne (by have h : op < 2 ∨ op = 23 ∨ 26 < op := hop; omega)
  have b25 : (op == 25) = false := beq_false_of_ne (by have h : op < 2 ∨ op = 23 ∨ 26 < op := hop; omega)
  have b26 : (op == 26) = false := beq_false_of_ne (by have h : op < 2 ∨ op = 23 ∨ 26 < op := hop; omega)
  clear hop
  go_enter Tryd.func58, Tryd.ntmps58
  go_wp2_with (first | (go_at_call 29; (with_reducible refine (rof_any _ _).mono ?_); rintro e W1 ⟨rfl, hb⟩; replace HM := Lib.hid (HM.out.next hb); clear hb) | ((with_reducible refine igd ?_); (with_reducible refine skip_op ?_ ?_); (exact rfl)) | ((with_reducible refine iload ?_); first | refine ldb1 HM.out 0 rfl rfl rfl ?_ | refine ldb1 HM.out 1 rfl rfl rfl ?_ | refine ldb1 HM.out 2 rfl rfl rfl ?_ | refine ldbW HM.out 0 rfl rfl rfl ?_ | refine ldbW HM.out 1 rfl rfl rfl ?_ | refine ldbW HM.out 2 rfl rfl rfl ?_ | ((first | refine ldbS HM.out 0 rfl rfl rfl ?_ | refine ldbS HM.out 1 rfl rfl rfl ?_ | refine ldbS HM.out 2 rfl rfl rfl ?_); simp only [List.take, List.drop])) | ((with_reducible refine istore ?_); (first | ((first | refine stbW rfl HM.out 0 rfl rfl rfl rfl rfl rfl ?_ | refine stbW rfl HM.out 1 rfl rfl rfl rfl rfl rfl ?_ | refine stbW rfl HM.out 2 rfl rfl rfl rfl rfl rfl ?_); intro W1 HM1; replace HM := Lib.hid HM1; clear HM1; simp only [List.set] at HM) | ((first | refine stbS rfl HM.out 0 rfl rfl rfl rfl rfl rfl ?_ | refine stbS rfl HM.out 1 rfl rfl rfl rfl rfl rfl ?_ | refine stbS rfl HM.out 2 rfl rfl rfl rfl rfl rfl ?_); intro W1 HM1; replace HM := Lib.hid HM1; clear HM1; simp only [lss, Nat.reduceAdd] at HM))) | ((with_reducible refine ibox (d := some 3) ?_); refine bxA rfl HM.out rfl ?_; intro g3 W1 HM1; replace HM := Lib.hid HM1; clear HM1) | ((with_reducible refine ialloc (d := some 6) ?_); refine alb rfl HM.out ?_; intro g6 W1 HM1; replace HM := Lib.hid HM1; clear HM1))
  exact bodyPost_ret (res_box_tmp rfl HM.out 0 rfl rfl rfl rfl) rfl ⟨rfl, HM.out.below⟩

end Go.Proofs.YtpjcjgikfplgnaaDoor
