/- Function of check, at each of its names. Printed by wip/tools/gen_fn2.py. Function of check, at every name. Printed by wip/tools/gen_fn.py -two. -/
import Derived.Test.YtpjcjgikfplgnaaDoorCheckA
import Derived.Test.YtpjcjgikfplgnaaDoorSepA
namespace Go.Proofs.YtpjcjgikfplgnaaDoor
open Go.RowKit
set_option linter.unusedVariables false
set_option linter.unusedSimpArgs false
set_option maxRecDepth 100000

set_option maxHeartbeats 40000000 in
theorem fn_A (w : World) : Calls Tryd.prog 9 #[.string ⟨#[97, 98, 115]⟩] w (FnPost (some ([⟨2, 0⟩], ⟨2, 0⟩)) w) ∧
    Calls Tryd.prog 9 #[.string ⟨#[102, 108, 111, 111, 114]⟩] w (FnPost (some ([⟨2, 0⟩], ⟨2, 0⟩)) w) ∧
    Calls Tryd.prog 9 #[.string ⟨#[99, 101, 105, 108, 105, 110, 103]⟩] w (FnPost (some ([⟨2, 0⟩], ⟨2, 0⟩)) w) ∧
    Calls Tryd.prog 9 #[.string ⟨#[108, 101, 110, 103, 116, 104]⟩] w (FnPost (some ([⟨3, 0⟩], ⟨2, 0⟩)) w) ∧
    Calls Tryd.prog 9 #[.string ⟨#[117, 112, 112, 101, 114]⟩] w (FnPost (some ([⟨3, 0⟩], ⟨3, 0⟩)) w) ∧
    Calls Tryd.prog 9 #[.string ⟨#[108, 111, 119, 101, 114]⟩] w (FnPost (some ([⟨3, 0⟩], ⟨3, 0⟩)) w) ∧
    Calls Tryd.prog 9 #[.string ⟨#[100, 97, 116, 101]⟩] w (FnPost (some ([⟨3, 0⟩], ⟨4, 0⟩)) w) ∧
    Calls Tryd.prog 9 #[.string ⟨#[121, 101, 97, 114]⟩] w (FnPost (some ([⟨4, 0⟩], ⟨2, 0⟩)) w) ∧
    Calls Tryd.prog 9 #[.string ⟨#[109, 111, 110, 116, 104]⟩] w (FnPost (some ([⟨4, 0⟩], ⟨2, 0⟩)) w) ∧
    Calls Tryd.prog 9 #[.string ⟨#[100, 97, 121]⟩] w (FnPost (some ([⟨4, 0⟩], ⟨2, 0⟩)) w) ∧
    Calls Tryd.prog 9 #[.string ⟨#[119, 101, 101, 107, 100, 97, 121]⟩] w (FnPost (some ([⟨4, 0⟩], ⟨2, 0⟩)) w) ∧
    Calls Tryd.prog 9 #[.string ⟨#[110, 101, 103, 97, 116, 101]⟩] w (FnPost (some ([⟨1, 0⟩], ⟨1, 0⟩)) w) := by
  refine ⟨?_, ?_, ?_, ?_, ?_, ?_, ?_, ?_, ?_, ?_, ?_, ?_⟩
  all_goals
    have HM := Lib.hid (Mem.start w)
    go_enter Tryd.func9, Tryd.ntmps9
    go_wp2_with (first | (go_at_call 17; (with_reducible refine (cof_any _ _).mono ?_); rintro e W1 ⟨rfl, hb⟩; replace HM := Lib.hid (HM.out.next hb); clear hb) | (go_at_call 18; (with_reducible refine (clist_any _ _).mono ?_); rintro e W1 ⟨rfl, hb⟩; replace HM := Lib.hid (HM.out.next hb); clear hb) | (refine bs3T rfl HM.out rfl rfl rfl ?_; intro g1 W1 HM1; replace HM := Lib.hid HM1; clear HM1) | (refine bs2T rfl HM.out rfl rfl ?_; intro g1 W1 HM1; replace HM := Lib.hid HM1; clear HM1) | ((with_reducible refine iload ?_); first | refine ldbW HM.out 0 rfl rfl rfl ?_ | refine ldbW HM.out 1 rfl rfl rfl ?_ | refine ldbW HM.out 2 rfl rfl rfl ?_ | refine ldbW HM.out 3 rfl rfl rfl ?_ | refine ldbW HM.out 4 rfl rfl rfl ?_ | refine ldbW HM.out 5 rfl rfl rfl ?_ | refine ldbW HM.out 6 rfl rfl rfl ?_ | ((first | refine ldbS HM.out 0 rfl rfl rfl ?_ | refine ldbS HM.out 1 rfl rfl rfl ?_ | refine ldbS HM.out 2 rfl rfl rfl ?_ | refine ldbS HM.out 3 rfl rfl rfl ?_ | refine ldbS HM.out 4 rfl rfl rfl ?_ | refine ldbS HM.out 5 rfl rfl rfl ?_ | refine ldbS HM.out 6 rfl rfl rfl ?_); simp only [List.take, List.drop])) | ((with_reducible refine istore ?_); (first | ((first | refine stbW rfl HM.out 0 rfl rfl rfl rfl rfl rfl ?_ | refine stbW rfl HM.out 1 rfl rfl rfl rfl rfl rfl ?_ | refine stbW rfl HM.out 2 rfl rfl rfl rfl rfl rfl ?_ | refine stbW rfl HM.out 3 rfl rfl rfl rfl rfl rfl ?_ | refine stbW rfl HM.out 4 rfl rfl rfl rfl rfl rfl ?_ | refine stbW rfl HM.out 5 rfl rfl rfl rfl rfl rfl ?_ | refine stbW rfl HM.out 6 rfl rfl rfl rfl rfl rfl ?_); intro W1 HM1; replace HM := Lib.hid HM1; clear HM1; simp only [List.set] at HM) | ((first | refine stbS rfl HM.out 0 rfl rfl rfl rfl rfl rfl ?_ | refine stbS rfl HM.out 1 rfl rfl rfl rfl rfl rfl ?_ | refine stbS rfl HM.out 2 rfl rfl rfl rfl rfl rfl ?_ | refine stbS rfl HM.out 3 rfl rfl rfl rfl rfl rfl ?_ | refine stbS rfl HM.out 4 rfl rfl rfl rfl rfl rfl ?_ | refine stbS rfl HM.out 5 rfl rfl rfl rfl rfl rfl ?_ | refine stbS rfl HM.out 6 rfl rfl rfl rfl rfl rfl ?_); intro W1 HM1; replace HM := Lib.hid HM1; clear HM1; simp only [lss, Nat.reduceAdd] at HM))) | ((with_reducible refine ibuildSlice ?_); refine bs1A rfl HM.out rfl rfl rfl ?_; intro g1 W1 HM1; replace HM := Lib.hid HM1; clear HM1) | ((with_reducible refine ialloc ?_); refine alb rfl HM.out ?_; intro g1 W1 HM1; replace HM := Lib.hid HM1; clear HM1))
    refine wp_region_steps2 [(true, 0), (true, 2), (false, 1), (true, 3), (false, 4)] (by kernel_rfl) (by kernel_rfl) rfl (by kernel_rfl) (fun _ _ _ _ _ h => h) HM.out _ (.cons _ (.cons_cons _ (.cons_cons _ (.cons_cons _ (.cons_cons _ (.cons_cons _ .slnil)))))) ?_
    intro hNE W1 HM1; replace HM := Lib.hid HM1; clear HM1
    have HS0 := Lib.hid (HM.out.sub (.cons _ (.cons_cons _ (.cons_cons _ (.cons_cons _ (.cons_cons _ (.cons_cons _ .slnil)))))))
    simp only [wpSteps, List.getElem?_cons_succ, List.getElem?_cons_zero]
    (repeat (first | ((with_reducible refine wpQuiet_nil ?_); (try dsimp only)) | ((with_reducible refine qload ?_); first | (refine qdbW HS0.out 0 rfl rfl rfl ?_) | (refine qdbW HS0.out 1 rfl rfl rfl ?_) | (refine qdbW HS0.out 2 rfl rfl rfl ?_) | (refine qdbW HS0.out 3 rfl rfl rfl ?_) | (refine qdbW HS0.out 4 rfl rfl rfl ?_) | (refine qdbS HS0.out 0 rfl rfl rfl ?_; simp only [List.take, List.drop]) | (refine qdbS HS0.out 1 rfl rfl rfl ?_; simp only [List.take, List.drop]) | (refine qdbS HS0.out 2 rfl rfl rfl ?_; simp only [List.take, List.drop]) | (refine qdbS HS0.out 3 rfl rfl rfl ?_; simp only [List.take, List.drop]) | (refine qdbS HS0.out 4 rfl rfl rfl ?_; simp only [List.take, List.drop])) | go_big_quiet_step (fail) | quiet_step (fail)))
    go_wp2_with (first | (refine bs3T rfl HM.out rfl rfl rfl ?_; intro g1 W1 HM1; replace HM := Lib.hid HM1; clear HM1) | (refine bs2T rfl HM.out rfl rfl ?_; intro g1 W1 HM1; replace HM := Lib.hid HM1; clear HM1) | ((with_reducible refine ibuildSlice ?_); refine bs1A rfl HM.out rfl rfl rfl ?_; intro g1 W1 HM1; replace HM := Lib.hid HM1; clear HM1))
    refine ⟨⟨⟨_, HM.out.sub (by repeat (first | exact List.nil_sublist _ | with_reducible refine List.Sublist.cons_cons _ ?_ | refine List.Sublist.cons _ ?_))⟩, rfl⟩, ?_⟩
    (try dsimp only)
    (repeat (first | ((with_reducible refine wpQuiet_nil ?_); (try dsimp only)) | go_big_quiet_step (fail) | quiet_step (fail)))
    go_wp2_with (first | ((with_reducible refine istore ?_); (first | ((first | refine stbW rfl HM.out 0 rfl rfl rfl rfl rfl rfl ?_ | refine stbW rfl HM.out 1 rfl rfl rfl rfl rfl rfl ?_ | refine stbW rfl HM.out 2 rfl rfl rfl rfl rfl rfl ?_ | refine stbW rfl HM.out 3 rfl rfl rfl rfl rfl rfl ?_ | refine stbW rfl HM.out 4 rfl rfl rfl rfl rfl rfl ?_ | refine stbW rfl HM.out 5 rfl rfl rfl rfl rfl rfl ?_ | refine stbW rfl HM.out 6 rfl rfl rfl rfl rfl rfl ?_); intro W1 HM1; replace HM := Lib.hid HM1; clear HM1; simp only [List.set] at HM) | ((first | refine stbS rfl HM.out 0 rfl rfl rfl rfl rfl rfl ?_ | refine stbS rfl HM.out 1 rfl rfl rfl rfl rfl rfl ?_ | refine stbS rfl HM.out 2 rfl rfl rfl rfl rfl rfl ?_ | refine stbS rfl HM.out 3 rfl rfl rfl rfl rfl rfl ?_ | refine stbS rfl HM.out 4 rfl rfl rfl rfl rfl rfl ?_ | refine stbS rfl HM.out 5 rfl rfl rfl rfl rfl rfl ?_ | refine stbS rfl HM.out 6 rfl rfl rfl rfl rfl rfl ?_); intro W1 HM1; replace HM := Lib.hid HM1; clear HM1; simp only [lss, Nat.reduceAdd] at HM))))
    refine ⟨⟨⟨_, HM.out.sub (by repeat (first | exact List.nil_sublist _ | with_reducible refine List.Sublist.cons_cons _ ?_ | refine List.Sublist.cons _ ?_))⟩, rfl⟩, ?_⟩
    (try dsimp only)
    clear HS0 hNE
    go_wp2_with fail
    refine wp_region_steps2 [(true, 0), (true, 1), (true, 2), (false, 3), (true, 4)] (by kernel_rfl) (by kernel_rfl) rfl (by kernel_rfl) (fun _ _ _ _ _ h => h) HM.out _ (.cons_cons _ (.cons_cons _ (List.nil_sublist _))) ?_
    intro hNE W1 HM1; replace HM := Lib.hid HM1; clear HM1
    have HS0 := Lib.hid (HM.out.sub (.cons_cons _ (.cons_cons _ (List.nil_sublist _))))
    simp only [wpSteps, List.getElem?_cons_succ, List.getElem?_cons_zero]
    (repeat (first | ((with_reducible refine wpQuiet_nil ?_); (try dsimp only)) | ((with_reducible refine qload ?_); first | (refine qdbW HS0.out 0 rfl rfl rfl ?_) | (refine qdbW HS0.out 1 rfl rfl rfl ?_) | (refine qdbS HS0.out 0 rfl rfl rfl ?_; simp only [List.take, List.drop]) | (refine qdbS HS0.out 1 rfl rfl rfl ?_; simp only [List.take, List.drop])) | go_big_quiet_step (fail) | quiet_step (fail)))
    go_wp2_with (first | ((with_reducible refine istore ?_); (first | ((first | refine stbW rfl HM.out 0 rfl rfl rfl rfl rfl rfl ?_ | refine stbW rfl HM.out 1 rfl rfl rfl rfl rfl rfl ?_ | refine stbW rfl HM.out 2 rfl rfl rfl rfl rfl rfl ?_ | refine stbW rfl HM.out 3 rfl rfl rfl rfl rfl rfl ?_ | refine stbW rfl HM.out 4 rfl rfl rfl rfl rfl rfl ?_ | refine stbW rfl HM.out 5 rfl rfl rfl rfl rfl rfl ?_ | refine stbW rfl HM.out 6 rfl rfl rfl rfl rfl rfl ?_); intro W1 HM1; replace HM := Lib.hid HM1; clear HM1; simp only [List.set] at HM) | ((first | refine stbS rfl HM.out 0 rfl rfl rfl rfl rfl rfl ?_ | refine stbS rfl HM.out 1 rfl rfl rfl rfl rfl rfl ?_ | refine stbS rfl HM.out 2 rfl rfl rfl rfl rfl rfl ?_ | refine stbS rfl HM.out 3 rfl rfl rfl rfl rfl rfl ?_ | refine stbS rfl HM.out 4 rfl rfl rfl rfl rfl rfl ?_ | refine stbS rfl HM.out 5 rfl rfl rfl rfl rfl rfl ?_ | refine stbS rfl HM.out 6 rfl rfl rfl rfl rfl rfl ?_); intro W1 HM1; replace HM := Lib.hid HM1; clear HM1; simp only [lss, Nat.reduceAdd] at HM))))
    refine ⟨⟨⟨_, HM.out.sub (by repeat (first | exact List.nil_sublist _ | with_reducible refine List.Sublist.cons_cons _ ?_ | refine List.Sublist.cons _ ?_))⟩, rfl⟩, ?_⟩
    (try dsimp only)
    (repeat (first | ((with_reducible refine wpQuiet_nil ?_); (try dsimp only)) | go_big_quiet_step (fail) | quiet_step (fail)))
    clear HS0 hNE
    go_wp2_with fail
    exact bodyPost_ret (res_tmp_box_tmp rfl HM.out 6 rfl rfl rfl rfl rfl) rfl ⟨_, rfl, (HM.out.turn0 (k := 0) rfl (box_row (HM.out.get (k := 0) rfl) rfl (by decide)) (fun g e => e)).sub (.cons_cons _ (List.nil_sublist _))⟩

theorem fn_abs (w : World) : Calls Tryd.prog 9 #[.string ⟨#[97, 98, 115]⟩] w (FnPost (some ([⟨2, 0⟩], ⟨2, 0⟩)) w) := (fn_A w).1
theorem fn_floor (w : World) : Calls Tryd.prog 9 #[.string ⟨#[102, 108, 111, 111, 114]⟩] w (FnPost (some ([⟨2, 0⟩], ⟨2, 0⟩)) w) := (fn_A w).2.1
theorem fn_ceiling (w : World) : Calls Tryd.prog 9 #[.string ⟨#[99, 101, 105, 108, 105, 110, 103]⟩] w (FnPost (some ([⟨2, 0⟩], ⟨2, 0⟩)) w) := (fn_A w).2.2.1
theorem fn_length (w : World) : Calls Tryd.prog 9 #[.string ⟨#[108, 101, 110, 103, 116, 104]⟩] w (FnPost (some ([⟨3, 0⟩], ⟨2, 0⟩)) w) := (fn_A w).2.2.2.1
theorem fn_upper (w : World) : Calls Tryd.prog 9 #[.string ⟨#[117, 112, 112, 101, 114]⟩] w (FnPost (some ([⟨3, 0⟩], ⟨3, 0⟩)) w) := (fn_A w).2.2.2.2.1
theorem fn_lower (w : World) : Calls Tryd.prog 9 #[.string ⟨#[108, 111, 119, 101, 114]⟩] w (FnPost (some ([⟨3, 0⟩], ⟨3, 0⟩)) w) := (fn_A w).2.2.2.2.2.1
theorem fn_date (w : World) : Calls Tryd.prog 9 #[.string ⟨#[100, 97, 116, 101]⟩] w (FnPost (some ([⟨3, 0⟩], ⟨4, 0⟩)) w) := (fn_A w).2.2.2.2.2.2.1
theorem fn_year (w : World) : Calls Tryd.prog 9 #[.string ⟨#[121, 101, 97, 114]⟩] w (FnPost (some ([⟨4, 0⟩], ⟨2, 0⟩)) w) := (fn_A w).2.2.2.2.2.2.2.1
theorem fn_month (w : World) : Calls Tryd.prog 9 #[.string ⟨#[109, 111, 110, 116, 104]⟩] w (FnPost (some ([⟨4, 0⟩], ⟨2, 0⟩)) w) := (fn_A w).2.2.2.2.2.2.2.2.1
theorem fn_day (w : World) : Calls Tryd.prog 9 #[.string ⟨#[100, 97, 121]⟩] w (FnPost (some ([⟨4, 0⟩], ⟨2, 0⟩)) w) := (fn_A w).2.2.2.2.2.2.2.2.2.1
theorem fn_weekday (w : World) : Calls Tryd.prog 9 #[.string ⟨#[119, 101, 101, 107, 100, 97, 121]⟩] w (FnPost (some ([⟨4, 0⟩], ⟨2, 0⟩)) w) := (fn_A w).2.2.2.2.2.2.2.2.2.2.1
theorem fn_negate (w : World) : Calls Tryd.prog 9 #[.string ⟨#[110, 101, 103, 97, 116, 101]⟩] w (FnPost (some ([⟨1, 0⟩], ⟨1, 0⟩)) w) := (fn_A w).2.2.2.2.2.2.2.2.2.2.2

set_option maxHeartbeats 40000000 in
theorem fn_B (w : World) : Calls Tryd.prog 9 #[.string ⟨#[114, 111, 117, 110, 100]⟩] w (FnPost (some ([⟨2, 0⟩, ⟨2, 0⟩], ⟨2, 0⟩)) w) ∧
    Calls Tryd.prog 9 #[.string ⟨#[109, 111, 100, 117, 108, 111]⟩] w (FnPost (some ([⟨2, 0⟩, ⟨2, 0⟩], ⟨2, 0⟩)) w) ∧
    Calls Tryd.prog 9 #[.string ⟨#[99, 111, 110, 116, 97, 105, 110, 115]⟩] w (FnPost (some ([⟨3, 0⟩, ⟨3, 0⟩], ⟨1, 0⟩)) w) ∧
    Calls Tryd.prog 9 #[.string ⟨#[115, 116, 97, 114, 116, 115]⟩] w (FnPost (some ([⟨3, 0⟩, ⟨3, 0⟩], ⟨1, 0⟩)) w) ∧
    Calls Tryd.prog 9 #[.string ⟨#[100, 97, 121, 115]⟩] w (FnPost (some ([⟨4, 0⟩, ⟨2, 0⟩], ⟨4, 0⟩)) w) ∧
    Calls Tryd.prog 9 #[.string ⟨#[109, 111, 110, 116, 104, 115]⟩] w (FnPost (some ([⟨4, 0⟩, ⟨2, 0⟩], ⟨4, 0⟩)) w) := by
  refine ⟨?_, ?_, ?_, ?_, ?_, ?_⟩
  all_goals
    have HM := Lib.hid (Mem.start w)
    go_enter Tryd.func9, Tryd.ntmps9
    go_wp2_with (first | (go_at_call 17; (with_reducible refine (cof_any _ _).mono ?_); rintro e W1 ⟨rfl, hb⟩; replace HM := Lib.hid (HM.out.next hb); clear hb) | (go_at_call 18; (with_reducible refine (clist_any _ _).mono ?_); rintro e W1 ⟨rfl, hb⟩; replace HM := Lib.hid (HM.out.next hb); clear hb) | (refine bs3T rfl HM.out rfl rfl rfl ?_; intro g1 W1 HM1; replace HM := Lib.hid HM1; clear HM1) | (refine bs2T rfl HM.out rfl rfl ?_; intro g1 W1 HM1; replace HM := Lib.hid HM1; clear HM1) | ((with_reducible refine iload ?_); first | refine ldbW HM.out 0 rfl rfl rfl ?_ | refine ldbW HM.out 1 rfl rfl rfl ?_ | refine ldbW HM.out 2 rfl rfl rfl ?_ | refine ldbW HM.out 3 rfl rfl rfl ?_ | refine ldbW HM.out 4 rfl rfl rfl ?_ | refine ldbW HM.out 5 rfl rfl rfl ?_ | refine ldbW HM.out 6 rfl rfl rfl ?_ | ((first | refine ldbS HM.out 0 rfl rfl rfl ?_ | refine ldbS HM.out 1 rfl rfl rfl ?_ | refine ldbS HM.out 2 rfl rfl rfl ?_ | refine ldbS HM.out 3 rfl rfl rfl ?_ | refine ldbS HM.out 4 rfl rfl rfl ?_ | refine ldbS HM.out 5 rfl rfl rfl ?_ | refine ldbS HM.out 6 rfl rfl rfl ?_); simp only [List.take, List.drop])) | ((with_reducible refine istore ?_); (first | ((first | refine stbW rfl HM.out 0 rfl rfl rfl rfl rfl rfl ?_ | refine stbW rfl HM.out 1 rfl rfl rfl rfl rfl rfl ?_ | refine stbW rfl HM.out 2 rfl rfl rfl rfl rfl rfl ?_ | refine stbW rfl HM.out 3 rfl rfl rfl rfl rfl rfl ?_ | refine stbW rfl HM.out 4 rfl rfl rfl rfl rfl rfl ?_ | refine stbW rfl HM.out 5 rfl rfl rfl rfl rfl rfl ?_ | refine stbW rfl HM.out 6 rfl rfl rfl rfl rfl rfl ?_); intro W1 HM1; replace HM := Lib.hid HM1; clear HM1; simp only [List.set] at HM) | ((first | refine stbS rfl HM.out 0 rfl rfl rfl rfl rfl rfl ?_ | refine stbS rfl HM.out 1 rfl rfl rfl rfl rfl rfl ?_ | refine stbS rfl HM.out 2 rfl rfl rfl rfl rfl rfl ?_ | refine stbS rfl HM.out 3 rfl rfl rfl rfl rfl rfl ?_ | refine stbS rfl HM.out 4 rfl rfl rfl rfl rfl rfl ?_ | refine stbS rfl HM.out 5 rfl rfl rfl rfl rfl rfl ?_ | refine stbS rfl HM.out 6 rfl rfl rfl rfl rfl rfl ?_); intro W1 HM1; replace HM := Lib.hid HM1; clear HM1; simp only [lss, Nat.reduceAdd] at HM))) | ((with_reducible refine ibuildSlice ?_); refine bs1A rfl HM.out rfl rfl rfl ?_; intro g1 W1 HM1; replace HM := Lib.hid HM1; clear HM1) | ((with_reducible refine ialloc ?_); refine alb rfl HM.out ?_; intro g1 W1 HM1; replace HM := Lib.hid HM1; clear HM1))
    refine wp_region_steps2 [(true, 0), (true, 1), (true, 3), (false, 2), (true, 4), (false, 5)] (by kernel_rfl) (by kernel_rfl) rfl (by kernel_rfl) (fun _ _ _ _ _ h => h) HM.out _ (.cons _ (.cons_cons _ (.cons_cons _ (.cons_cons _ (.cons_cons _ (.cons_cons _ .slnil)))))) ?_
    intro hNE W1 HM1; replace HM := Lib.hid HM1; clear HM1
    have HS0 := Lib.hid (HM.out.sub (.cons _ (.cons_cons _ (.cons_cons _ (.cons_cons _ (.cons_cons _ (.cons_cons _ .slnil)))))))
    simp only [wpSteps, List.getElem?_cons_succ, List.getElem?_cons_zero]
    (repeat (first | ((with_reducible refine wpQuiet_nil ?_); (try dsimp only)) | ((with_reducible refine qload ?_); first | (refine qdbW HS0.out 0 rfl rfl rfl ?_) | (refine qdbW HS0.out 1 rfl rfl rfl ?_) | (refine qdbW HS0.out 2 rfl rfl rfl ?_) | (refine qdbW HS0.out 3 rfl rfl rfl ?_) | (refine qdbW HS0.out 4 rfl rfl rfl ?_) | (refine qdbS HS0.out 0 rfl rfl rfl ?_; simp only [List.take, List.drop]) | (refine qdbS HS0.out 1 rfl rfl rfl ?_; simp only [List.take, List.drop]) | (refine qdbS HS0.out 2 rfl rfl rfl ?_; simp only [List.take, List.drop]) | (refine qdbS HS0.out 3 rfl rfl rfl ?_; simp only [List.take, List.drop]) | (refine qdbS HS0.out 4 rfl rfl rfl ?_; simp only [List.take, List.drop])) | go_big_quiet_step (fail) | quiet_step (fail)))
    go_wp2_with (first | (refine bs3T rfl HM.out rfl rfl rfl ?_; intro g1 W1 HM1; replace HM := Lib.hid HM1; clear HM1) | (refine bs2T rfl HM.out rfl rfl ?_; intro g1 W1 HM1; replace HM := Lib.hid HM1; clear HM1))
    refine ⟨⟨⟨_, HM.out.sub (by repeat (first | exact List.nil_sublist _ | with_reducible refine List.Sublist.cons_cons _ ?_ | refine List.Sublist.cons _ ?_))⟩, rfl⟩, ?_⟩
    (try dsimp only)
    (repeat (first | ((with_reducible refine wpQuiet_nil ?_); (try dsimp only)) | go_big_quiet_step (fail) | quiet_step (fail)))
    go_wp2_with (first | ((with_reducible refine istore ?_); (first | ((first | refine stbW rfl HM.out 0 rfl rfl rfl rfl rfl rfl ?_ | refine stbW rfl HM.out 1 rfl rfl rfl rfl rfl rfl ?_ | refine stbW rfl HM.out 2 rfl rfl rfl rfl rfl rfl ?_ | refine stbW rfl HM.out 3 rfl rfl rfl rfl rfl rfl ?_ | refine stbW rfl HM.out 4 rfl rfl rfl rfl rfl rfl ?_ | refine stbW rfl HM.out 5 rfl rfl rfl rfl rfl rfl ?_ | refine stbW rfl HM.out 6 rfl rfl rfl rfl rfl rfl ?_); intro W1 HM1; replace HM := Lib.hid HM1; clear HM1; simp only [List.set] at HM) | ((first | refine stbS rfl HM.out 0 rfl rfl rfl rfl rfl rfl ?_ | refine stbS rfl HM.out 1 rfl rfl rfl rfl rfl rfl ?_ | refine stbS rfl HM.out 2 rfl rfl rfl rfl rfl rfl ?_ | refine stbS rfl HM.out 3 rfl rfl rfl rfl rfl rfl ?_ | refine stbS rfl HM.out 4 rfl rfl rfl rfl rfl rfl ?_ | refine stbS rfl HM.out 5 rfl rfl rfl rfl rfl rfl ?_ | refine stbS rfl HM.out 6 rfl rfl rfl rfl rfl rfl ?_); intro W1 HM1; replace HM := Lib.hid HM1; clear HM1; simp only [lss, Nat.reduceAdd] at HM))))
    refine ⟨⟨⟨_, HM.out.sub (by repeat (first | exact List.nil_sublist _ | with_reducible refine List.Sublist.cons_cons _ ?_ | refine List.Sublist.cons _ ?_))⟩, rfl⟩, ?_⟩
    (try dsimp only)
    clear HS0 hNE
    go_wp2_with fail
    refine wp_region_steps2 [(true, 0), (true, 1), (true, 2), (false, 3), (true, 4)] (by kernel_rfl) (by kernel_rfl) rfl (by kernel_rfl) (fun _ _ _ _ _ h => h) HM.out _ (.cons_cons _ (.cons_cons _ (List.nil_sublist _))) ?_
    intro hNE W1 HM1; replace HM := Lib.hid HM1; clear HM1
    have HS0 := Lib.hid (HM.out.sub (.cons_cons _ (.cons_cons _ (List.nil_sublist _))))
    simp only [wpSteps, List.getElem?_cons_succ, List.getElem?_cons_zero]
    (repeat (first | ((with_reducible refine wpQuiet_nil ?_); (try dsimp only)) | ((with_reducible refine qload ?_); first | (refine qdbW HS0.out 0 rfl rfl rfl ?_) | (refine qdbW HS0.out 1 rfl rfl rfl ?_) | (refine qdbS HS0.out 0 rfl rfl rfl ?_; simp only [List.take, List.drop]) | (refine qdbS HS0.out 1 rfl rfl rfl ?_; simp only [List.take, List.drop])) | go_big_quiet_step (fail) | quiet_step (fail)))
    go_wp2_with (first | ((with_reducible refine istore ?_); (first | ((first | refine stbW rfl HM.out 0 rfl rfl rfl rfl rfl rfl ?_ | refine stbW rfl HM.out 1 rfl rfl rfl rfl rfl rfl ?_ | refine stbW rfl HM.out 2 rfl rfl rfl rfl rfl rfl ?_ | refine stbW rfl HM.out 3 rfl rfl rfl rfl rfl rfl ?_ | refine stbW rfl HM.out 4 rfl rfl rfl rfl rfl rfl ?_ | refine stbW rfl HM.out 5 rfl rfl rfl rfl rfl rfl ?_ | refine stbW rfl HM.out 6 rfl rfl rfl rfl rfl rfl ?_); intro W1 HM1; replace HM := Lib.hid HM1; clear HM1; simp only [List.set] at HM) | ((first | refine stbS rfl HM.out 0 rfl rfl rfl rfl rfl rfl ?_ | refine stbS rfl HM.out 1 rfl rfl rfl rfl rfl rfl ?_ | refine stbS rfl HM.out 2 rfl rfl rfl rfl rfl rfl ?_ | refine stbS rfl HM.out 3 rfl rfl rfl rfl rfl rfl ?_ | refine stbS rfl HM.out 4 rfl rfl rfl rfl rfl rfl ?_ | refine stbS rfl HM.out 5 rfl rfl rfl rfl rfl rfl ?_ | refine stbS rfl HM.out 6 rfl rfl rfl rfl rfl rfl ?_); intro W1 HM1; replace HM := Lib.hid HM1; clear HM1; simp only [lss, Nat.reduceAdd] at HM))))
    refine ⟨⟨⟨_, HM.out.sub (by repeat (first | exact List.nil_sublist _ | with_reducible refine List.Sublist.cons_cons _ ?_ | refine List.Sublist.cons _ ?_))⟩, rfl⟩, ?_⟩
    (try dsimp only)
    (repeat (first | ((with_reducible refine wpQuiet_nil ?_); (try dsimp only)) | go_big_quiet_step (fail) | quiet_step (fail)))
    clear HS0 hNE
    go_wp2_with fail
    exact bodyPost_ret (res_tmp_box_tmp rfl HM.out 6 rfl rfl rfl rfl rfl) rfl ⟨_, rfl, (HM.out.turn0 (k := 0) rfl (box_row (HM.out.get (k := 0) rfl) rfl (by decide)) (fun g e => e)).sub (.cons_cons _ (List.nil_sublist _))⟩

theorem fn_round (w : World) : Calls Tryd.prog 9 #[.string ⟨#[114, 111, 117, 110, 100]⟩] w (FnPost (some ([⟨2, 0⟩, ⟨2, 0⟩], ⟨2, 0⟩)) w) := (fn_B w).1
theorem fn_modulo (w : World) : Calls Tryd.prog 9 #[.string ⟨#[109, 111, 100, 117, 108, 111]⟩] w (FnPost (some ([⟨2, 0⟩, ⟨2, 0⟩], ⟨2, 0⟩)) w) := (fn_B w).2.1
theorem fn_contains (w : World) : Calls Tryd.prog 9 #[.string ⟨#[99, 111, 110, 116, 97, 105, 110, 115]⟩] w (FnPost (some ([⟨3, 0⟩, ⟨3, 0⟩], ⟨1, 0⟩)) w) := (fn_B w).2.2.1
theorem fn_starts (w : World) : Calls Tryd.prog 9 #[.string ⟨#[115, 116, 97, 114, 116, 115]⟩] w (FnPost (some ([⟨3, 0⟩, ⟨3, 0⟩], ⟨1, 0⟩)) w) := (fn_B w).2.2.2.1
theorem fn_days (w : World) : Calls Tryd.prog 9 #[.string ⟨#[100, 97, 121, 115]⟩] w (FnPost (some ([⟨4, 0⟩, ⟨2, 0⟩], ⟨4, 0⟩)) w) := (fn_B w).2.2.2.2.1
theorem fn_months (w : World) : Calls Tryd.prog 9 #[.string ⟨#[109, 111, 110, 116, 104, 115]⟩] w (FnPost (some ([⟨4, 0⟩, ⟨2, 0⟩], ⟨4, 0⟩)) w) := (fn_B w).2.2.2.2.2

set_option maxHeartbeats 40000000 in
theorem fn_L (w : World) : Calls Tryd.prog 9 #[.string ⟨#[109, 105, 110]⟩] w (FnPost (some ([⟨5, 2⟩], ⟨2, 0⟩)) w) ∧
    Calls Tryd.prog 9 #[.string ⟨#[109, 97, 120]⟩] w (FnPost (some ([⟨5, 2⟩], ⟨2, 0⟩)) w) ∧
    Calls Tryd.prog 9 #[.string ⟨#[115, 117, 109]⟩] w (FnPost (some ([⟨5, 2⟩], ⟨2, 0⟩)) w) ∧
    Calls Tryd.prog 9 #[.string ⟨#[99, 111, 117, 110, 116]⟩] w (FnPost (some ([⟨5, 0⟩], ⟨2, 0⟩)) w) ∧
    Calls Tryd.prog 9 #[.string ⟨#[115, 116, 114, 105, 110, 103]⟩] w (FnPost (some ([⟨0, 0⟩], ⟨3, 0⟩)) w) := by
  refine ⟨?_, ?_, ?_, ?_, ?_⟩
  all_goals
    have HM := Lib.hid (Mem.start w)
    go_enter Tryd.func9, Tryd.ntmps9
    go_wp2_with (first | (go_at_call 17; (with_reducible refine (cof_any _ _).mono ?_); rintro e W1 ⟨rfl, hb⟩; replace HM := Lib.hid (HM.out.next hb); clear hb) | (go_at_call 18; (with_reducible refine (clist_any _ _).mono ?_); rintro e W1 ⟨rfl, hb⟩; replace HM := Lib.hid (HM.out.next hb); clear hb) | (refine bs3T rfl HM.out rfl rfl rfl ?_; intro g1 W1 HM1; replace HM := Lib.hid HM1; clear HM1) | (refine bs2T rfl HM.out rfl rfl ?_; intro g1 W1 HM1; replace HM := Lib.hid HM1; clear HM1) | ((with_reducible refine iload ?_); first | refine ldbW HM.out 0 rfl rfl rfl ?_ | refine ldbW HM.out 1 rfl rfl rfl ?_ | refine ldbW HM.out 2 rfl rfl rfl ?_ | refine ldbW HM.out 3 rfl rfl rfl ?_ | refine ldbW HM.out 4 rfl rfl rfl ?_ | refine ldbW HM.out 5 rfl rfl rfl ?_ | refine ldbW HM.out 6 rfl rfl rfl ?_ | ((first | refine ldbS HM.out 0 rfl rfl rfl ?_ | refine ldbS HM.out 1 rfl rfl rfl ?_ | refine ldbS HM.out 2 rfl rfl rfl ?_ | refine ldbS HM.out 3 rfl rfl rfl ?_ | refine ldbS HM.out 4 rfl rfl rfl ?_ | refine ldbS HM.out 5 rfl rfl rfl ?_ | refine ldbS HM.out 6 rfl rfl rfl ?_); simp only [List.take, List.drop])) | ((with_reducible refine istore ?_); (first | ((first | refine stbW rfl HM.out 0 rfl rfl rfl rfl rfl rfl ?_ | refine stbW rfl HM.out 1 rfl rfl rfl rfl rfl rfl ?_ | refine stbW rfl HM.out 2 rfl rfl rfl rfl rfl rfl ?_ | refine stbW rfl HM.out 3 rfl rfl rfl rfl rfl rfl ?_ | refine stbW rfl HM.out 4 rfl rfl rfl rfl rfl rfl ?_ | refine stbW rfl HM.out 5 rfl rfl rfl rfl rfl rfl ?_ | refine stbW rfl HM.out 6 rfl rfl rfl rfl rfl rfl ?_); intro W1 HM1; replace HM := Lib.hid HM1; clear HM1; simp only [List.set] at HM) | ((first | refine stbS rfl HM.out 0 rfl rfl rfl rfl rfl rfl ?_ | refine stbS rfl HM.out 1 rfl rfl rfl rfl rfl rfl ?_ | refine stbS rfl HM.out 2 rfl rfl rfl rfl rfl rfl ?_ | refine stbS rfl HM.out 3 rfl rfl rfl rfl rfl rfl ?_ | refine stbS rfl HM.out 4 rfl rfl rfl rfl rfl rfl ?_ | refine stbS rfl HM.out 5 rfl rfl rfl rfl rfl rfl ?_ | refine stbS rfl HM.out 6 rfl rfl rfl rfl rfl rfl ?_); intro W1 HM1; replace HM := Lib.hid HM1; clear HM1; simp only [lss, Nat.reduceAdd] at HM))) | ((with_reducible refine ibuildSlice ?_); refine bs1A rfl HM.out rfl rfl rfl ?_; intro g1 W1 HM1; replace HM := Lib.hid HM1; clear HM1) | ((with_reducible refine ialloc ?_); refine alb rfl HM.out ?_; intro g1 W1 HM1; replace HM := Lib.hid HM1; clear HM1))
    refine wp_region_steps2 [(true, 2), (false, 0), (false, 1), (true, 3), (false, 4)] (by kernel_rfl) (by kernel_rfl) rfl (by kernel_rfl) (fun _ _ _ _ _ h => h) HM.out _ (.cons _ (.cons_cons _ (.cons_cons _ (.cons_cons _ (.cons_cons _ (.cons_cons _ .slnil)))))) ?_
    intro hNE W1 HM1; replace HM := Lib.hid HM1; clear HM1
    have HS0 := Lib.hid (HM.out.sub (.cons _ (.cons_cons _ (.cons_cons _ (.cons_cons _ (.cons_cons _ (.cons_cons _ .slnil)))))))
    simp only [wpSteps, List.getElem?_cons_succ, List.getElem?_cons_zero]
    (repeat (first | ((with_reducible refine qgd ?_); (with_reducible refine skip_q ?_ ?_ ?_); (exact rfl); (rotate_left; (exact (hNE.elim fun p => ⟨p.W, p, rfl⟩)))) | ((with_reducible refine qnilCheck ?_); (refine qnil rfl ?_)) | ((with_reducible refine wpQuiet_nil ?_); (try dsimp only)) | ((with_reducible refine qload ?_); first | (refine qdb1 HS0.out 0 rfl rfl rfl ?_) | (refine qdb1 HS0.out 1 rfl rfl rfl ?_) | (refine qdb1 HS0.out 2 rfl rfl rfl ?_) | (refine qdb1 HS0.out 3 rfl rfl rfl ?_) | (refine qdb1 HS0.out 4 rfl rfl rfl ?_) | (refine qdbW HS0.out 0 rfl rfl rfl ?_) | (refine qdbW HS0.out 1 rfl rfl rfl ?_) | (refine qdbW HS0.out 2 rfl rfl rfl ?_) | (refine qdbW HS0.out 3 rfl rfl rfl ?_) | (refine qdbW HS0.out 4 rfl rfl rfl ?_) | (refine qdbS HS0.out 0 rfl rfl rfl ?_; simp only [List.take, List.drop]) | (refine qdbS HS0.out 1 rfl rfl rfl ?_; simp only [List.take, List.drop]) | (refine qdbS HS0.out 2 rfl rfl rfl ?_; simp only [List.take, List.drop]) | (refine qdbS HS0.out 3 rfl rfl rfl ?_; simp only [List.take, List.drop]) | (refine qdbS HS0.out 4 rfl rfl rfl ?_; simp only [List.take, List.drop])) | go_big_quiet_step (fail) | quiet_step (fail)))
    go_wp2_with (first | ((with_reducible refine igd ?_); (with_reducible refine skip_op ?_ ?_); (exact rfl)) | (go_at_call 17; (with_reducible refine (cof_any _ _).mono ?_); rintro e W1 ⟨rfl, hb⟩; replace HM := Lib.hid (HM.out.next hb); clear hb) | (go_at_call 18; (with_reducible refine (clist_any _ _).mono ?_); rintro e W1 ⟨rfl, hb⟩; replace HM := Lib.hid (HM.out.next hb); clear hb) | (refine bs3T rfl HM.out rfl rfl rfl ?_; intro g1 W1 HM1; replace HM := Lib.hid HM1; clear HM1) | (refine bs2T rfl HM.out rfl rfl ?_; intro g1 W1 HM1; replace HM := Lib.hid HM1; clear HM1) | ((with_reducible refine iload ?_); first | refine ldbW HM.out 0 rfl rfl rfl ?_ | refine ldbW HM.out 1 rfl rfl rfl ?_ | refine ldbW HM.out 2 rfl rfl rfl ?_ | refine ldbW HM.out 3 rfl rfl rfl ?_ | refine ldbW HM.out 4 rfl rfl rfl ?_ | refine ldbW HM.out 5 rfl rfl rfl ?_ | refine ldbW HM.out 6 rfl rfl rfl ?_ | ((first | refine ldbS HM.out 0 rfl rfl rfl ?_ | refine ldbS HM.out 1 rfl rfl rfl ?_ | refine ldbS HM.out 2 rfl rfl rfl ?_ | refine ldbS HM.out 3 rfl rfl rfl ?_ | refine ldbS HM.out 4 rfl rfl rfl ?_ | refine ldbS HM.out 5 rfl rfl rfl ?_ | refine ldbS HM.out 6 rfl rfl rfl ?_); simp only [List.take, List.drop])) | ((with_reducible refine istore ?_); (first | ((first | refine stbW rfl HM.out 0 rfl rfl rfl rfl rfl rfl ?_ | refine stbW rfl HM.out 1 rfl rfl rfl rfl rfl rfl ?_ | refine stbW rfl HM.out 2 rfl rfl rfl rfl rfl rfl ?_ | refine stbW rfl HM.out 3 rfl rfl rfl rfl rfl rfl ?_ | refine stbW rfl HM.out 4 rfl rfl rfl rfl rfl rfl ?_ | refine stbW rfl HM.out 5 rfl rfl rfl rfl rfl rfl ?_ | refine stbW rfl HM.out 6 rfl rfl rfl rfl rfl rfl ?_); intro W1 HM1; replace HM := Lib.hid HM1; clear HM1; simp only [List.set] at HM) | ((first | refine stbS rfl HM.out 0 rfl rfl rfl rfl rfl rfl ?_ | refine stbS rfl HM.out 1 rfl rfl rfl rfl rfl rfl ?_ | refine stbS rfl HM.out 2 rfl rfl rfl rfl rfl rfl ?_ | refine stbS rfl HM.out 3 rfl rfl rfl rfl rfl rfl ?_ | refine stbS rfl HM.out 4 rfl rfl rfl rfl rfl rfl ?_ | refine stbS rfl HM.out 5 rfl rfl rfl rfl rfl rfl ?_ | refine stbS rfl HM.out 6 rfl rfl rfl rfl rfl rfl ?_); intro W1 HM1; replace HM := Lib.hid HM1; clear HM1; simp only [lss, Nat.reduceAdd] at HM))) | ((with_reducible refine ibuildSlice ?_); refine bs1A rfl HM.out rfl rfl rfl ?_; intro g1 W1 HM1; replace HM := Lib.hid HM1; clear HM1) | ((with_reducible refine ialloc ?_); refine alb rfl HM.out ?_; intro g1 W1 HM1; replace HM := Lib.hid HM1; clear HM1))
    refine ⟨⟨⟨_, HM.out.sub (by repeat (first | exact List.nil_sublist _ | with_reducible refine List.Sublist.cons_cons _ ?_ | refine List.Sublist.cons _ ?_))⟩, rfl⟩, ?_⟩
    (try dsimp only)
    (repeat (first | ((with_reducible refine qgd ?_); (with_reducible refine skip_q ?_ ?_ ?_); (exact rfl); (rotate_left; (exact (hNE.elim fun p => ⟨p.W, p, rfl⟩)))) | ((with_reducible refine qnilCheck ?_); (refine qnil rfl ?_)) | ((with_reducible refine wpQuiet_nil ?_); (try dsimp only)) | ((with_reducible refine qload ?_); first | (refine qdb1 HS0.out 0 rfl rfl rfl ?_) | (refine qdb1 HS0.out 1 rfl rfl rfl ?_) | (refine qdb1 HS0.out 2 rfl rfl rfl ?_) | (refine qdb1 HS0.out 3 rfl rfl rfl ?_) | (refine qdb1 HS0.out 4 rfl rfl rfl ?_) | (refine qdbW HS0.out 0 rfl rfl rfl ?_) | (refine qdbW HS0.out 1 rfl rfl rfl ?_) | (refine qdbW HS0.out 2 rfl rfl rfl ?_) | (refine qdbW HS0.out 3 rfl rfl rfl ?_) | (refine qdbW HS0.out 4 rfl rfl rfl ?_) | (refine qdbS HS0.out 0 rfl rfl rfl ?_; simp only [List.take, List.drop]) | (refine qdbS HS0.out 1 rfl rfl rfl ?_; simp only [List.take, List.drop]) | (refine qdbS HS0.out 2 rfl rfl rfl ?_; simp only [List.take, List.drop]) | (refine qdbS HS0.out 3 rfl rfl rfl ?_; simp only [List.take, List.drop]) | (refine qdbS HS0.out 4 rfl rfl rfl ?_; simp only [List.take, List.drop])) | go_big_quiet_step (fail) | quiet_step (fail)))
    go_wp2_with (first | ((with_reducible refine igd ?_); (with_reducible refine skip_op ?_ ?_); (exact rfl)) | (go_at_call 17; (with_reducible refine (cof_any _ _).mono ?_); rintro e W1 ⟨rfl, hb⟩; replace HM := Lib.hid (HM.out.next hb); clear hb) | (go_at_call 18; (with_reducible refine (clist_any _ _).mono ?_); rintro e W1 ⟨rfl, hb⟩; replace HM := Lib.hid (HM.out.next hb); clear hb) | (refine bs3T rfl HM.out rfl rfl rfl ?_; intro g1 W1 HM1; replace HM := Lib.hid HM1; clear HM1) | (refine bs2T rfl HM.out rfl rfl ?_; intro g1 W1 HM1; replace HM := Lib.hid HM1; clear HM1) | ((with_reducible refine iload ?_); first | refine ldbW HM.out 0 rfl rfl rfl ?_ | refine ldbW HM.out 1 rfl rfl rfl ?_ | refine ldbW HM.out 2 rfl rfl rfl ?_ | refine ldbW HM.out 3 rfl rfl rfl ?_ | refine ldbW HM.out 4 rfl rfl rfl ?_ | refine ldbW HM.out 5 rfl rfl rfl ?_ | refine ldbW HM.out 6 rfl rfl rfl ?_ | ((first | refine ldbS HM.out 0 rfl rfl rfl ?_ | refine ldbS HM.out 1 rfl rfl rfl ?_ | refine ldbS HM.out 2 rfl rfl rfl ?_ | refine ldbS HM.out 3 rfl rfl rfl ?_ | refine ldbS HM.out 4 rfl rfl rfl ?_ | refine ldbS HM.out 5 rfl rfl rfl ?_ | refine ldbS HM.out 6 rfl rfl rfl ?_); simp only [List.take, List.drop])) | ((with_reducible refine istore ?_); (first | ((first | refine stbW rfl HM.out 0 rfl rfl rfl rfl rfl rfl ?_ | refine stbW rfl HM.out 1 rfl rfl rfl rfl rfl rfl ?_ | refine stbW rfl HM.out 2 rfl rfl rfl rfl rfl rfl ?_ | refine stbW rfl HM.out 3 rfl rfl rfl rfl rfl rfl ?_ | refine stbW rfl HM.out 4 rfl rfl rfl rfl rfl rfl ?_ | refine stbW rfl HM.out 5 rfl rfl rfl rfl rfl rfl ?_ | refine stbW rfl HM.out 6 rfl rfl rfl rfl rfl rfl ?_); intro W1 HM1; replace HM := Lib.hid HM1; clear HM1; simp only [List.set] at HM) | ((first | refine stbS rfl HM.out 0 rfl rfl rfl rfl rfl rfl ?_ | refine stbS rfl HM.out 1 rfl rfl rfl rfl rfl rfl ?_ | refine stbS rfl HM.out 2 rfl rfl rfl rfl rfl rfl ?_ | refine stbS rfl HM.out 3 rfl rfl rfl rfl rfl rfl ?_ | refine stbS rfl HM.out 4 rfl rfl rfl rfl rfl rfl ?_ | refine stbS rfl HM.out 5 rfl rfl rfl rfl rfl rfl ?_ | refine stbS rfl HM.out 6 rfl rfl rfl rfl rfl rfl ?_); intro W1 HM1; replace HM := Lib.hid HM1; clear HM1; simp only [lss, Nat.reduceAdd] at HM))) | ((with_reducible refine ibuildSlice ?_); refine bs1A rfl HM.out rfl rfl rfl ?_; intro g1 W1 HM1; replace HM := Lib.hid HM1; clear HM1) | ((with_reducible refine ialloc ?_); refine alb rfl HM.out ?_; intro g1 W1 HM1; replace HM := Lib.hid HM1; clear HM1))
    refine ⟨⟨⟨_, HM.out.sub (by repeat (first | exact List.nil_sublist _ | with_reducible refine List.Sublist.cons_cons _ ?_ | refine List.Sublist.cons _ ?_))⟩, rfl⟩, ?_⟩
    (try dsimp only)
    (repeat (first | ((with_reducible refine qgd ?_); (with_reducible refine skip_q ?_ ?_ ?_); (exact rfl); (rotate_left; (exact (hNE.elim fun p => ⟨p.W, p, rfl⟩)))) | ((with_reducible refine qnilCheck ?_); (refine qnil rfl ?_)) | ((with_reducible refine wpQuiet_nil ?_); (try dsimp only)) | ((with_reducible refine qload ?_); first | (refine qdb1 HS0.out 0 rfl rfl rfl ?_) | (refine qdb1 HS0.out 1 rfl rfl rfl ?_) | (refine qdb1 HS0.out 2 rfl rfl rfl ?_) | (refine qdb1 HS0.out 3 rfl rfl rfl ?_) | (refine qdb1 HS0.out 4 rfl rfl rfl ?_) | (refine qdbW HS0.out 0 rfl rfl rfl ?_) | (refine qdbW HS0.out 1 rfl rfl rfl ?_) | (refine qdbW HS0.out 2 rfl rfl rfl ?_) | (refine qdbW HS0.out 3 rfl rfl rfl ?_) | (refine qdbW HS0.out 4 rfl rfl rfl ?_) | (refine qdbS HS0.out 0 rfl rfl rfl ?_; simp only [List.take, List.drop]) | (refine qdbS HS0.out 1 rfl rfl rfl ?_; simp only [List.take, List.drop]) | (refine qdbS HS0.out 2 rfl rfl rfl ?_; simp only [List.take, List.drop]) | (refine qdbS HS0.out 3 rfl rfl rfl ?_; simp only [List.take, List.drop]) | (refine qdbS HS0.out 4 rfl rfl rfl ?_; simp only [List.take, List.drop])) | go_big_quiet_step (fail) | quiet_step (fail)))
    go_wp2_with (first | ((with_reducible refine igd ?_); (with_reducible refine skip_op ?_ ?_); (exact rfl)) | (go_at_call 17; (with_reducible refine (cof_any _ _).mono ?_); rintro e W1 ⟨rfl, hb⟩; replace HM := Lib.hid (HM.out.next hb); clear hb) | (go_at_call 18; (with_reducible refine (clist_any _ _).mono ?_); rintro e W1 ⟨rfl, hb⟩; replace HM := Lib.hid (HM.out.next hb); clear hb) | (refine bs3T rfl HM.out rfl rfl rfl ?_; intro g1 W1 HM1; replace HM := Lib.hid HM1; clear HM1) | (refine bs2T rfl HM.out rfl rfl ?_; intro g1 W1 HM1; replace HM := Lib.hid HM1; clear HM1) | ((with_reducible refine iload ?_); first | refine ldbW HM.out 0 rfl rfl rfl ?_ | refine ldbW HM.out 1 rfl rfl rfl ?_ | refine ldbW HM.out 2 rfl rfl rfl ?_ | refine ldbW HM.out 3 rfl rfl rfl ?_ | refine ldbW HM.out 4 rfl rfl rfl ?_ | refine ldbW HM.out 5 rfl rfl rfl ?_ | refine ldbW HM.out 6 rfl rfl rfl ?_ | ((first | refine ldbS HM.out 0 rfl rfl rfl ?_ | refine ldbS HM.out 1 rfl rfl rfl ?_ | refine ldbS HM.out 2 rfl rfl rfl ?_ | refine ldbS HM.out 3 rfl rfl rfl ?_ | refine ldbS HM.out 4 rfl rfl rfl ?_ | refine ldbS HM.out 5 rfl rfl rfl ?_ | refine ldbS HM.out 6 rfl rfl rfl ?_); simp only [List.take, List.drop])) | ((with_reducible refine istore ?_); (first | ((first | refine stbW rfl HM.out 0 rfl rfl rfl rfl rfl rfl ?_ | refine stbW rfl HM.out 1 rfl rfl rfl rfl rfl rfl ?_ | refine stbW rfl HM.out 2 rfl rfl rfl rfl rfl rfl ?_ | refine stbW rfl HM.out 3 rfl rfl rfl rfl rfl rfl ?_ | refine stbW rfl HM.out 4 rfl rfl rfl rfl rfl rfl ?_ | refine stbW rfl HM.out 5 rfl rfl rfl rfl rfl rfl ?_ | refine stbW rfl HM.out 6 rfl rfl rfl rfl rfl rfl ?_); intro W1 HM1; replace HM := Lib.hid HM1; clear HM1; simp only [List.set] at HM) | ((first | refine stbS rfl HM.out 0 rfl rfl rfl rfl rfl rfl ?_ | refine stbS rfl HM.out 1 rfl rfl rfl rfl rfl rfl ?_ | refine stbS rfl HM.out 2 rfl rfl rfl rfl rfl rfl ?_ | refine stbS rfl HM.out 3 rfl rfl rfl rfl rfl rfl ?_ | refine stbS rfl HM.out 4 rfl rfl rfl rfl rfl rfl ?_ | refine stbS rfl HM.out 5 rfl rfl rfl rfl rfl rfl ?_ | refine stbS rfl HM.out 6 rfl rfl rfl rfl rfl rfl ?_); intro W1 HM1; replace HM := Lib.hid HM1; clear HM1; simp only [lss, Nat.reduceAdd] at HM))) | ((with_reducible refine ibuildSlice ?_); refine bs1A rfl HM.out rfl rfl rfl ?_; intro g1 W1 HM1; replace HM := Lib.hid HM1; clear HM1) | ((with_reducible refine ialloc ?_); refine alb rfl HM.out ?_; intro g1 W1 HM1; replace HM := Lib.hid HM1; clear HM1))
    refine ⟨⟨⟨_, HM.out.sub (by repeat (first | exact List.nil_sublist _ | with_reducible refine List.Sublist.cons_cons _ ?_ | refine List.Sublist.cons _ ?_))⟩, rfl⟩, ?_⟩
    (try dsimp only)
    (repeat (first | ((with_reducible refine qgd ?_); (with_reducible refine skip_q ?_ ?_ ?_); (exact rfl); (rotate_left; (exact (hNE.elim fun p => ⟨p.W, p, rfl⟩)))) | ((with_reducible refine qnilCheck ?_); (refine qnil rfl ?_)) | ((with_reducible refine wpQuiet_nil ?_); (try dsimp only)) | ((with_reducible refine qload ?_); first | (refine qdb1 HS0.out 0 rfl rfl rfl ?_) | (refine qdb1 HS0.out 1 rfl rfl rfl ?_) | (refine qdb1 HS0.out 2 rfl rfl rfl ?_) | (refine qdb1 HS0.out 3 rfl rfl rfl ?_) | (refine qdb1 HS0.out 4 rfl rfl rfl ?_) | (refine qdbW HS0.out 0 rfl rfl rfl ?_) | (refine qdbW HS0.out 1 rfl rfl rfl ?_) | (refine qdbW HS0.out 2 rfl rfl rfl ?_) | (refine qdbW HS0.out 3 rfl rfl rfl ?_) | (refine qdbW HS0.out 4 rfl rfl rfl ?_) | (refine qdbS HS0.out 0 rfl rfl rfl ?_; simp only [List.take, List.drop]) | (refine qdbS HS0.out 1 rfl rfl rfl ?_; simp only [List.take, List.drop]) | (refine qdbS HS0.out 2 rfl rfl rfl ?_; simp only [List.take, List.drop]) | (refine qdbS HS0.out 3 rfl rfl rfl ?_; simp only [List.take, List.drop]) | (refine qdbS HS0.out 4 rfl rfl rfl ?_; simp only [List.take, List.drop])) | go_big_quiet_step (fail) | quiet_step (fail)))
    clear HS0 hNE
    go_wp2_with fail
    refine wp_region_steps2 [(true, 0), (true, 1), (true, 2), (false, 3), (true, 4)] (by kernel_rfl) (by kernel_rfl) rfl (by kernel_rfl) (fun _ _ _ _ _ h => h) HM.out _ (.cons_cons _ (.cons_cons _ (List.nil_sublist _))) ?_
    intro hNE W1 HM1; replace HM := Lib.hid HM1; clear HM1
    have HS0 := Lib.hid (HM.out.sub (.cons_cons _ (.cons_cons _ (List.nil_sublist _))))
    simp only [wpSteps, List.getElem?_cons_succ, List.getElem?_cons_zero]
    (repeat (first | ((with_reducible refine wpQuiet_nil ?_); (try dsimp only)) | ((with_reducible refine qload ?_); first | (refine qdbW HS0.out 0 rfl rfl rfl ?_) | (refine qdbW HS0.out 1 rfl rfl rfl ?_) | (refine qdbS HS0.out 0 rfl rfl rfl ?_; simp only [List.take, List.drop]) | (refine qdbS HS0.out 1 rfl rfl rfl ?_; simp only [List.take, List.drop])) | go_big_quiet_step (fail) | quiet_step (fail)))
    go_wp2_with (first | ((with_reducible refine istore ?_); (first | ((first | refine stbW rfl HM.out 0 rfl rfl rfl rfl rfl rfl ?_ | refine stbW rfl HM.out 1 rfl rfl rfl rfl rfl rfl ?_ | refine stbW rfl HM.out 2 rfl rfl rfl rfl rfl rfl ?_ | refine stbW rfl HM.out 3 rfl rfl rfl rfl rfl rfl ?_ | refine stbW rfl HM.out 4 rfl rfl rfl rfl rfl rfl ?_ | refine stbW rfl HM.out 5 rfl rfl rfl rfl rfl rfl ?_ | refine stbW rfl HM.out 6 rfl rfl rfl rfl rfl rfl ?_); intro W1 HM1; replace HM := Lib.hid HM1; clear HM1; simp only [List.set] at HM) | ((first | refine stbS rfl HM.out 0 rfl rfl rfl rfl rfl rfl ?_ | refine stbS rfl HM.out 1 rfl rfl rfl rfl rfl rfl ?_ | refine stbS rfl HM.out 2 rfl rfl rfl rfl rfl rfl ?_ | refine stbS rfl HM.out 3 rfl rfl rfl rfl rfl rfl ?_ | refine stbS rfl HM.out 4 rfl rfl rfl rfl rfl rfl ?_ | refine stbS rfl HM.out 5 rfl rfl rfl rfl rfl rfl ?_ | refine stbS rfl HM.out 6 rfl rfl rfl rfl rfl rfl ?_); intro W1 HM1; replace HM := Lib.hid HM1; clear HM1; simp only [lss, Nat.reduceAdd] at HM))))
    refine ⟨⟨⟨_, HM.out.sub (by repeat (first | exact List.nil_sublist _ | with_reducible refine List.Sublist.cons_cons _ ?_ | refine List.Sublist.cons _ ?_))⟩, rfl⟩, ?_⟩
    (try dsimp only)
    (repeat (first | ((with_reducible refine wpQuiet_nil ?_); (try dsimp only)) | go_big_quiet_step (fail) | quiet_step (fail)))
    clear HS0 hNE
    go_wp2_with fail
    exact bodyPost_ret (res_tmp_box_tmp rfl HM.out 6 rfl rfl rfl rfl rfl) rfl ⟨_, rfl, (HM.out.turn0 (k := 0) rfl (box_row (HM.out.get (k := 0) rfl) rfl (by decide)) (fun g e => e)).sub (.cons_cons _ (List.nil_sublist _))⟩

theorem fn_min (w : World) : Calls Tryd.prog 9 #[.string ⟨#[109, 105, 110]⟩] w (FnPost (some ([⟨5, 2⟩], ⟨2, 0⟩)) w) := (fn_L w).1
theorem fn_max (w : World) : Calls Tryd.prog 9 #[.string ⟨#[109, 97, 120]⟩] w (FnPost (some ([⟨5, 2⟩], ⟨2, 0⟩)) w) := (fn_L w).2.1
theorem fn_sum (w : World) : Calls Tryd.prog 9 #[.string ⟨#[115, 117, 109]⟩] w (FnPost (some ([⟨5, 2⟩], ⟨2, 0⟩)) w) := (fn_L w).2.2.1
theorem fn_count (w : World) : Calls Tryd.prog 9 #[.string ⟨#[99, 111, 117, 110, 116]⟩] w (FnPost (some ([⟨5, 0⟩], ⟨2, 0⟩)) w) := (fn_L w).2.2.2.1
theorem fn_string (w : World) : Calls Tryd.prog 9 #[.string ⟨#[115, 116, 114, 105, 110, 103]⟩] w (FnPost (some ([⟨0, 0⟩], ⟨3, 0⟩)) w) := (fn_L w).2.2.2.2

set_option maxHeartbeats 40000000 in
theorem fn_C (w : World) : Calls Tryd.prog 9 #[.string ⟨#[115, 117, 98, 115, 116, 114, 105, 110, 103]⟩] w (FnPost (some ([⟨3, 0⟩, ⟨2, 0⟩, ⟨2, 0⟩], ⟨3, 0⟩)) w) := by
  have HM := Lib.hid (Mem.start w)
  go_enter Tryd.func9, Tryd.ntmps9
  go_wp2_with (first | (go_at_call 17; (with_reducible refine (cof_any _ _).mono ?_); rintro e W1 ⟨rfl, hb⟩; replace HM := Lib.hid (HM.out.next hb); clear hb) | (go_at_call 18; (with_reducible refine (clist_any _ _).mono ?_); rintro e W1 ⟨rfl, hb⟩; replace HM := Lib.hid (HM.out.next hb); clear hb) | (refine bs3T rfl HM.out rfl rfl rfl ?_; intro g1 W1 HM1; replace HM := Lib.hid HM1; clear HM1) | (refine bs2T rfl HM.out rfl rfl ?_; intro g1 W1 HM1; replace HM := Lib.hid HM1; clear HM1) | ((with_reducible refine iload ?_); first | refine ldbW HM.out 0 rfl rfl rfl ?_ | refine ldbW HM.out 1 rfl rfl rfl ?_ | refine ldbW HM.out 2 rfl rfl rfl ?_ | refine ldbW HM.out 3 rfl rfl rfl ?_ | refine ldbW HM.out 4 rfl rfl rfl ?_ | refine ldbW HM.out 5 rfl rfl rfl ?_ | refine ldbW HM.out 6 rfl rfl rfl ?_ | ((first | refine ldbS HM.out 0 rfl rfl rfl ?_ | refine ldbS HM.out 1 rfl rfl rfl ?_ | refine ldbS HM.out 2 rfl rfl rfl ?_ | refine ldbS HM.out 3 rfl rfl rfl ?_ | refine ldbS HM.out 4 rfl rfl rfl ?_ | refine ldbS HM.out 5 rfl rfl rfl ?_ | refine ldbS HM.out 6 rfl rfl rfl ?_); simp only [List.take, List.drop])) | ((with_reducible refine istore ?_); (first | ((first | refine stbW rfl HM.out 0 rfl rfl rfl rfl rfl rfl ?_ | refine stbW rfl HM.out 1 rfl rfl rfl rfl rfl rfl ?_ | refine stbW rfl HM.out 2 rfl rfl rfl rfl rfl rfl ?_ | refine stbW rfl HM.out 3 rfl rfl rfl rfl rfl rfl ?_ | refine stbW rfl HM.out 4 rfl rfl rfl rfl rfl rfl ?_ | refine stbW rfl HM.out 5 rfl rfl rfl rfl rfl rfl ?_ | refine stbW rfl HM.out 6 rfl rfl rfl rfl rfl rfl ?_); intro W1 HM1; replace HM := Lib.hid HM1; clear HM1; simp only [List.set] at HM) | ((first | refine stbS rfl HM.out 0 rfl rfl rfl rfl rfl rfl ?_ | refine stbS rfl HM.out 1 rfl rfl rfl rfl rfl rfl ?_ | refine stbS rfl HM.out 2 rfl rfl rfl rfl rfl rfl ?_ | refine stbS rfl HM.out 3 rfl rfl rfl rfl rfl rfl ?_ | refine stbS rfl HM.out 4 rfl rfl rfl rfl rfl rfl ?_ | refine stbS rfl HM.out 5 rfl rfl rfl rfl rfl rfl ?_ | refine stbS rfl HM.out 6 rfl rfl rfl rfl rfl rfl ?_); intro W1 HM1; replace HM := Lib.hid HM1; clear HM1; simp only [lss, Nat.reduceAdd] at HM))) | ((with_reducible refine ibuildSlice ?_); refine bs1A rfl HM.out rfl rfl rfl ?_; intro g1 W1 HM1; replace HM := Lib.hid HM1; clear HM1) | ((with_reducible refine ialloc ?_); refine alb rfl HM.out ?_; intro g1 W1 HM1; replace HM := Lib.hid HM1; clear HM1))
  refine wp_region_steps2 [(true, 0), (true, 1), (true, 2), (true, 4), (false, 3), (true, 5), (false, 6)] (by kernel_rfl) (by kernel_rfl) rfl (by kernel_rfl) (fun _ _ _ _ _ h => h) HM.out _ (.cons _ (.cons_cons _ (.cons_cons _ (.cons_cons _ (.cons_cons _ (.cons_cons _ .slnil)))))) ?_
  intro hNE W1 HM1; replace HM := Lib.hid HM1; clear HM1
  have HS0 := Lib.hid (HM.out.sub (.cons _ (.cons_cons _ (.cons_cons _ (.cons_cons _ (.cons_cons _ (.cons_cons _ .slnil)))))))
  simp only [wpSteps, List.getElem?_cons_succ, List.getElem?_cons_zero]
  (repeat (first | ((with_reducible refine wpQuiet_nil ?_); (try dsimp only)) | ((with_reducible refine qload ?_); first | (refine qdbW HS0.out 0 rfl rfl rfl ?_) | (refine qdbW HS0.out 1 rfl rfl rfl ?_) | (refine qdbW HS0.out 2 rfl rfl rfl ?_) | (refine qdbW HS0.out 3 rfl rfl rfl ?_) | (refine qdbW HS0.out 4 rfl rfl rfl ?_) | (refine qdbS HS0.out 0 rfl rfl rfl ?_; simp only [List.take, List.drop]) | (refine qdbS HS0.out 1 rfl rfl rfl ?_; simp only [List.take, List.drop]) | (refine qdbS HS0.out 2 rfl rfl rfl ?_; simp only [List.take, List.drop]) | (refine qdbS HS0.out 3 rfl rfl rfl ?_; simp only [List.take, List.drop]) | (refine qdbS HS0.out 4 rfl rfl rfl ?_; simp only [List.take, List.drop])) | go_big_quiet_step (fail) | quiet_step (fail)))
  go_wp2_with (first | (refine bs3T rfl HM.out rfl rfl rfl ?_; intro g1 W1 HM1; replace HM := Lib.hid HM1; clear HM1) | (refine bs2T rfl HM.out rfl rfl ?_; intro g1 W1 HM1; replace HM := Lib.hid HM1; clear HM1))
  refine ⟨⟨⟨_, HM.out.sub (by repeat (first | exact List.nil_sublist _ | with_reducible refine List.Sublist.cons_cons _ ?_ | refine List.Sublist.cons _ ?_))⟩, rfl⟩, ?_⟩
  (try dsimp only)
  (repeat (first | ((with_reducible refine wpQuiet_nil ?_); (try dsimp only)) | go_big_quiet_step (fail) | quiet_step (fail)))
  go_wp2_with (first | ((with_reducible refine istore ?_); (first | ((first | refine stbW rfl HM.out 0 rfl rfl rfl rfl rfl rfl ?_ | refine stbW rfl HM.out 1 rfl rfl rfl rfl rfl rfl ?_ | refine stbW rfl HM.out 2 rfl rfl rfl rfl rfl rfl ?_ | refine stbW rfl HM.out 3 rfl rfl rfl rfl rfl rfl ?_ | refine stbW rfl HM.out 4 rfl rfl rfl rfl rfl rfl ?_ | refine stbW rfl HM.out 5 rfl rfl rfl rfl rfl rfl ?_ | refine stbW rfl HM.out 6 rfl rfl rfl rfl rfl rfl ?_); intro W1 HM1; replace HM := Lib.hid HM1; clear HM1; simp only [List.set] at HM) | ((first | refine stbS rfl HM.out 0 rfl rfl rfl rfl rfl rfl ?_ | refine stbS rfl HM.out 1 rfl rfl rfl rfl rfl rfl ?_ | refine stbS rfl HM.out 2 rfl rfl rfl rfl rfl rfl ?_ | refine stbS rfl HM.out 3 rfl rfl rfl rfl rfl rfl ?_ | refine stbS rfl HM.out 4 rfl rfl rfl rfl rfl rfl ?_ | refine stbS rfl HM.out 5 rfl rfl rfl rfl rfl rfl ?_ | refine stbS rfl HM.out 6 rfl rfl rfl rfl rfl rfl ?_); intro W1 HM1; replace HM := Lib.hid HM1; clear HM1; simp only [lss, Nat.reduceAdd] at HM))))
  refine ⟨⟨⟨_, HM.out.sub (by repeat (first | exact List.nil_sublist _ | with_reducible refine List.Sublist.cons_cons _ ?_ | refine List.Sublist.cons _ ?_))⟩, rfl⟩, ?_⟩
  (try dsimp only)
  clear HS0 hNE
  go_wp2_with fail
  refine wp_region_steps2 [(true, 0), (true, 1), (true, 2), (false, 3), (true, 4)] (by kernel_rfl) (by kernel_rfl) rfl (by kernel_rfl) (fun _ _ _ _ _ h => h) HM.out _ (.cons_cons _ (.cons_cons _ (List.nil_sublist _))) ?_
  intro hNE W1 HM1; replace HM := Lib.hid HM1; clear HM1
  have HS0 := Lib.hid (HM.out.sub (.cons_cons _ (.cons_cons _ (List.nil_sublist _))))
  simp only [wpSteps, List.getElem?_cons_succ, List.getElem?_cons_zero]
  (repeat (first | ((with_reducible refine wpQuiet_nil ?_); (try dsimp only)) | ((with_reducible refine qload ?_); first | (refine qdbW HS0.out 0 rfl rfl rfl ?_) | (refine qdbW HS0.out 1 rfl rfl rfl ?_) | (refine qdbS HS0.out 0 rfl rfl rfl ?_; simp only [List.take, List.drop]) | (refine qdbS HS0.out 1 rfl rfl rfl ?_; simp only [List.take, List.drop])) | go_big_quiet_step (fail) | quiet_step (fail)))
  go_wp2_with (first | ((with_reducible refine istore ?_); (first | ((first | refine stbW rfl HM.out 0 rfl rfl rfl rfl rfl rfl ?_ | refine stbW rfl HM.out 1 rfl rfl rfl rfl rfl rfl ?_ | refine stbW rfl HM.out 2 rfl rfl rfl rfl rfl rfl ?_ | refine stbW rfl HM.out 3 rfl rfl rfl rfl rfl rfl ?_ | refine stbW rfl HM.out 4 rfl rfl rfl rfl rfl rfl ?_ | refine stbW rfl HM.out 5 rfl rfl rfl rfl rfl rfl ?_ | refine stbW rfl HM.out 6 rfl rfl rfl rfl rfl rfl ?_); intro W1 HM1; replace HM := Lib.hid HM1; clear HM1; simp only [List.set] at HM) | ((first | refine stbS rfl HM.out 0 rfl rfl rfl rfl rfl rfl ?_ | refine stbS rfl HM.out 1 rfl rfl rfl rfl rfl rfl ?_ | refine stbS rfl HM.out 2 rfl rfl rfl rfl rfl rfl ?_ | refine stbS rfl HM.out 3 rfl rfl rfl rfl rfl rfl ?_ | refine stbS rfl HM.out 4 rfl rfl rfl rfl rfl rfl ?_ | refine stbS rfl HM.out 5 rfl rfl rfl rfl rfl rfl ?_ | refine stbS rfl HM.out 6 rfl rfl rfl rfl rfl rfl ?_); intro W1 HM1; replace HM := Lib.hid HM1; clear HM1; simp only [lss, Nat.reduceAdd] at HM))))
  refine ⟨⟨⟨_, HM.out.sub (by repeat (first | exact List.nil_sublist _ | with_reducible refine List.Sublist.cons_cons _ ?_ | refine List.Sublist.cons _ ?_))⟩, rfl⟩, ?_⟩
  (try dsimp only)
  (repeat (first | ((with_reducible refine wpQuiet_nil ?_); (try dsimp only)) | go_big_quiet_step (fail) | quiet_step (fail)))
  clear HS0 hNE
  go_wp2_with fail
  exact bodyPost_ret (res_tmp_box_tmp rfl HM.out 6 rfl rfl rfl rfl rfl) rfl ⟨_, rfl, (HM.out.turn0 (k := 0) rfl (box_row (HM.out.get (k := 0) rfl) rfl (by decide)) (fun g e => e)).sub (.cons_cons _ (List.nil_sublist _))⟩

theorem fn_substring (w : World) : Calls Tryd.prog 9 #[.string ⟨#[115, 117, 98, 115, 116, 114, 105, 110, 103]⟩] w (FnPost (some ([⟨3, 0⟩, ⟨2, 0⟩, ⟨2, 0⟩], ⟨3, 0⟩)) w) := (fn_C w)

set_option maxHeartbeats 40000000 in
theorem fn_P (w : World) : Calls Tryd.prog 9 #[.string ⟨#[97, 112, 112, 101, 110, 100]⟩] w (FnPost (some ([⟨5, 0⟩, ⟨0, 0⟩], ⟨5, 0⟩)) w) := by
  have HM := Lib.hid (Mem.start w)
  go_enter Tryd.func9, Tryd.ntmps9
  go_wp2_with (first | (go_at_call 17; (with_reducible refine (cof_any _ _).mono ?_); rintro e W1 ⟨rfl, hb⟩; replace HM := Lib.hid (HM.out.next hb); clear hb) | (go_at_call 18; (with_reducible refine (clist_any _ _).mono ?_); rintro e W1 ⟨rfl, hb⟩; replace HM := Lib.hid (HM.out.next hb); clear hb) | (refine bs3T rfl HM.out rfl rfl rfl ?_; intro g1 W1 HM1; replace HM := Lib.hid HM1; clear HM1) | (refine bs2T rfl HM.out rfl rfl ?_; intro g1 W1 HM1; replace HM := Lib.hid HM1; clear HM1) | ((with_reducible refine iload ?_); first | refine ldbW HM.out 0 rfl rfl rfl ?_ | refine ldbW HM.out 1 rfl rfl rfl ?_ | refine ldbW HM.out 2 rfl rfl rfl ?_ | refine ldbW HM.out 3 rfl rfl rfl ?_ | refine ldbW HM.out 4 rfl rfl rfl ?_ | refine ldbW HM.out 5 rfl rfl rfl ?_ | refine ldbW HM.out 6 rfl rfl rfl ?_ | ((first | refine ldbS HM.out 0 rfl rfl rfl ?_ | refine ldbS HM.out 1 rfl rfl rfl ?_ | refine ldbS HM.out 2 rfl rfl rfl ?_ | refine ldbS HM.out 3 rfl rfl rfl ?_ | refine ldbS HM.out 4 rfl rfl rfl ?_ | refine ldbS HM.out 5 rfl rfl rfl ?_ | refine ldbS HM.out 6 rfl rfl rfl ?_); simp only [List.take, List.drop])) | ((with_reducible refine istore ?_); (first | ((first | refine stbW rfl HM.out 0 rfl rfl rfl rfl rfl rfl ?_ | refine stbW rfl HM.out 1 rfl rfl rfl rfl rfl rfl ?_ | refine stbW rfl HM.out 2 rfl rfl rfl rfl rfl rfl ?_ | refine stbW rfl HM.out 3 rfl rfl rfl rfl rfl rfl ?_ | refine stbW rfl HM.out 4 rfl rfl rfl rfl rfl rfl ?_ | refine stbW rfl HM.out 5 rfl rfl rfl rfl rfl rfl ?_ | refine stbW rfl HM.out 6 rfl rfl rfl rfl rfl rfl ?_); intro W1 HM1; replace HM := Lib.hid HM1; clear HM1; simp only [List.set] at HM) | ((first | refine stbS rfl HM.out 0 rfl rfl rfl rfl rfl rfl ?_ | refine stbS rfl HM.out 1 rfl rfl rfl rfl rfl rfl ?_ | refine stbS rfl HM.out 2 rfl rfl rfl rfl rfl rfl ?_ | refine stbS rfl HM.out 3 rfl rfl rfl rfl rfl rfl ?_ | refine stbS rfl HM.out 4 rfl rfl rfl rfl rfl rfl ?_ | refine stbS rfl HM.out 5 rfl rfl rfl rfl rfl rfl ?_ | refine stbS rfl HM.out 6 rfl rfl rfl rfl rfl rfl ?_); intro W1 HM1; replace HM := Lib.hid HM1; clear HM1; simp only [lss, Nat.reduceAdd] at HM))) | ((with_reducible refine ibuildSlice ?_); refine bs1A rfl HM.out rfl rfl rfl ?_; intro g1 W1 HM1; replace HM := Lib.hid HM1; clear HM1) | ((with_reducible refine ialloc ?_); refine alb rfl HM.out ?_; intro g1 W1 HM1; replace HM := Lib.hid HM1; clear HM1))
  refine wp_region_steps2 [(true, 0), (true, 1), (true, 2), (false, 3), (true, 4)] (by kernel_rfl) (by kernel_rfl) rfl (by kernel_rfl) (fun _ _ _ _ _ h => h) HM.out _ (.cons_cons _ (.cons_cons _ (List.nil_sublist _))) ?_
  intro hNE W1 HM1; replace HM := Lib.hid HM1; clear HM1
  have HS0 := Lib.hid (HM.out.sub (.cons_cons _ (.cons_cons _ (List.nil_sublist _))))
  simp only [wpSteps, List.getElem?_cons_succ, List.getElem?_cons_zero]
  (repeat (first | ((with_reducible refine wpQuiet_nil ?_); (try dsimp only)) | ((with_reducible refine qload ?_); first | (refine qdbW HS0.out 0 rfl rfl rfl ?_) | (refine qdbW HS0.out 1 rfl rfl rfl ?_) | (refine qdbS HS0.out 0 rfl rfl rfl ?_; simp only [List.take, List.drop]) | (refine qdbS HS0.out 1 rfl rfl rfl ?_; simp only [List.take, List.drop])) | go_big_quiet_step (fail) | quiet_step (fail)))
  go_wp2_with (first | ((with_reducible refine istore ?_); (first | ((first | refine stbW rfl HM.out 0 rfl rfl rfl rfl rfl rfl ?_ | refine stbW rfl HM.out 1 rfl rfl rfl rfl rfl rfl ?_ | refine stbW rfl HM.out 2 rfl rfl rfl rfl rfl rfl ?_ | refine stbW rfl HM.out 3 rfl rfl rfl rfl rfl rfl ?_ | refine stbW rfl HM.out 4 rfl rfl rfl rfl rfl rfl ?_ | refine stbW rfl HM.out 5 rfl rfl rfl rfl rfl rfl ?_ | refine stbW rfl HM.out 6 rfl rfl rfl rfl rfl rfl ?_); intro W1 HM1; replace HM := Lib.hid HM1; clear HM1; simp only [List.set] at HM) | ((first | refine stbS rfl HM.out 0 rfl rfl rfl rfl rfl rfl ?_ | refine stbS rfl HM.out 1 rfl rfl rfl rfl rfl rfl ?_ | refine stbS rfl HM.out 2 rfl rfl rfl rfl rfl rfl ?_ | refine stbS rfl HM.out 3 rfl rfl rfl rfl rfl rfl ?_ | refine stbS rfl HM.out 4 rfl rfl rfl rfl rfl rfl ?_ | refine stbS rfl HM.out 5 rfl rfl rfl rfl rfl rfl ?_ | refine stbS rfl HM.out 6 rfl rfl rfl rfl rfl rfl ?_); intro W1 HM1; replace HM := Lib.hid HM1; clear HM1; simp only [lss, Nat.reduceAdd] at HM))))
  refine ⟨⟨⟨_, HM.out.sub (by repeat (first | exact List.nil_sublist _ | with_reducible refine List.Sublist.cons_cons _ ?_ | refine List.Sublist.cons _ ?_))⟩, rfl⟩, ?_⟩
  (try dsimp only)
  (repeat (first | ((with_reducible refine wpQuiet_nil ?_); (try dsimp only)) | go_big_quiet_step (fail) | quiet_step (fail)))
  clear HS0 hNE
  go_wp2_with fail
  exact bodyPost_ret (res_tmp_box_tmp rfl HM.out 6 rfl rfl rfl rfl rfl) rfl ⟨_, rfl, (HM.out.turn0 (k := 0) rfl (box_row (HM.out.get (k := 0) rfl) rfl (by decide)) (fun g e => e)).sub (.cons_cons _ (List.nil_sublist _))⟩

theorem fn_append (w : World) : Calls Tryd.prog 9 #[.string ⟨#[97, 112, 112, 101, 110, 100]⟩] w (FnPost (some ([⟨5, 0⟩, ⟨0, 0⟩], ⟨5, 0⟩)) w) := (fn_P w)

end Go.Proofs.YtpjcjgikfplgnaaDoor

namespace Go.Proofs.YtpjcjgikfplgnaaDoor
open Go.RowKit
set_option linter.unusedVariables false
set_option linter.unusedSimpArgs false
set_option maxRecDepth 100000

theorem bytes_of {s : ByteArray} {l : List UInt8} (h : (s.toList == l) = true) : s = ⟨l.toArray⟩ := by
  have h1 := beq_iff_eq.1 h
  rw [ByteArray.toList_eq] at h1
  apply ByteArray.ext
  apply Array.ext'
  exact h1
/-- What Function answers. -/
def fnF (l : List UInt8) : Option (List TyD × TyD) :=
  if l == [97, 98, 115] then some ([⟨2, 0⟩], ⟨2, 0⟩)
  else if l == [102, 108, 111, 111, 114] then some ([⟨2, 0⟩], ⟨2, 0⟩)
  else if l == [99, 101, 105, 108, 105, 110, 103] then some ([⟨2, 0⟩], ⟨2, 0⟩)
  else if l == [114, 111, 117, 110, 100] then some ([⟨2, 0⟩, ⟨2, 0⟩], ⟨2, 0⟩)
  else if l == [109, 111, 100, 117, 108, 111] then some ([⟨2, 0⟩, ⟨2, 0⟩], ⟨2, 0⟩)
  else if l == [109, 105, 110] then some ([⟨5, 2⟩], ⟨2, 0⟩)
  else if l == [109, 97, 120] then some ([⟨5, 2⟩], ⟨2, 0⟩)
  else if l == [115, 117, 109] then some ([⟨5, 2⟩], ⟨2, 0⟩)
  else if l == [99, 111, 117, 110, 116] then some ([⟨5, 0⟩], ⟨2, 0⟩)
  else if l == [99, 111, 110, 116, 97, 105, 110, 115] then some ([⟨3, 0⟩, ⟨3, 0⟩], ⟨1, 0⟩)
  else if l == [115, 116, 97, 114, 116, 115] then some ([⟨3, 0⟩, ⟨3, 0⟩], ⟨1, 0⟩)
  else if l == [108, 101, 110, 103, 116, 104] then some ([⟨3, 0⟩], ⟨2, 0⟩)
  else if l == [115, 117, 98, 115, 116, 114, 105, 110, 103] then some ([⟨3, 0⟩, ⟨2, 0⟩, ⟨2, 0⟩], ⟨3, 0⟩)
  else if l == [117, 112, 112, 101, 114] then some ([⟨3, 0⟩], ⟨3, 0⟩)
  else if l == [108, 111, 119, 101, 114] then some ([⟨3, 0⟩], ⟨3, 0⟩)
  else if l == [100, 97, 116, 101] then some ([⟨3, 0⟩], ⟨4, 0⟩)
  else if l == [121, 101, 97, 114] then some ([⟨4, 0⟩], ⟨2, 0⟩)
  else if l == [109, 111, 110, 116, 104] then some ([⟨4, 0⟩], ⟨2, 0⟩)
  else if l == [100, 97, 121] then some ([⟨4, 0⟩], ⟨2, 0⟩)
  else if l == [119, 101, 101, 107, 100, 97, 121] then some ([⟨4, 0⟩], ⟨2, 0⟩)
  else if l == [100, 97, 121, 115] then some ([⟨4, 0⟩, ⟨2, 0⟩], ⟨4, 0⟩)
  else if l == [109, 111, 110, 116, 104, 115] then some ([⟨4, 0⟩, ⟨2, 0⟩], ⟨4, 0⟩)
  else if l == [110, 101, 103, 97, 116, 101] then some ([⟨1, 0⟩], ⟨1, 0⟩)
  else if l == [97, 112, 112, 101, 110, 100] then some ([⟨5, 0⟩, ⟨0, 0⟩], ⟨5, 0⟩)
  else if l == [115, 116, 114, 105, 110, 103] then some ([⟨0, 0⟩], ⟨3, 0⟩)
  else none

set_option maxHeartbeats 4000000 in
theorem function_any (s : ByteArray) (w : World) : Calls Tryd.prog 9 #[.string s] w (FnPost (fnF s.toList) w) := by
  by_cases h0 : (s.toList == [97, 98, 115]) = true
  · rw [show fnF s.toList = some ([⟨2, 0⟩], ⟨2, 0⟩) by unfold fnF; simp only [h0, if_true, if_false, Bool.false_eq_true]]
    obtain rfl := bytes_of h0
    exact fn_abs w
  rw [Bool.not_eq_true] at h0
  by_cases h1 : (s.toList == [102, 108, 111, 111, 114]) = true
  · rw [show fnF s.toList = some ([⟨2, 0⟩], ⟨2, 0⟩) by unfold fnF; simp only [h0, h1, if_true, if_false, Bool.false_eq_true]]
    obtain rfl := bytes_of h1
    exact fn_floor w
  rw [Bool.not_eq_true] at h1
  by_cases h2 : (s.toList == [99, 101, 105, 108, 105, 110, 103]) = true
  · rw [show fnF s.toList = some ([⟨2, 0⟩], ⟨2, 0⟩) by unfold fnF; simp only [h0, h1, h2, if_true, if_false, Bool.false_eq_true]]
    obtain rfl := bytes_of h2
    exact fn_ceiling w
  rw [Bool.not_eq_true] at h2
  by_cases h3 : (s.toList == [114, 111, 117, 110, 100]) = true
  · rw [show fnF s.toList = some ([⟨2, 0⟩, ⟨2, 0⟩], ⟨2, 0⟩) by unfold fnF; simp only [h0, h1, h2, h3, if_true, if_false, Bool.false_eq_true]]
    obtain rfl := bytes_of h3
    exact fn_round w
  rw [Bool.not_eq_true] at h3
  by_cases h4 : (s.toList == [109, 111, 100, 117, 108, 111]) = true
  · rw [show fnF s.toList = some ([⟨2, 0⟩, ⟨2, 0⟩], ⟨2, 0⟩) by unfold fnF; simp only [h0, h1, h2, h3, h4, if_true, if_false, Bool.false_eq_true]]
    obtain rfl := bytes_of h4
    exact fn_modulo w
  rw [Bool.not_eq_true] at h4
  by_cases h5 : (s.toList == [109, 105, 110]) = true
  · rw [show fnF s.toList = some ([⟨5, 2⟩], ⟨2, 0⟩) by unfold fnF; simp only [h0, h1, h2, h3, h4, h5, if_true, if_false, Bool.false_eq_true]]
    obtain rfl := bytes_of h5
    exact fn_min w
  rw [Bool.not_eq_true] at h5
  by_cases h6 : (s.toList == [109, 97, 120]) = true
  · rw [show fnF s.toList = some ([⟨5, 2⟩], ⟨2, 0⟩) by unfold fnF; simp only [h0, h1, h2, h3, h4, h5, h6, if_true, if_false, Bool.false_eq_true]]
    obtain rfl := bytes_of h6
    exact fn_max w
  rw [Bool.not_eq_true] at h6
  by_cases h7 : (s.toList == [115, 117, 109]) = true
  · rw [show fnF s.toList = some ([⟨5, 2⟩], ⟨2, 0⟩) by unfold fnF; simp only [h0, h1, h2, h3, h4, h5, h6, h7, if_true, if_false, Bool.false_eq_true]]
    obtain rfl := bytes_of h7
    exact fn_sum w
  rw [Bool.not_eq_true] at h7
  by_cases h8 : (s.toList == [99, 111, 117, 110, 116]) = true
  · rw [show fnF s.toList = some ([⟨5, 0⟩], ⟨2, 0⟩) by unfold fnF; simp only [h0, h1, h2, h3, h4, h5, h6, h7, h8, if_true, if_false, Bool.false_eq_true]]
    obtain rfl := bytes_of h8
    exact fn_count w
  rw [Bool.not_eq_true] at h8
  by_cases h9 : (s.toList == [99, 111, 110, 116, 97, 105, 110, 115]) = true
  · rw [show fnF s.toList = some ([⟨3, 0⟩, ⟨3, 0⟩], ⟨1, 0⟩) by unfold fnF; simp only [h0, h1, h2, h3, h4, h5, h6, h7, h8, h9, if_true, if_false, Bool.false_eq_true]]
    obtain rfl := bytes_of h9
    exact fn_contains w
  rw [Bool.not_eq_true] at h9
  by_cases h10 : (s.toList == [115, 116, 97, 114, 116, 115]) = true
  · rw [show fnF s.toList = some ([⟨3, 0⟩, ⟨3, 0⟩], ⟨1, 0⟩) by unfold fnF; simp only [h0, h1, h2, h3, h4, h5, h6, h7, h8, h9, h10, if_true, if_false, Bool.false_eq_true]]
    obtain rfl := bytes_of h10
    exact fn_starts w
  rw [Bool.not_eq_true] at h10
  by_cases h11 : (s.toList == [108, 101, 110, 103, 116, 104]) = true
  · rw [show fnF s.toList = some ([⟨3, 0⟩], ⟨2, 0⟩) by unfold fnF; simp only [h0, h1, h2, h3, h4, h5, h6, h7, h8, h9, h10, h11, if_true, if_false, Bool.false_eq_true]]
    obtain rfl := bytes_of h11
    exact fn_length w
  rw [Bool.not_eq_true] at h11
  by_cases h12 : (s.toList == [115, 117, 98, 115, 116, 114, 105, 110, 103]) = true
  · rw [show fnF s.toList = some ([⟨3, 0⟩, ⟨2, 0⟩, ⟨2, 0⟩], ⟨3, 0⟩) by unfold fnF; simp only [h0, h1, h2, h3, h4, h5, h6, h7, h8, h9, h10, h11, h12, if_true, if_false, Bool.false_eq_true]]
    obtain rfl := bytes_of h12
    exact fn_substring w
  rw [Bool.not_eq_true] at h12
  by_cases h13 : (s.toList == [117, 112, 112, 101, 114]) = true
  · rw [show fnF s.toList = some ([⟨3, 0⟩], ⟨3, 0⟩) by unfold fnF; simp only [h0, h1, h2, h3, h4, h5, h6, h7, h8, h9, h10, h11, h12, h13, if_true, if_false, Bool.false_eq_true]]
    obtain rfl := bytes_of h13
    exact fn_upper w
  rw [Bool.not_eq_true] at h13
  by_cases h14 : (s.toList == [108, 111, 119, 101, 114]) = true
  · rw [show fnF s.toList = some ([⟨3, 0⟩], ⟨3, 0⟩) by unfold fnF; simp only [h0, h1, h2, h3, h4, h5, h6, h7, h8, h9, h10, h11, h12, h13, h14, if_true, if_false, Bool.false_eq_true]]
    obtain rfl := bytes_of h14
    exact fn_lower w
  rw [Bool.not_eq_true] at h14
  by_cases h15 : (s.toList == [100, 97, 116, 101]) = true
  · rw [show fnF s.toList = some ([⟨3, 0⟩], ⟨4, 0⟩) by unfold fnF; simp only [h0, h1, h2, h3, h4, h5, h6, h7, h8, h9, h10, h11, h12, h13, h14, h15, if_true, if_false, Bool.false_eq_true]]
    obtain rfl := bytes_of h15
    exact fn_date w
  rw [Bool.not_eq_true] at h15
  by_cases h16 : (s.toList == [121, 101, 97, 114]) = true
  · rw [show fnF s.toList = some ([⟨4, 0⟩], ⟨2, 0⟩) by unfold fnF; simp only [h0, h1, h2, h3, h4, h5, h6, h7, h8, h9, h10, h11, h12, h13, h14, h15, h16, if_true, if_false, Bool.false_eq_true]]
    obtain rfl := bytes_of h16
    exact fn_year w
  rw [Bool.not_eq_true] at h16
  by_cases h17 : (s.toList == [109, 111, 110, 116, 104]) = true
  · rw [show fnF s.toList = some ([⟨4, 0⟩], ⟨2, 0⟩) by unfold fnF; simp only [h0, h1, h2, h3, h4, h5, h6, h7, h8, h9, h10, h11, h12, h13, h14, h15, h16, h17, if_true, if_false, Bool.false_eq_true]]
    obtain rfl := bytes_of h17
    exact fn_month w
  rw [Bool.not_eq_true] at h17
  by_cases h18 : (s.toList == [100, 97, 121]) = true
  · rw [show fnF s.toList = some ([⟨4, 0⟩], ⟨2, 0⟩) by unfold fnF; simp only [h0, h1, h2, h3, h4, h5, h6, h7, h8, h9, h10, h11, h12, h13, h14, h15, h16, h17, h18, if_true, if_false, Bool.false_eq_true]]
    obtain rfl := bytes_of h18
    exact fn_day w
  rw [Bool.not_eq_true] at h18
  by_cases h19 : (s.toList == [119, 101, 101, 107, 100, 97, 121]) = true
  · rw [show fnF s.toList = some ([⟨4, 0⟩], ⟨2, 0⟩) by unfold fnF; simp only [h0, h1, h2, h3, h4, h5, h6, h7, h8, h9, h10, h11, h12, h13, h14, h15, h16, h17, h18, h19, if_true, if_false, Bool.false_eq_true]]
    obtain rfl := bytes_of h19
    exact fn_weekday w
  rw [Bool.not_eq_true] at h19
  by_cases h20 : (s.toList == [100, 97, 121, 115]) = true
  · rw [show fnF s.toList = some ([⟨4, 0⟩, ⟨2, 0⟩], ⟨4, 0⟩) by unfold fnF; simp only [h0, h1, h2, h3, h4, h5, h6, h7, h8, h9, h10, h11, h12, h13, h14, h15, h16, h17, h18, h19, h20, if_true, if_false, Bool.false_eq_true]]
    obtain rfl := bytes_of h20
    exact fn_days w
  rw [Bool.not_eq_true] at h20
  by_cases h21 : (s.toList == [109, 111, 110, 116, 104, 115]) = true
  · rw [show fnF s.toList = some ([⟨4, 0⟩, ⟨2, 0⟩], ⟨4, 0⟩) by unfold fnF; simp only [h0, h1, h2, h3, h4, h5, h6, h7, h8, h9, h10, h11, h12, h13, h14, h15, h16, h17, h18, h19, h20, h21, if_true, if_false, Bool.false_eq_true]]
    obtain rfl := bytes_of h21
    exact fn_months w
  rw [Bool.not_eq_true] at h21
  by_cases h22 : (s.toList == [110, 101, 103, 97, 116, 101]) = true
  · rw [show fnF s.toList = some ([⟨1, 0⟩], ⟨1, 0⟩) by unfold fnF; simp only [h0, h1, h2, h3, h4, h5, h6, h7, h8, h9, h10, h11, h12, h13, h14, h15, h16, h17, h18, h19, h20, h21, h22, if_true, if_false, Bool.false_eq_true]]
    obtain rfl := bytes_of h22
    exact fn_negate w
  rw [Bool.not_eq_true] at h22
  by_cases h23 : (s.toList == [97, 112, 112, 101, 110, 100]) = true
  · rw [show fnF s.toList = some ([⟨5, 0⟩, ⟨0, 0⟩], ⟨5, 0⟩) by unfold fnF; simp only [h0, h1, h2, h3, h4, h5, h6, h7, h8, h9, h10, h11, h12, h13, h14, h15, h16, h17, h18, h19, h20, h21, h22, h23, if_true, if_false, Bool.false_eq_true]]
    obtain rfl := bytes_of h23
    exact fn_append w
  rw [Bool.not_eq_true] at h23
  by_cases h24 : (s.toList == [115, 116, 114, 105, 110, 103]) = true
  · rw [show fnF s.toList = some ([⟨0, 0⟩], ⟨3, 0⟩) by unfold fnF; simp only [h0, h1, h2, h3, h4, h5, h6, h7, h8, h9, h10, h11, h12, h13, h14, h15, h16, h17, h18, h19, h20, h21, h22, h23, h24, if_true, if_false, Bool.false_eq_true]]
    obtain rfl := bytes_of h24
    exact fn_string w
  rw [Bool.not_eq_true] at h24
  rw [show fnF s.toList = none by unfold fnF; simp only [h0, h1, h2, h3, h4, h5, h6, h7, h8, h9, h10, h11, h12, h13, h14, h15, h16, h17, h18, h19, h20, h21, h22, h23, h24, if_false, Bool.false_eq_true]]
  have HM := Lib.hid (Mem.start w)
  go_enter Tryd.func9, Tryd.ntmps9
  go_wp2_with (first | (go_at_call 17; (with_reducible refine (cof_any _ _).mono ?_); rintro e W1 ⟨rfl, hb⟩; replace HM := Lib.hid (HM.out.next hb); clear hb) | ((with_reducible refine iload ?_); first | refine ldbW HM.out 0 rfl rfl rfl ?_ | refine ldbW HM.out 1 rfl rfl rfl ?_ | refine ldbW HM.out 2 rfl rfl rfl ?_ | refine ldbW HM.out 3 rfl rfl rfl ?_ | refine ldbW HM.out 4 rfl rfl rfl ?_ | refine ldbW HM.out 5 rfl rfl rfl ?_ | refine ldbW HM.out 6 rfl rfl rfl ?_ | ((first | refine ldbS HM.out 0 rfl rfl rfl ?_ | refine ldbS HM.out 1 rfl rfl rfl ?_ | refine ldbS HM.out 2 rfl rfl rfl ?_ | refine ldbS HM.out 3 rfl rfl rfl ?_ | refine ldbS HM.out 4 rfl rfl rfl ?_ | refine ldbS HM.out 5 rfl rfl rfl ?_ | refine ldbS HM.out 6 rfl rfl rfl ?_); simp only [List.take, List.drop])) | ((with_reducible refine istore ?_); (first | ((first | refine stbW rfl HM.out 0 rfl rfl rfl rfl rfl rfl ?_ | refine stbW rfl HM.out 1 rfl rfl rfl rfl rfl rfl ?_ | refine stbW rfl HM.out 2 rfl rfl rfl rfl rfl rfl ?_ | refine stbW rfl HM.out 3 rfl rfl rfl rfl rfl rfl ?_ | refine stbW rfl HM.out 4 rfl rfl rfl rfl rfl rfl ?_ | refine stbW rfl HM.out 5 rfl rfl rfl rfl rfl rfl ?_ | refine stbW rfl HM.out 6 rfl rfl rfl rfl rfl rfl ?_); intro W1 HM1; replace HM := Lib.hid HM1; clear HM1; simp only [List.set] at HM) | ((first | refine stbS rfl HM.out 0 rfl rfl rfl rfl rfl rfl ?_ | refine stbS rfl HM.out 1 rfl rfl rfl rfl rfl rfl ?_ | refine stbS rfl HM.out 2 rfl rfl rfl rfl rfl rfl ?_ | refine stbS rfl HM.out 3 rfl rfl rfl rfl rfl rfl ?_ | refine stbS rfl HM.out 4 rfl rfl rfl rfl rfl rfl ?_ | refine stbS rfl HM.out 5 rfl rfl rfl rfl rfl rfl ?_ | refine stbS rfl HM.out 6 rfl rfl rfl rfl rfl rfl ?_); intro W1 HM1; replace HM := Lib.hid HM1; clear HM1; simp only [lss, Nat.reduceAdd] at HM))) | ((with_reducible refine ibuildSlice ?_); refine bs1A rfl HM.out rfl rfl rfl ?_; intro g1 W1 HM1; replace HM := Lib.hid HM1; clear HM1) | ((with_reducible refine ialloc ?_); refine alb rfl HM.out ?_; intro g1 W1 HM1; replace HM := Lib.hid HM1; clear HM1))
  exact bodyPost_ret (res_tmp_box_tmp rfl HM.out 5 rfl rfl rfl rfl rfl) rfl ⟨rfl, HM.out.below⟩
end Go.Proofs.YtpjcjgikfplgnaaDoor
