/- The reference's Function, at each of its names. Printed by wip/tools/gen_fn2.py. (fast) -/
import Derived.Test.YtpjcjgikfplgnaaDoorThingA
import Derived.Test.YtpjcjgikfplgnaaDoorSepA
namespace Go.Proofs.YtpjcjgikfplgnaaDoor
open Go.RowKit
set_option linter.unusedVariables false
set_option linter.unusedSimpArgs false
set_option maxRecDepth 100000

set_option maxHeartbeats 40000000 in
theorem rfn_A (w : World) : Calls Tryd.prog 16 #[.string ⟨#[97, 98, 115]⟩] w (RFnPost (some ([⟨2, 0⟩], ⟨2, 0⟩)) w) ∧
    Calls Tryd.prog 16 #[.string ⟨#[102, 108, 111, 111, 114]⟩] w (RFnPost (some ([⟨2, 0⟩], ⟨2, 0⟩)) w) ∧
    Calls Tryd.prog 16 #[.string ⟨#[99, 101, 105, 108, 105, 110, 103]⟩] w (RFnPost (some ([⟨2, 0⟩], ⟨2, 0⟩)) w) ∧
    Calls Tryd.prog 16 #[.string ⟨#[108, 101, 110, 103, 116, 104]⟩] w (RFnPost (some ([⟨3, 0⟩], ⟨2, 0⟩)) w) ∧
    Calls Tryd.prog 16 #[.string ⟨#[117, 112, 112, 101, 114]⟩] w (RFnPost (some ([⟨3, 0⟩], ⟨3, 0⟩)) w) ∧
    Calls Tryd.prog 16 #[.string ⟨#[108, 111, 119, 101, 114]⟩] w (RFnPost (some ([⟨3, 0⟩], ⟨3, 0⟩)) w) ∧
    Calls Tryd.prog 16 #[.string ⟨#[100, 97, 116, 101]⟩] w (RFnPost (some ([⟨3, 0⟩], ⟨4, 0⟩)) w) ∧
    Calls Tryd.prog 16 #[.string ⟨#[121, 101, 97, 114]⟩] w (RFnPost (some ([⟨4, 0⟩], ⟨2, 0⟩)) w) ∧
    Calls Tryd.prog 16 #[.string ⟨#[109, 111, 110, 116, 104]⟩] w (RFnPost (some ([⟨4, 0⟩], ⟨2, 0⟩)) w) ∧
    Calls Tryd.prog 16 #[.string ⟨#[100, 97, 121]⟩] w (RFnPost (some ([⟨4, 0⟩], ⟨2, 0⟩)) w) ∧
    Calls Tryd.prog 16 #[.string ⟨#[119, 101, 101, 107, 100, 97, 121]⟩] w (RFnPost (some ([⟨4, 0⟩], ⟨2, 0⟩)) w) := by
  refine ⟨?_, ?_, ?_, ?_, ?_, ?_, ?_, ?_, ?_, ?_, ?_⟩
  all_goals
    have HM := Lib.hid (Mem.start w)
    go_enter Tryd.func16, Tryd.ntmps16
    go_wp2_with (first | (go_at_call 29; (with_reducible refine (rof_any _ _).mono ?_); rintro e W1 ⟨rfl, hb⟩; replace HM := Lib.hid (HM.out.next hb); clear hb) | (go_at_call 30; (with_reducible refine (rlist_any _ _).mono ?_); rintro e W1 ⟨rfl, hb⟩; replace HM := Lib.hid (HM.out.next hb); clear hb) | (refine bs3T rfl HM.out rfl rfl rfl ?_; intro g1 W1 HM1; replace HM := Lib.hid HM1; clear HM1) | (refine bs2T rfl HM.out rfl rfl ?_; intro g1 W1 HM1; replace HM := Lib.hid HM1; clear HM1) | ((with_reducible refine iload ?_); first | refine ldbW HM.out 0 rfl rfl rfl ?_ | refine ldbW HM.out 1 rfl rfl rfl ?_ | refine ldbW HM.out 2 rfl rfl rfl ?_ | refine ldbW HM.out 3 rfl rfl rfl ?_ | refine ldbW HM.out 4 rfl rfl rfl ?_ | ((first | refine ldbS HM.out 0 rfl rfl rfl ?_ | refine ldbS HM.out 1 rfl rfl rfl ?_ | refine ldbS HM.out 2 rfl rfl rfl ?_ | refine ldbS HM.out 3 rfl rfl rfl ?_ | refine ldbS HM.out 4 rfl rfl rfl ?_); simp only [List.take, List.drop])) | ((with_reducible refine istore ?_); (first | ((first | refine stbW rfl HM.out 0 rfl rfl rfl rfl rfl rfl ?_ | refine stbW rfl HM.out 1 rfl rfl rfl rfl rfl rfl ?_ | refine stbW rfl HM.out 2 rfl rfl rfl rfl rfl rfl ?_ | refine stbW rfl HM.out 3 rfl rfl rfl rfl rfl rfl ?_ | refine stbW rfl HM.out 4 rfl rfl rfl rfl rfl rfl ?_); intro W1 HM1; replace HM := Lib.hid HM1; clear HM1; simp only [List.set] at HM) | ((first | refine stbS rfl HM.out 0 rfl rfl rfl rfl rfl rfl ?_ | refine stbS rfl HM.out 1 rfl rfl rfl rfl rfl rfl ?_ | refine stbS rfl HM.out 2 rfl rfl rfl rfl rfl rfl ?_ | refine stbS rfl HM.out 3 rfl rfl rfl rfl rfl rfl ?_ | refine stbS rfl HM.out 4 rfl rfl rfl rfl rfl rfl ?_); intro W1 HM1; replace HM := Lib.hid HM1; clear HM1; simp only [lss, Nat.reduceAdd] at HM))) | ((with_reducible refine ibuildSlice ?_); refine bs1A rfl HM.out rfl rfl rfl ?_; intro g1 W1 HM1; replace HM := Lib.hid HM1; clear HM1) | ((with_reducible refine ialloc ?_); refine alb rfl HM.out ?_; intro g1 W1 HM1; replace HM := Lib.hid HM1; clear HM1))
    refine wp_region_steps2 [(true, 0), (true, 2), (false, 1), (true, 3), (false, 4), (true, 5)] (by kernel_rfl) (by kernel_rfl) rfl (by kernel_rfl) (fun _ _ _ _ _ h => h) HM.out _ (.cons_cons _ (.cons_cons _ (.cons_cons _ (.cons _ .slnil)))) ?_
    intro hNE W1 HM1; replace HM := Lib.hid HM1; clear HM1
    have HS0 := Lib.hid (HM.out.sub (.cons_cons _ (.cons_cons _ (.cons_cons _ (.cons _ .slnil)))))
    simp only [wpSteps, List.getElem?_cons_succ, List.getElem?_cons_zero]
    (repeat (first | ((with_reducible refine wpQuiet_nil ?_); (try dsimp only)) | ((with_reducible refine qload ?_); first | (refine qdbW HS0.out 0 rfl rfl rfl ?_) | (refine qdbW HS0.out 1 rfl rfl rfl ?_) | (refine qdbW HS0.out 2 rfl rfl rfl ?_) | (refine qdbS HS0.out 0 rfl rfl rfl ?_; simp only [List.take, List.drop]) | (refine qdbS HS0.out 1 rfl rfl rfl ?_; simp only [List.take, List.drop]) | (refine qdbS HS0.out 2 rfl rfl rfl ?_; simp only [List.take, List.drop])) | go_big_quiet_step (fail) | quiet_step (fail)))
    go_wp2_with (first | (refine bs3T rfl HM.out rfl rfl rfl ?_; intro g1 W1 HM1; replace HM := Lib.hid HM1; clear HM1) | (refine bs2T rfl HM.out rfl rfl ?_; intro g1 W1 HM1; replace HM := Lib.hid HM1; clear HM1) | ((with_reducible refine ibuildSlice ?_); refine bs1A rfl HM.out rfl rfl rfl ?_; intro g1 W1 HM1; replace HM := Lib.hid HM1; clear HM1))
    refine ⟨⟨⟨_, HM.out.sub (by repeat (first | exact List.nil_sublist _ | with_reducible refine List.Sublist.cons_cons _ ?_ | refine List.Sublist.cons _ ?_))⟩, rfl⟩, ?_⟩
    (try dsimp only)
    (repeat (first | ((with_reducible refine wpQuiet_nil ?_); (try dsimp only)) | go_big_quiet_step (fail) | quiet_step (fail)))
    go_wp2_with (first | ((with_reducible refine istore ?_); (first | ((first | refine stbW rfl HM.out 0 rfl rfl rfl rfl rfl rfl ?_ | refine stbW rfl HM.out 1 rfl rfl rfl rfl rfl rfl ?_ | refine stbW rfl HM.out 2 rfl rfl rfl rfl rfl rfl ?_ | refine stbW rfl HM.out 3 rfl rfl rfl rfl rfl rfl ?_ | refine stbW rfl HM.out 4 rfl rfl rfl rfl rfl rfl ?_); intro W1 HM1; replace HM := Lib.hid HM1; clear HM1; simp only [List.set] at HM) | ((first | refine stbS rfl HM.out 0 rfl rfl rfl rfl rfl rfl ?_ | refine stbS rfl HM.out 1 rfl rfl rfl rfl rfl rfl ?_ | refine stbS rfl HM.out 2 rfl rfl rfl rfl rfl rfl ?_ | refine stbS rfl HM.out 3 rfl rfl rfl rfl rfl rfl ?_ | refine stbS rfl HM.out 4 rfl rfl rfl rfl rfl rfl ?_); intro W1 HM1; replace HM := Lib.hid HM1; clear HM1; simp only [lss, Nat.reduceAdd] at HM))))
    refine ⟨⟨⟨_, HM.out.sub (by repeat (first | exact List.nil_sublist _ | with_reducible refine List.Sublist.cons_cons _ ?_ | refine List.Sublist.cons _ ?_))⟩, rfl⟩, ?_⟩
    (try dsimp only)
    (repeat (first | ((with_reducible refine wpQuiet_nil ?_); (try dsimp only)) | go_big_quiet_step (fail) | quiet_step (fail)))
    clear HS0 hNE
    go_wp2_with fail
    exact bodyPost_ret (res_tmp_box_tmp rfl HM.out 4 rfl rfl rfl rfl rfl) rfl ⟨_, rfl, (HM.out.turn0 (k := 0) rfl (box_row (HM.out.get (k := 0) rfl) rfl (by decide)) (fun g e => e)).sub (.cons_cons _ (List.nil_sublist _))⟩

theorem rfn_abs (w : World) : Calls Tryd.prog 16 #[.string ⟨#[97, 98, 115]⟩] w (RFnPost (some ([⟨2, 0⟩], ⟨2, 0⟩)) w) := (rfn_A w).1
theorem rfn_floor (w : World) : Calls Tryd.prog 16 #[.string ⟨#[102, 108, 111, 111, 114]⟩] w (RFnPost (some ([⟨2, 0⟩], ⟨2, 0⟩)) w) := (rfn_A w).2.1
theorem rfn_ceiling (w : World) : Calls Tryd.prog 16 #[.string ⟨#[99, 101, 105, 108, 105, 110, 103]⟩] w (RFnPost (some ([⟨2, 0⟩], ⟨2, 0⟩)) w) := (rfn_A w).2.2.1
theorem rfn_length (w : World) : Calls Tryd.prog 16 #[.string ⟨#[108, 101, 110, 103, 116, 104]⟩] w (RFnPost (some ([⟨3, 0⟩], ⟨2, 0⟩)) w) := (rfn_A w).2.2.2.1
theorem rfn_upper (w : World) : Calls Tryd.prog 16 #[.string ⟨#[117, 112, 112, 101, 114]⟩] w (RFnPost (some ([⟨3, 0⟩], ⟨3, 0⟩)) w) := (rfn_A w).2.2.2.2.1
theorem rfn_lower (w : World) : Calls Tryd.prog 16 #[.string ⟨#[108, 111, 119, 101, 114]⟩] w (RFnPost (some ([⟨3, 0⟩], ⟨3, 0⟩)) w) := (rfn_A w).2.2.2.2.2.1
theorem rfn_date (w : World) : Calls Tryd.prog 16 #[.string ⟨#[100, 97, 116, 101]⟩] w (RFnPost (some ([⟨3, 0⟩], ⟨4, 0⟩)) w) := (rfn_A w).2.2.2.2.2.2.1
theorem rfn_year (w : World) : Calls Tryd.prog 16 #[.string ⟨#[121, 101, 97, 114]⟩] w (RFnPost (some ([⟨4, 0⟩], ⟨2, 0⟩)) w) := (rfn_A w).2.2.2.2.2.2.2.1
theorem rfn_month (w : World) : Calls Tryd.prog 16 #[.string ⟨#[109, 111, 110, 116, 104]⟩] w (RFnPost (some ([⟨4, 0⟩], ⟨2, 0⟩)) w) := (rfn_A w).2.2.2.2.2.2.2.2.1
theorem rfn_day (w : World) : Calls Tryd.prog 16 #[.string ⟨#[100, 97, 121]⟩] w (RFnPost (some ([⟨4, 0⟩], ⟨2, 0⟩)) w) := (rfn_A w).2.2.2.2.2.2.2.2.2.1
theorem rfn_weekday (w : World) : Calls Tryd.prog 16 #[.string ⟨#[119, 101, 101, 107, 100, 97, 121]⟩] w (RFnPost (some ([⟨4, 0⟩], ⟨2, 0⟩)) w) := (rfn_A w).2.2.2.2.2.2.2.2.2.2

set_option maxHeartbeats 40000000 in
theorem rfn_C (w : World) : Calls Tryd.prog 16 #[.string ⟨#[115, 117, 98, 115, 116, 114, 105, 110, 103]⟩] w (RFnPost (some ([⟨3, 0⟩, ⟨2, 0⟩, ⟨2, 0⟩], ⟨3, 0⟩)) w) := by
  have HM := Lib.hid (Mem.start w)
  go_enter Tryd.func16, Tryd.ntmps16
  go_wp2_with (first | (go_at_call 29; (with_reducible refine (rof_any _ _).mono ?_); rintro e W1 ⟨rfl, hb⟩; replace HM := Lib.hid (HM.out.next hb); clear hb) | (go_at_call 30; (with_reducible refine (rlist_any _ _).mono ?_); rintro e W1 ⟨rfl, hb⟩; replace HM := Lib.hid (HM.out.next hb); clear hb) | (refine bs3T rfl HM.out rfl rfl rfl ?_; intro g1 W1 HM1; replace HM := Lib.hid HM1; clear HM1) | (refine bs2T rfl HM.out rfl rfl ?_; intro g1 W1 HM1; replace HM := Lib.hid HM1; clear HM1) | ((with_reducible refine iload ?_); first | refine ldbW HM.out 0 rfl rfl rfl ?_ | refine ldbW HM.out 1 rfl rfl rfl ?_ | refine ldbW HM.out 2 rfl rfl rfl ?_ | refine ldbW HM.out 3 rfl rfl rfl ?_ | refine ldbW HM.out 4 rfl rfl rfl ?_ | ((first | refine ldbS HM.out 0 rfl rfl rfl ?_ | refine ldbS HM.out 1 rfl rfl rfl ?_ | refine ldbS HM.out 2 rfl rfl rfl ?_ | refine ldbS HM.out 3 rfl rfl rfl ?_ | refine ldbS HM.out 4 rfl rfl rfl ?_); simp only [List.take, List.drop])) | ((with_reducible refine istore ?_); (first | ((first | refine stbW rfl HM.out 0 rfl rfl rfl rfl rfl rfl ?_ | refine stbW rfl HM.out 1 rfl rfl rfl rfl rfl rfl ?_ | refine stbW rfl HM.out 2 rfl rfl rfl rfl rfl rfl ?_ | refine stbW rfl HM.out 3 rfl rfl rfl rfl rfl rfl ?_ | refine stbW rfl HM.out 4 rfl rfl rfl rfl rfl rfl ?_); intro W1 HM1; replace HM := Lib.hid HM1; clear HM1; simp only [List.set] at HM) | ((first | refine stbS rfl HM.out 0 rfl rfl rfl rfl rfl rfl ?_ | refine stbS rfl HM.out 1 rfl rfl rfl rfl rfl rfl ?_ | refine stbS rfl HM.out 2 rfl rfl rfl rfl rfl rfl ?_ | refine stbS rfl HM.out 3 rfl rfl rfl rfl rfl rfl ?_ | refine stbS rfl HM.out 4 rfl rfl rfl rfl rfl rfl ?_); intro W1 HM1; replace HM := Lib.hid HM1; clear HM1; simp only [lss, Nat.reduceAdd] at HM))) | ((with_reducible refine ibuildSlice ?_); refine bs1A rfl HM.out rfl rfl rfl ?_; intro g1 W1 HM1; replace HM := Lib.hid HM1; clear HM1) | ((with_reducible refine ialloc ?_); refine alb rfl HM.out ?_; intro g1 W1 HM1; replace HM := Lib.hid HM1; clear HM1))
  refine wp_region_steps2 [(true, 0), (true, 1), (true, 2), (true, 4), (false, 3), (true, 5), (false, 6), (true, 7)] (by kernel_rfl) (by kernel_rfl) rfl (by kernel_rfl) (fun _ _ _ _ _ h => h) HM.out _ (.cons_cons _ (.cons_cons _ (.cons_cons _ (.cons _ .slnil)))) ?_
  intro hNE W1 HM1; replace HM := Lib.hid HM1; clear HM1
  have HS0 := Lib.hid (HM.out.sub (.cons_cons _ (.cons_cons _ (.cons_cons _ (.cons _ .slnil)))))
  simp only [wpSteps, List.getElem?_cons_succ, List.getElem?_cons_zero]
  (repeat (first | ((with_reducible refine wpQuiet_nil ?_); (try dsimp only)) | ((with_reducible refine qload ?_); first | (refine qdbW HS0.out 0 rfl rfl rfl ?_) | (refine qdbW HS0.out 1 rfl rfl rfl ?_) | (refine qdbW HS0.out 2 rfl rfl rfl ?_) | (refine qdbS HS0.out 0 rfl rfl rfl ?_; simp only [List.take, List.drop]) | (refine qdbS HS0.out 1 rfl rfl rfl ?_; simp only [List.take, List.drop]) | (refine qdbS HS0.out 2 rfl rfl rfl ?_; simp only [List.take, List.drop])) | go_big_quiet_step (fail) | quiet_step (fail)))
  go_wp2_with (first | (refine bs3T rfl HM.out rfl rfl rfl ?_; intro g1 W1 HM1; replace HM := Lib.hid HM1; clear HM1) | (refine bs2T rfl HM.out rfl rfl ?_; intro g1 W1 HM1; replace HM := Lib.hid HM1; clear HM1))
  refine ⟨⟨⟨_, HM.out.sub (by repeat (first | exact List.nil_sublist _ | with_reducible refine List.Sublist.cons_cons _ ?_ | refine List.Sublist.cons _ ?_))⟩, rfl⟩, ?_⟩
  (try dsimp only)
  (repeat (first | ((with_reducible refine wpQuiet_nil ?_); (try dsimp only)) | go_big_quiet_step (fail) | quiet_step (fail)))
  go_wp2_with (first | ((with_reducible refine istore ?_); (first | ((first | refine stbW rfl HM.out 0 rfl rfl rfl rfl rfl rfl ?_ | refine stbW rfl HM.out 1 rfl rfl rfl rfl rfl rfl ?_ | refine stbW rfl HM.out 2 rfl rfl rfl rfl rfl rfl ?_ | refine stbW rfl HM.out 3 rfl rfl rfl rfl rfl rfl ?_ | refine stbW rfl HM.out 4 rfl rfl rfl rfl rfl rfl ?_); intro W1 HM1; replace HM := Lib.hid HM1; clear HM1; simp only [List.set] at HM) | ((first | refine stbS rfl HM.out 0 rfl rfl rfl rfl rfl rfl ?_ | refine stbS rfl HM.out 1 rfl rfl rfl rfl rfl rfl ?_ | refine stbS rfl HM.out 2 rfl rfl rfl rfl rfl rfl ?_ | refine stbS rfl HM.out 3 rfl rfl rfl rfl rfl rfl ?_ | refine stbS rfl HM.out 4 rfl rfl rfl rfl rfl rfl ?_); intro W1 HM1; replace HM := Lib.hid HM1; clear HM1; simp only [lss, Nat.reduceAdd] at HM))))
  refine ⟨⟨⟨_, HM.out.sub (by repeat (first | exact List.nil_sublist _ | with_reducible refine List.Sublist.cons_cons _ ?_ | refine List.Sublist.cons _ ?_))⟩, rfl⟩, ?_⟩
  (try dsimp only)
  (repeat (first | ((with_reducible refine wpQuiet_nil ?_); (try dsimp only)) | go_big_quiet_step (fail) | quiet_step (fail)))
  clear HS0 hNE
  go_wp2_with fail
  exact bodyPost_ret (res_tmp_box_tmp rfl HM.out 4 rfl rfl rfl rfl rfl) rfl ⟨_, rfl, (HM.out.turn0 (k := 0) rfl (box_row (HM.out.get (k := 0) rfl) rfl (by decide)) (fun g e => e)).sub (.cons_cons _ (List.nil_sublist _))⟩

theorem rfn_substring (w : World) : Calls Tryd.prog 16 #[.string ⟨#[115, 117, 98, 115, 116, 114, 105, 110, 103]⟩] w (RFnPost (some ([⟨3, 0⟩, ⟨2, 0⟩, ⟨2, 0⟩], ⟨3, 0⟩)) w) := (rfn_C w)

end Go.Proofs.YtpjcjgikfplgnaaDoor
