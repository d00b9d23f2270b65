/- The walks over four laws of layer 3: each returns true, whatever the arguments. -/
import Derived.Test.YteigpfdnecfejaaDoorDateText
namespace Go.Proofs.YteigpfdnecfejaaDoor
open Go.RowKit Go.Sort
set_option linter.unusedVariables false

theorem spl_one : Cal.splY 1 = 1 ∧ Cal.splM 1 = 1 ∧ Cal.splD 1 = 1 := by
  have h : Cal.IsDay 1 1 1 1 := ⟨by decide, by decide, by decide, by decide, by decide, by decide, by decide⟩
  obtain ⟨a, b, c⟩ := Cal.spl_of h
  exact ⟨a.symm, b.symm, c.symm⟩

theorem itoa_one : Lib.itoa 1 = [49] := by
  unfold Lib.itoa
  rw [if_neg (by decide)]
  unfold Lib.decDigits
  rfl

theorem day_one : dayB 1 = ⟨#[48, 48, 48, 49, 45, 48, 49, 45, 48, 49]⟩ := by
  obtain ⟨a, b, c⟩ := spl_one
  unfold dayB
  rw [if_pos (by decide), a, b, c]
  unfold dateB padB
  rw [itoa_one]
  decide

theorem day_last : Cal.dayV 9999 12 31 = 3652059 ∧ Cal.dayE 9999 12 31 = 0 := by decide

set_option maxHeartbeats 400000 in
theorem known_any (w : World) (htab : Lib.TabIs Tryd.prog w "internal/strconv.uint64pow10" .u64 Lib.pow10Tab) :
    Calls Tryd.prog 8 #[] w fun e w' => e = .returned (.bool true) ∧ Below w.heap.size w w' := by
  have HT := Lib.hid htab
  clear htab
  have H1 := Lib.hid day_last
  have H2 := Lib.hid day_one
  have H3 := Lib.hid (show Cal.splE 1 = 0 by decide)
  go_enter Tryd.func8, Tryd.ntmps8
  go_wp2_with fail
  refine (day_any _ _ _ _).mono ?_
  rintro e w' ⟨rfl, rfl⟩
  rw [H1.out.1, H1.out.2]
  go_wp2_with fail
  refine (print_any _ _ HT.out).mono ?_
  rintro e w1 ⟨rfl, hb1⟩
  rw [H2.out, H3.out]
  go_wp2
  go_ret
  exact ⟨rfl, hb1⟩

set_option maxHeartbeats 1000000 in
theorem dateDays_walk (y m d : Int) (w : World) (h0 : -9223372036854775808 ≤ y) (h1 : y ≤ 9223372036854775807) (htab : Lib.TabIs Tryd.prog w "internal/strconv.uint64pow10" .u64 Lib.pow10Tab) :
    Calls Tryd.prog 3 #[.int .i64 y, .int .i64 m, .int .i64 d] w fun e w' => e = .returned (.bool true) ∧ Below w.heap.size w w' := by
  have HT := Lib.hid htab
  clear htab
  go_enter Tryd.func3, Tryd.ntmps3
  go_wp2_with fail
  refine (known_any _ HT.out).mono ?_
  rintro e w1 ⟨rfl, hb1⟩
  go_wp2_with (first | (go_at_call 9; refine (rlength_any _ _ _).mono ?_; rintro e w' ⟨rfl, rfl⟩) | (go_at_call 10; refine (length_any _ _ _).mono ?_; rintro e w' ⟨rfl, rfl⟩) | (go_at_call 11; refine (rday_any _ _ _ _).mono ?_; rintro e w' ⟨rfl, rfl⟩) | (go_at_call 12; refine (day_any _ _ _ _).mono ?_; rintro e w' ⟨rfl, rfl⟩) | (go_at_call 13; refine (leap_any _ _ (by omega) (by omega)).mono ?_; rintro e w' ⟨rfl, rfl⟩) | (go_at_call 14; refine (rleap_any _ _ (by omega) (by omega)).mono ?_; rintro e w' ⟨rfl, rfl⟩))
  go_ret
  exact ⟨rfl, hb1⟩

set_option maxHeartbeats 1000000 in
theorem dateSplits_walk (n : Int) (w : World) (htab : Lib.TabIs Tryd.prog w "internal/strconv.uint64pow10" .u64 Lib.pow10Tab) :
    Calls Tryd.prog 4 #[.int .i64 n] w fun e w' => e = .returned (.bool true) ∧ Below w.heap.size w w' := by
  have HT := Lib.hid htab
  clear htab
  go_enter Tryd.func4, Tryd.ntmps4
  go_wp2_with fail
  refine (known_any _ HT.out).mono ?_
  rintro e w1 ⟨rfl, hb1⟩
  go_wp2_with (first | (go_at_call 15; refine (rsplit_any _ _).mono ?_; rintro e w' ⟨rfl, rfl⟩) | (go_at_call 16; refine (split_any _ _).mono ?_; rintro e w' ⟨rfl, rfl⟩) | (go_at_call 17; refine (rweekday_any _ _).mono ?_; rintro e w' ⟨rfl, rfl⟩) | (go_at_call 18; refine (weekday_any _ _).mono ?_; rintro e w' ⟨rfl, rfl⟩))
  go_ret
  exact ⟨rfl, hb1⟩

set_option maxHeartbeats 1000000 in
theorem dateSteps_walk (n k : Int) (w : World) (h0 : -9223372036854775808 ≤ k) (h1 : k ≤ 9223372036854775807) (htab : Lib.TabIs Tryd.prog w "internal/strconv.uint64pow10" .u64 Lib.pow10Tab) :
    Calls Tryd.prog 5 #[.int .i64 n, .int .i64 k] w fun e w' => e = .returned (.bool true) ∧ Below w.heap.size w w' := by
  have HT := Lib.hid htab
  clear htab
  go_enter Tryd.func5, Tryd.ntmps5
  go_wp2_with fail
  refine (known_any _ HT.out).mono ?_
  rintro e w1 ⟨rfl, hb1⟩
  go_wp2_with (first | (go_at_call 19; refine (radd_any _ _ _ (by omega) (by omega)).mono ?_; rintro e w' ⟨rfl, rfl⟩) | (go_at_call 20; refine (add_any _ _ _ (by omega) (by omega)).mono ?_; rintro e w' ⟨rfl, rfl⟩) | (go_at_call 21; refine (rmonths_any _ _ _).mono ?_; rintro e w' ⟨rfl, rfl⟩) | (go_at_call 22; refine (months_any _ _ _ (by omega) (by omega)).mono ?_; rintro e w' ⟨rfl, rfl⟩))
  go_ret
  exact ⟨rfl, hb1⟩

end Go.Proofs.YteigpfdnecfejaaDoor
