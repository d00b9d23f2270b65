/- The walks over package date and its reference: what each function answers, for all arguments. -/
import Derived.Test.YteigpfdnecfejaaDoorProg
import Derived.WalkKit
import Derived.WalkSpells
import Derived.WalkLawsBesides
import Derived.Lib.Hide
import Derived.Test.YteigpfdnecfejaaDoorDateMath
namespace Go.Proofs.YteigpfdnecfejaaDoor
open Go.RowKit
set_option linter.unusedVariables false

theorem ret_bool {a b : Bool} (h : a = b) : Ending.returned (.bool a) = .returned (.bool b) := by rw [h]
theorem ret_int {k : IntKind} {a b : Int} (h : a = b) : Ending.returned (.int k a) = .returned (.int k b) := by rw [h]
theorem ret_int2 {k l : IntKind} {a b c d : Int} (h : a = b) (h' : c = d) : Ending.returned (.tuple #[.int k a, .int l c]) = .returned (.tuple #[.int k b, .int l d]) := by rw [h, h']
theorem ret_int3 {k l m : IntKind} {a b c d e f : Int} (h : a = b) (h' : c = d) (h'' : e = f) : Ending.returned (.tuple #[.int k a, .int l c, .int m e]) = .returned (.tuple #[.int k b, .int l d, .int m f]) := by rw [h, h', h'']
theorem ret_int4 {k l m n : IntKind} {a b c d e f g i : Int} (h : a = b) (h' : c = d) (h'' : e = f) (h3 : g = i) : Ending.returned (.tuple #[.int k a, .int l c, .int m e, .int n g]) = .returned (.tuple #[.int k b, .int l d, .int m f, .int n i]) := by rw [h, h', h'', h3]

set_option maxHeartbeats 400000 in
theorem leap_any (y : Int) (w : World) (h0 : -9223372036854775808 ≤ y) (h1 : y ≤ 9223372036854775807) :
    Calls Tryd.prog 13 #[.int .i64 y] w fun e w' => e = .returned (.bool (Cal.leapB y)) ∧ w = w' := by
  cases h4 : (y.tmod 4 == 0) <;> cases h100 : (y.tmod 100 != 0) <;> cases h400 : (y.tmod 400 == 0)
  all_goals
    go_enter Tryd.func13, Tryd.ntmps13
    go_wp2
    go_ret
    exact ⟨ret_bool (by simp only [Cal.leapB, h4, h100, h400]; decide), rfl⟩

set_option maxHeartbeats 400000 in
theorem rleap_any (y : Int) (w : World) (h0 : -9223372036854775808 ≤ y) (h1 : y ≤ 9223372036854775807) :
    Calls Tryd.prog 14 #[.int .i64 y] w fun e w' => e = .returned (.bool (Cal.leapB y)) ∧ w = w' := by
  cases h4 : (y.tmod 4 == 0) <;> cases h100 : (y.tmod 100 != 0) <;> cases h400 : (y.tmod 400 == 0)
  all_goals
    go_enter Tryd.func14, Tryd.ntmps14
    go_wp2
    go_ret
    exact ⟨ret_bool (by simp only [Cal.leapB, h4, h100, h400]; decide), rfl⟩

set_option maxHeartbeats 400000 in
theorem rmonth_any (y m : Int) (w : World) (h0 : 1 ≤ y) (h1 : y ≤ 9223372036854775807) (h2 : 1 ≤ m) (h3 : m ≤ 12) :
    Calls Tryd.prog 27 #[.int .i64 y, .int .i64 m] w fun e w' => e = .returned (.int .i64 (Cal.mlen y m)) ∧ w = w' := by
  have hm : m = 1 ∨ m = 2 ∨ m = 3 ∨ m = 4 ∨ m = 5 ∨ m = 6 ∨ m = 7 ∨ m = 8 ∨ m = 9 ∨ m = 10 ∨ m = 11 ∨ m = 12 := by omega
  clear h2 h3
  cases hl : Cal.leapB y
  all_goals
    rcases hm with rfl | rfl | rfl | rfl | rfl | rfl | rfl | rfl | rfl | rfl | rfl | rfl
  all_goals
    go_enter Tryd.func27, Tryd.ntmps27
    go_wp2_with (go_at_call 14; refine (rleap_any _ _ (by omega) (by omega)).mono ?_; rintro e w' ⟨rfl, rfl⟩)
    go_ret
    exact ⟨ret_int (by simp [Cal.mlen, hl]), rfl⟩

/-- The months' table, asked at each place. -/
theorem len_idx0 (w : World) : (Instr.index 45 (.agg #[.int .i64 31, .int .i64 28, .int .i64 31, .int .i64 30, .int .i64 31, .int .i64 30, .int .i64 31, .int .i64 31, .int .i64 30, .int .i64 31, .int .i64 30, .int .i64 31]) (.int .i64 0)).run Tryd.prog w = .ok (.int .i64 31) w := by kernel_rfl
theorem len_idx1 (w : World) : (Instr.index 45 (.agg #[.int .i64 31, .int .i64 28, .int .i64 31, .int .i64 30, .int .i64 31, .int .i64 30, .int .i64 31, .int .i64 31, .int .i64 30, .int .i64 31, .int .i64 30, .int .i64 31]) (.int .i64 1)).run Tryd.prog w = .ok (.int .i64 28) w := by kernel_rfl
theorem len_idx2 (w : World) : (Instr.index 45 (.agg #[.int .i64 31, .int .i64 28, .int .i64 31, .int .i64 30, .int .i64 31, .int .i64 30, .int .i64 31, .int .i64 31, .int .i64 30, .int .i64 31, .int .i64 30, .int .i64 31]) (.int .i64 2)).run Tryd.prog w = .ok (.int .i64 31) w := by kernel_rfl
theorem len_idx3 (w : World) : (Instr.index 45 (.agg #[.int .i64 31, .int .i64 28, .int .i64 31, .int .i64 30, .int .i64 31, .int .i64 30, .int .i64 31, .int .i64 31, .int .i64 30, .int .i64 31, .int .i64 30, .int .i64 31]) (.int .i64 3)).run Tryd.prog w = .ok (.int .i64 30) w := by kernel_rfl
theorem len_idx4 (w : World) : (Instr.index 45 (.agg #[.int .i64 31, .int .i64 28, .int .i64 31, .int .i64 30, .int .i64 31, .int .i64 30, .int .i64 31, .int .i64 31, .int .i64 30, .int .i64 31, .int .i64 30, .int .i64 31]) (.int .i64 4)).run Tryd.prog w = .ok (.int .i64 31) w := by kernel_rfl
theorem len_idx5 (w : World) : (Instr.index 45 (.agg #[.int .i64 31, .int .i64 28, .int .i64 31, .int .i64 30, .int .i64 31, .int .i64 30, .int .i64 31, .int .i64 31, .int .i64 30, .int .i64 31, .int .i64 30, .int .i64 31]) (.int .i64 5)).run Tryd.prog w = .ok (.int .i64 30) w := by kernel_rfl
theorem len_idx6 (w : World) : (Instr.index 45 (.agg #[.int .i64 31, .int .i64 28, .int .i64 31, .int .i64 30, .int .i64 31, .int .i64 30, .int .i64 31, .int .i64 31, .int .i64 30, .int .i64 31, .int .i64 30, .int .i64 31]) (.int .i64 6)).run Tryd.prog w = .ok (.int .i64 31) w := by kernel_rfl
theorem len_idx7 (w : World) : (Instr.index 45 (.agg #[.int .i64 31, .int .i64 28, .int .i64 31, .int .i64 30, .int .i64 31, .int .i64 30, .int .i64 31, .int .i64 31, .int .i64 30, .int .i64 31, .int .i64 30, .int .i64 31]) (.int .i64 7)).run Tryd.prog w = .ok (.int .i64 31) w := by kernel_rfl
theorem len_idx8 (w : World) : (Instr.index 45 (.agg #[.int .i64 31, .int .i64 28, .int .i64 31, .int .i64 30, .int .i64 31, .int .i64 30, .int .i64 31, .int .i64 31, .int .i64 30, .int .i64 31, .int .i64 30, .int .i64 31]) (.int .i64 8)).run Tryd.prog w = .ok (.int .i64 30) w := by kernel_rfl
theorem len_idx9 (w : World) : (Instr.index 45 (.agg #[.int .i64 31, .int .i64 28, .int .i64 31, .int .i64 30, .int .i64 31, .int .i64 30, .int .i64 31, .int .i64 31, .int .i64 30, .int .i64 31, .int .i64 30, .int .i64 31]) (.int .i64 9)).run Tryd.prog w = .ok (.int .i64 31) w := by kernel_rfl
theorem len_idx10 (w : World) : (Instr.index 45 (.agg #[.int .i64 31, .int .i64 28, .int .i64 31, .int .i64 30, .int .i64 31, .int .i64 30, .int .i64 31, .int .i64 31, .int .i64 30, .int .i64 31, .int .i64 30, .int .i64 31]) (.int .i64 10)).run Tryd.prog w = .ok (.int .i64 30) w := by kernel_rfl
theorem len_idx11 (w : World) : (Instr.index 45 (.agg #[.int .i64 31, .int .i64 28, .int .i64 31, .int .i64 30, .int .i64 31, .int .i64 30, .int .i64 31, .int .i64 31, .int .i64 30, .int .i64 31, .int .i64 30, .int .i64 31]) (.int .i64 11)).run Tryd.prog w = .ok (.int .i64 31) w := by kernel_rfl

set_option maxRecDepth 100000 in
set_option maxHeartbeats 400000 in
theorem length_in2 (y : Int) (w : World) (h0 : 1 ≤ y) (h1 : y ≤ 9223372036854775807) :
    Calls Tryd.prog 28 #[.int .i64 y, .int .i64 2] w fun e w' => e = .returned (.int .i64 (Cal.mlen y 2)) ∧ w = w' := by
  have i1 := len_idx1
  cases hl : Cal.leapB y
  all_goals
    go_enter Tryd.func28, Tryd.ntmps28
    go_wp2_with (go_at_call 13; refine (leap_any _ _ (by omega) (by omega)).mono ?_; rintro e w' ⟨rfl, rfl⟩)
    go_ret
    exact ⟨ret_int (by simp [Cal.mlen, hl]), rfl⟩

set_option maxRecDepth 100000 in
set_option maxHeartbeats 2000000 in
theorem length_in (y m : Int) (w : World) (h0 : 1 ≤ y) (h1 : y ≤ 9223372036854775807) (h2 : 1 ≤ m) (h3 : m ≤ 12) :
    Calls Tryd.prog 28 #[.int .i64 y, .int .i64 m] w fun e w' => e = .returned (.int .i64 (Cal.mlen y m)) ∧ w = w' := by
  by_cases e2 : m = 2
  · subst e2
    exact length_in2 y w h0 h1
  have hm : m = 1 ∨ m = 3 ∨ m = 4 ∨ m = 5 ∨ m = 6 ∨ m = 7 ∨ m = 8 ∨ m = 9 ∨ m = 10 ∨ m = 11 ∨ m = 12 := by omega
  clear h2 h3 e2
  have i0 := len_idx0
  have i2 := len_idx2
  have i3 := len_idx3
  have i4 := len_idx4
  have i5 := len_idx5
  have i6 := len_idx6
  have i7 := len_idx7
  have i8 := len_idx8
  have i9 := len_idx9
  have i10 := len_idx10
  have i11 := len_idx11
  rcases hm with rfl | rfl | rfl | rfl | rfl | rfl | rfl | rfl | rfl | rfl | rfl
  all_goals
    go_enter Tryd.func28, Tryd.ntmps28
    go_wp2
    go_ret
    exact ⟨ret_int (by simp [Cal.mlen]), rfl⟩

set_option maxHeartbeats 400000 in
theorem ryear_any (y : Int) (w : World) (h0 : 1 ≤ y) (h1 : y ≤ 9223372036854775807) :
    Calls Tryd.prog 29 #[.int .i64 y] w fun e w' => e = .returned (.int .i64 (Cal.ylen y)) ∧ w = w' := by
  cases hl : Cal.leapB y
  all_goals
    go_enter Tryd.func29, Tryd.ntmps29
    go_wp2_with (go_at_call 14; refine (rleap_any _ _ (by omega) (by omega)).mono ?_; rintro e w' ⟨rfl, rfl⟩)
    go_ret
    exact ⟨ret_int (by simp [Cal.ylen, hl]), rfl⟩

set_option maxHeartbeats 400000 in
theorem ahead_any (y : Int) (w : World) (h0 : 1 ≤ y) (h1 : y ≤ 10001) :
    Calls Tryd.prog 30 #[.int .i64 y] w fun e w' => e = .returned (.int .i64 (Cal.ahead y)) ∧ w = w' := by
  go_enter Tryd.func30, Tryd.ntmps30
  go_wp2
  go_ret
  exact ⟨ret_int rfl, rfl⟩

set_option maxHeartbeats 400000 in
theorem is_any (n : Int) (w : World) :
    Calls Tryd.prog 32 #[.int .i64 n] w fun e w' => e = .returned (.bool (Cal.isB n)) ∧ w = w' := by
  by_cases h1 : 1 ≤ n
  · by_cases h2 : n ≤ 3652059
    · have hb := Lib.hid (show Cal.isB n = true from (Cal.isB_iff n).2 ⟨h1, h2⟩)
      go_enter Tryd.func32, Tryd.ntmps32
      go_wp2
      go_ret
      exact ⟨ret_bool hb.out.symm, rfl⟩
    · have hb := Lib.hid (show Cal.isB n = false from (Cal.isB_not n).2 (by omega))
      go_enter Tryd.func32, Tryd.ntmps32
      go_wp2
      go_ret
      exact ⟨ret_bool hb.out.symm, rfl⟩
  · have hb := Lib.hid (show Cal.isB n = false from (Cal.isB_not n).2 (by omega))
    go_enter Tryd.func32, Tryd.ntmps32
    go_wp2
    go_ret
    exact ⟨ret_bool hb.out.symm, rfl⟩

set_option maxHeartbeats 400000 in
theorem ris_any (n : Int) (w : World) :
    Calls Tryd.prog 31 #[.int .i64 n] w fun e w' => e = .returned (.bool (Cal.isB n)) ∧ w = w' := by
  by_cases h1 : 1 ≤ n
  · by_cases h2 : n ≤ 3652059
    · have hb := Lib.hid (show Cal.isB n = true from (Cal.isB_iff n).2 ⟨h1, h2⟩)
      go_enter Tryd.func31, Tryd.ntmps31
      go_wp2
      go_ret
      exact ⟨ret_bool hb.out.symm, rfl⟩
    · have hb := Lib.hid (show Cal.isB n = false from (Cal.isB_not n).2 (by omega))
      go_enter Tryd.func31, Tryd.ntmps31
      go_wp2
      go_ret
      exact ⟨ret_bool hb.out.symm, rfl⟩
  · have hb := Lib.hid (show Cal.isB n = false from (Cal.isB_not n).2 (by omega))
    go_enter Tryd.func31, Tryd.ntmps31
    go_wp2
    go_ret
    exact ⟨ret_bool hb.out.symm, rfl⟩

end Go.Proofs.YteigpfdnecfejaaDoor
