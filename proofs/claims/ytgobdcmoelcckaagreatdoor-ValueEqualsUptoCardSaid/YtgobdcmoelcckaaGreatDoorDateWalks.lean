/- The walks over package date and its reference: what each function answers, for all arguments. -/
import Derived.Test.YtgobdcmoelcckaaGreatDoorProg
import Derived.WalkKit
import Derived.WalkSpells
import Derived.WalkLawsBesides
import Derived.Lib.Hide
import Derived.Test.YtgobdcmoelcckaaGreatDoorDateMath
namespace Go.Proofs.YtgobdcmoelcckaaGreatDoor
open Go.RowKit
set_option linter.unusedVariables false

theorem ret_bool {a b : Bool} (h : a = b) : Ending.returned (.bool a) = .returned (.bool b) := by rw [h]
theorem ret_int {k : IntKind} {a b : Int} (h : a = b) : Ending.returned (.int k a) = .returned (.int k b) := by rw [h]
theorem ret_int2 {k l : IntKind} {a b c d : Int} (h : a = b) (h' : c = d) : Ending.returned (.tuple #[.int k a, .int l c]) = .returned (.tuple #[.int k b, .int l d]) := by rw [h, h']
theorem ret_int3 {k l m : IntKind} {a b c d e f : Int} (h : a = b) (h' : c = d) (h'' : e = f) : Ending.returned (.tuple #[.int k a, .int l c, .int m e]) = .returned (.tuple #[.int k b, .int l d, .int m f]) := by rw [h, h', h'']
theorem ret_int4 {k l m n : IntKind} {a b c d e f g i : Int} (h : a = b) (h' : c = d) (h'' : e = f) (h3 : g = i) : Ending.returned (.tuple #[.int k a, .int l c, .int m e, .int n g]) = .returned (.tuple #[.int k b, .int l d, .int m f, .int n i]) := by rw [h, h', h'', h3]

set_option maxHeartbeats 400000 in
theorem leap_any (y : Int) (w : World) (h0 : -9223372036854775808 ≤ y) (h1 : y ≤ 9223372036854775807) :
    Calls Tryz.prog 201 #[.int .i64 y] w fun e w' => e = .returned (.bool (Cal.leapB y)) ∧ w = w' := by
  cases h4 : (y.tmod 4 == 0) <;> cases h100 : (y.tmod 100 != 0) <;> cases h400 : (y.tmod 400 == 0)
  all_goals
    go_enter Tryz.func201, Tryz.ntmps201
    go_wp2
    go_ret
    exact ⟨ret_bool (by simp only [Cal.leapB, h4, h100, h400]; decide), rfl⟩

set_option maxHeartbeats 400000 in
theorem rleap_any (y : Int) (w : World) (h0 : -9223372036854775808 ≤ y) (h1 : y ≤ 9223372036854775807) :
    Calls Tryz.prog 194 #[.int .i64 y] w fun e w' => e = .returned (.bool (Cal.leapB y)) ∧ w = w' := by
  cases h4 : (y.tmod 4 == 0) <;> cases h100 : (y.tmod 100 != 0) <;> cases h400 : (y.tmod 400 == 0)
  all_goals
    go_enter Tryz.func194, Tryz.ntmps194
    go_wp2
    go_ret
    exact ⟨ret_bool (by simp only [Cal.leapB, h4, h100, h400]; decide), rfl⟩

set_option maxHeartbeats 400000 in
theorem rmonth_any (y m : Int) (w : World) (h0 : 1 ≤ y) (h1 : y ≤ 9223372036854775807) (h2 : 1 ≤ m) (h3 : m ≤ 12) :
    Calls Tryz.prog 161 #[.int .i64 y, .int .i64 m] w fun e w' => e = .returned (.int .i64 (Cal.mlen y m)) ∧ w = w' := by
  have hm : m = 1 ∨ m = 2 ∨ m = 3 ∨ m = 4 ∨ m = 5 ∨ m = 6 ∨ m = 7 ∨ m = 8 ∨ m = 9 ∨ m = 10 ∨ m = 11 ∨ m = 12 := by omega
  clear h2 h3
  cases hl : Cal.leapB y
  all_goals
    rcases hm with rfl | rfl | rfl | rfl | rfl | rfl | rfl | rfl | rfl | rfl | rfl | rfl
  all_goals
    go_enter Tryz.func161, Tryz.ntmps161
    go_wp2_with (go_at_call 194; refine (rleap_any _ _ (by omega) (by omega)).mono ?_; rintro e w' ⟨rfl, rfl⟩)
    go_ret
    exact ⟨ret_int (by simp [Cal.mlen, hl]), rfl⟩

/-- The months' table, asked at each place. -/
theorem len_idx0 (w : World) : (Instr.index 216 (.agg #[.int .i64 31, .int .i64 28, .int .i64 31, .int .i64 30, .int .i64 31, .int .i64 30, .int .i64 31, .int .i64 31, .int .i64 30, .int .i64 31, .int .i64 30, .int .i64 31]) (.int .i64 0)).run Tryz.prog w = .ok (.int .i64 31) w := by kernel_rfl
theorem len_idx1 (w : World) : (Instr.index 216 (.agg #[.int .i64 31, .int .i64 28, .int .i64 31, .int .i64 30, .int .i64 31, .int .i64 30, .int .i64 31, .int .i64 31, .int .i64 30, .int .i64 31, .int .i64 30, .int .i64 31]) (.int .i64 1)).run Tryz.prog w = .ok (.int .i64 28) w := by kernel_rfl
theorem len_idx2 (w : World) : (Instr.index 216 (.agg #[.int .i64 31, .int .i64 28, .int .i64 31, .int .i64 30, .int .i64 31, .int .i64 30, .int .i64 31, .int .i64 31, .int .i64 30, .int .i64 31, .int .i64 30, .int .i64 31]) (.int .i64 2)).run Tryz.prog w = .ok (.int .i64 31) w := by kernel_rfl
theorem len_idx3 (w : World) : (Instr.index 216 (.agg #[.int .i64 31, .int .i64 28, .int .i64 31, .int .i64 30, .int .i64 31, .int .i64 30, .int .i64 31, .int .i64 31, .int .i64 30, .int .i64 31, .int .i64 30, .int .i64 31]) (.int .i64 3)).run Tryz.prog w = .ok (.int .i64 30) w := by kernel_rfl
theorem len_idx4 (w : World) : (Instr.index 216 (.agg #[.int .i64 31, .int .i64 28, .int .i64 31, .int .i64 30, .int .i64 31, .int .i64 30, .int .i64 31, .int .i64 31, .int .i64 30, .int .i64 31, .int .i64 30, .int .i64 31]) (.int .i64 4)).run Tryz.prog w = .ok (.int .i64 31) w := by kernel_rfl
theorem len_idx5 (w : World) : (Instr.index 216 (.agg #[.int .i64 31, .int .i64 28, .int .i64 31, .int .i64 30, .int .i64 31, .int .i64 30, .int .i64 31, .int .i64 31, .int .i64 30, .int .i64 31, .int .i64 30, .int .i64 31]) (.int .i64 5)).run Tryz.prog w = .ok (.int .i64 30) w := by kernel_rfl
theorem len_idx6 (w : World) : (Instr.index 216 (.agg #[.int .i64 31, .int .i64 28, .int .i64 31, .int .i64 30, .int .i64 31, .int .i64 30, .int .i64 31, .int .i64 31, .int .i64 30, .int .i64 31, .int .i64 30, .int .i64 31]) (.int .i64 6)).run Tryz.prog w = .ok (.int .i64 31) w := by kernel_rfl
theorem len_idx7 (w : World) : (Instr.index 216 (.agg #[.int .i64 31, .int .i64 28, .int .i64 31, .int .i64 30, .int .i64 31, .int .i64 30, .int .i64 31, .int .i64 31, .int .i64 30, .int .i64 31, .int .i64 30, .int .i64 31]) (.int .i64 7)).run Tryz.prog w = .ok (.int .i64 31) w := by kernel_rfl
theorem len_idx8 (w : World) : (Instr.index 216 (.agg #[.int .i64 31, .int .i64 28, .int .i64 31, .int .i64 30, .int .i64 31, .int .i64 30, .int .i64 31, .int .i64 31, .int .i64 30, .int .i64 31, .int .i64 30, .int .i64 31]) (.int .i64 8)).run Tryz.prog w = .ok (.int .i64 30) w := by kernel_rfl
theorem len_idx9 (w : World) : (Instr.index 216 (.agg #[.int .i64 31, .int .i64 28, .int .i64 31, .int .i64 30, .int .i64 31, .int .i64 30, .int .i64 31, .int .i64 31, .int .i64 30, .int .i64 31, .int .i64 30, .int .i64 31]) (.int .i64 9)).run Tryz.prog w = .ok (.int .i64 31) w := by kernel_rfl
theorem len_idx10 (w : World) : (Instr.index 216 (.agg #[.int .i64 31, .int .i64 28, .int .i64 31, .int .i64 30, .int .i64 31, .int .i64 30, .int .i64 31, .int .i64 31, .int .i64 30, .int .i64 31, .int .i64 30, .int .i64 31]) (.int .i64 10)).run Tryz.prog w = .ok (.int .i64 30) w := by kernel_rfl
theorem len_idx11 (w : World) : (Instr.index 216 (.agg #[.int .i64 31, .int .i64 28, .int .i64 31, .int .i64 30, .int .i64 31, .int .i64 30, .int .i64 31, .int .i64 31, .int .i64 30, .int .i64 31, .int .i64 30, .int .i64 31]) (.int .i64 11)).run Tryz.prog w = .ok (.int .i64 31) w := by kernel_rfl

set_option maxRecDepth 100000 in
set_option maxHeartbeats 400000 in
theorem length_in2 (y : Int) (w : World) (h0 : 1 ≤ y) (h1 : y ≤ 9223372036854775807) :
    Calls Tryz.prog 170 #[.int .i64 y, .int .i64 2] w fun e w' => e = .returned (.int .i64 (Cal.mlen y 2)) ∧ w = w' := by
  have i1 := len_idx1
  cases hl : Cal.leapB y
  all_goals
    go_enter Tryz.func170, Tryz.ntmps170
    go_wp2_with (go_at_call 201; refine (leap_any _ _ (by omega) (by omega)).mono ?_; rintro e w' ⟨rfl, rfl⟩)
    go_ret
    exact ⟨ret_int (by simp [Cal.mlen, hl]), rfl⟩

set_option maxRecDepth 100000 in
set_option maxHeartbeats 2000000 in
theorem length_in (y m : Int) (w : World) (h0 : 1 ≤ y) (h1 : y ≤ 9223372036854775807) (h2 : 1 ≤ m) (h3 : m ≤ 12) :
    Calls Tryz.prog 170 #[.int .i64 y, .int .i64 m] w fun e w' => e = .returned (.int .i64 (Cal.mlen y m)) ∧ w = w' := by
  by_cases e2 : m = 2
  · subst e2
    exact length_in2 y w h0 h1
  have hm : m = 1 ∨ m = 3 ∨ m = 4 ∨ m = 5 ∨ m = 6 ∨ m = 7 ∨ m = 8 ∨ m = 9 ∨ m = 10 ∨ m = 11 ∨ m = 12 := by omega
  clear h2 h3 e2
  have i0 := len_idx0
  have i2 := len_idx2
  have i3 := len_idx3
  have i4 := len_idx4
  have i5 := len_idx5
  have i6 := len_idx6
  have i7 := len_idx7
  have i8 := len_idx8
  have i9 := len_idx9
  have i10 := len_idx10
  have i11 := len_idx11
  rcases hm with rfl | rfl | rfl | rfl | rfl | rfl | rfl | rfl | rfl | rfl | rfl
  all_goals
    go_enter Tryz.func170, Tryz.ntmps170
    go_wp2
    go_ret
    exact ⟨ret_int (by simp [Cal.mlen]), rfl⟩

set_option maxHeartbeats 400000 in
theorem ryear_any (y : Int) (w : World) (h0 : 1 ≤ y) (h1 : y ≤ 9223372036854775807) :
    Calls Tryz.prog 160 #[.int .i64 y] w fun e w' => e = .returned (.int .i64 (Cal.ylen y)) ∧ w = w' := by
  cases hl : Cal.leapB y
  all_goals
    go_enter Tryz.func160, Tryz.ntmps160
    go_wp2_with (go_at_call 194; refine (rleap_any _ _ (by omega) (by omega)).mono ?_; rintro e w' ⟨rfl, rfl⟩)
    go_ret
    exact ⟨ret_int (by simp [Cal.ylen, hl]), rfl⟩

set_option maxHeartbeats 400000 in
theorem ahead_any (y : Int) (w : World) (h0 : 1 ≤ y) (h1 : y ≤ 10001) :
    Calls Tryz.prog 169 #[.int .i64 y] w fun e w' => e = .returned (.int .i64 (Cal.ahead y)) ∧ w = w' := by
  go_enter Tryz.func169, Tryz.ntmps169
  go_wp2
  go_ret
  exact ⟨ret_int rfl, rfl⟩

set_option maxHeartbeats 400000 in
theorem is_any (n : Int) (w : World) :
    Calls Tryz.prog 124 #[.int .i64 n] w fun e w' => e = .returned (.bool (Cal.isB n)) ∧ w = w' := by
  by_cases h1 : 1 ≤ n
  · by_cases h2 : n ≤ 3652059
    · have hb := Lib.hid (show Cal.isB n = true from (Cal.isB_iff n).2 ⟨h1, h2⟩)
      go_enter Tryz.func124, Tryz.ntmps124
      go_wp2
      go_ret
      exact ⟨ret_bool hb.out.symm, rfl⟩
    · have hb := Lib.hid (show Cal.isB n = false from (Cal.isB_not n).2 (by omega))
      go_enter Tryz.func124, Tryz.ntmps124
      go_wp2
      go_ret
      exact ⟨ret_bool hb.out.symm, rfl⟩
  · have hb := Lib.hid (show Cal.isB n = false from (Cal.isB_not n).2 (by omega))
    go_enter Tryz.func124, Tryz.ntmps124
    go_wp2
    go_ret
    exact ⟨ret_bool hb.out.symm, rfl⟩

set_option maxHeartbeats 400000 in
theorem ris_any (n : Int) (w : World) :
    Calls Tryz.prog 72 #[.int .i64 n] w fun e w' => e = .returned (.bool (Cal.isB n)) ∧ w = w' := by
  by_cases h1 : 1 ≤ n
  · by_cases h2 : n ≤ 3652059
    · have hb := Lib.hid (show Cal.isB n = true from (Cal.isB_iff n).2 ⟨h1, h2⟩)
      go_enter Tryz.func72, Tryz.ntmps72
      go_wp2
      go_ret
      exact ⟨ret_bool hb.out.symm, rfl⟩
    · have hb := Lib.hid (show Cal.isB n = false from (Cal.isB_not n).2 (by omega))
      go_enter Tryz.func72, Tryz.ntmps72
      go_wp2
      go_ret
      exact ⟨ret_bool hb.out.symm, rfl⟩
  · have hb := Lib.hid (show Cal.isB n = false from (Cal.isB_not n).2 (by omega))
    go_enter Tryz.func72, Tryz.ntmps72
    go_wp2
    go_ret
    exact ⟨ret_bool hb.out.symm, rfl⟩

end Go.Proofs.YtgobdcmoelcckaaGreatDoor
