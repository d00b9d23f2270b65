/- The reference's Function at every name; DocFunction. Printed by wip/tools/gen_fn.py -reftwo. (fast) -/
import Derived.Test.YtpjcjgikfplgnaaDoorFnA
import Derived.Test.YtpjcjgikfplgnaaDoorRFnA
import Derived.Test.YtpjcjgikfplgnaaDoorRFnB
namespace Go.Proofs.YtpjcjgikfplgnaaDoor
open Go.RowKit
set_option linter.unusedVariables false
set_option linter.unusedSimpArgs false
set_option maxRecDepth 100000

set_option maxHeartbeats 4000000 in
theorem rfunction_any (s : ByteArray) (w : World) : Calls Tryd.prog 16 #[.string s] w (RFnPost (fnF s.toList) w) := by
  by_cases h0 : (s.toList == [97, 98, 115]) = true
  · rw [show fnF s.toList = some ([⟨2, 0⟩], ⟨2, 0⟩) by unfold fnF; simp only [h0, if_true, if_false, Bool.false_eq_true]]
    obtain rfl := bytes_of h0
    exact rfn_abs w
  rw [Bool.not_eq_true] at h0
  by_cases h1 : (s.toList == [102, 108, 111, 111, 114]) = true
  · rw [show fnF s.toList = some ([⟨2, 0⟩], ⟨2, 0⟩) by unfold fnF; simp only [h0, h1, if_true, if_false, Bool.false_eq_true]]
    obtain rfl := bytes_of h1
    exact rfn_floor w
  rw [Bool.not_eq_true] at h1
  by_cases h2 : (s.toList == [99, 101, 105, 108, 105, 110, 103]) = true
  · rw [show fnF s.toList = some ([⟨2, 0⟩], ⟨2, 0⟩) by unfold fnF; simp only [h0, h1, h2, if_true, if_false, Bool.false_eq_true]]
    obtain rfl := bytes_of h2
    exact rfn_ceiling w
  rw [Bool.not_eq_true] at h2
  by_cases h3 : (s.toList == [114, 111, 117, 110, 100]) = true
  · rw [show fnF s.toList = some ([⟨2, 0⟩, ⟨2, 0⟩], ⟨2, 0⟩) by unfold fnF; simp only [h0, h1, h2, h3, if_true, if_false, Bool.false_eq_true]]
    obtain rfl := bytes_of h3
    exact rfn_round w
  rw [Bool.not_eq_true] at h3
  by_cases h4 : (s.toList == [109, 111, 100, 117, 108, 111]) = true
  · rw [show fnF s.toList = some ([⟨2, 0⟩, ⟨2, 0⟩], ⟨2, 0⟩) by unfold fnF; simp only [h0, h1, h2, h3, h4, if_true, if_false, Bool.false_eq_true]]
    obtain rfl := bytes_of h4
    exact rfn_modulo w
  rw [Bool.not_eq_true] at h4
  by_cases h5 : (s.toList == [109, 105, 110]) = true
  · rw [show fnF s.toList = some ([⟨5, 2⟩], ⟨2, 0⟩) by unfold fnF; simp only [h0, h1, h2, h3, h4, h5, if_true, if_false, Bool.false_eq_true]]
    obtain rfl := bytes_of h5
    exact rfn_min w
  rw [Bool.not_eq_true] at h5
  by_cases h6 : (s.toList == [109, 97, 120]) = true
  · rw [show fnF s.toList = some ([⟨5, 2⟩], ⟨2, 0⟩) by unfold fnF; simp only [h0, h1, h2, h3, h4, h5, h6, if_true, if_false, Bool.false_eq_true]]
    obtain rfl := bytes_of h6
    exact rfn_max w
  rw [Bool.not_eq_true] at h6
  by_cases h7 : (s.toList == [115, 117, 109]) = true
  · rw [show fnF s.toList = some ([⟨5, 2⟩], ⟨2, 0⟩) by unfold fnF; simp only [h0, h1, h2, h3, h4, h5, h6, h7, if_true, if_false, Bool.false_eq_true]]
    obtain rfl := bytes_of h7
    exact rfn_sum w
  rw [Bool.not_eq_true] at h7
  by_cases h8 : (s.toList == [99, 111, 117, 110, 116]) = true
  · rw [show fnF s.toList = some ([⟨5, 0⟩], ⟨2, 0⟩) by unfold fnF; simp only [h0, h1, h2, h3, h4, h5, h6, h7, h8, if_true, if_false, Bool.false_eq_true]]
    obtain rfl := bytes_of h8
    exact rfn_count w
  rw [Bool.not_eq_true] at h8
  by_cases h9 : (s.toList == [99, 111, 110, 116, 97, 105, 110, 115]) = true
  · rw [show fnF s.toList = some ([⟨3, 0⟩, ⟨3, 0⟩], ⟨1, 0⟩) by unfold fnF; simp only [h0, h1, h2, h3, h4, h5, h6, h7, h8, h9, if_true, if_false, Bool.false_eq_true]]
    obtain rfl := bytes_of h9
    exact rfn_contains w
  rw [Bool.not_eq_true] at h9
  by_cases h10 : (s.toList == [115, 116, 97, 114, 116, 115]) = true
  · rw [show fnF s.toList = some ([⟨3, 0⟩, ⟨3, 0⟩], ⟨1, 0⟩) by unfold fnF; simp only [h0, h1, h2, h3, h4, h5, h6, h7, h8, h9, h10, if_true, if_false, Bool.false_eq_true]]
    obtain rfl := bytes_of h10
    exact rfn_starts w
  rw [Bool.not_eq_true] at h10
  by_cases h11 : (s.toList == [108, 101, 110, 103, 116, 104]) = true
  · rw [show fnF s.toList = some ([⟨3, 0⟩], ⟨2, 0⟩) by unfold fnF; simp only [h0, h1, h2, h3, h4, h5, h6, h7, h8, h9, h10, h11, if_true, if_false, Bool.false_eq_true]]
    obtain rfl := bytes_of h11
    exact rfn_length w
  rw [Bool.not_eq_true] at h11
  by_cases h12 : (s.toList == [115, 117, 98, 115, 116, 114, 105, 110, 103]) = true
  · rw [show fnF s.toList = some ([⟨3, 0⟩, ⟨2, 0⟩, ⟨2, 0⟩], ⟨3, 0⟩) by unfold fnF; simp only [h0, h1, h2, h3, h4, h5, h6, h7, h8, h9, h10, h11, h12, if_true, if_false, Bool.false_eq_true]]
    obtain rfl := bytes_of h12
    exact rfn_substring w
  rw [Bool.not_eq_true] at h12
  by_cases h13 : (s.toList == [117, 112, 112, 101, 114]) = true
  · rw [show fnF s.toList = some ([⟨3, 0⟩], ⟨3, 0⟩) by unfold fnF; simp only [h0, h1, h2, h3, h4, h5, h6, h7, h8, h9, h10, h11, h12, h13, if_true, if_false, Bool.false_eq_true]]
    obtain rfl := bytes_of h13
    exact rfn_upper w
  rw [Bool.not_eq_true] at h13
  by_cases h14 : (s.toList == [108, 111, 119, 101, 114]) = true
  · rw [show fnF s.toList = some ([⟨3, 0⟩], ⟨3, 0⟩) by unfold fnF; simp only [h0, h1, h2, h3, h4, h5, h6, h7, h8, h9, h10, h11, h12, h13, h14, if_true, if_false, Bool.false_eq_true]]
    obtain rfl := bytes_of h14
    exact rfn_lower w
  rw [Bool.not_eq_true] at h14
  by_cases h15 : (s.toList == [100, 97, 116, 101]) = true
  · rw [show fnF s.toList = some ([⟨3, 0⟩], ⟨4, 0⟩) by unfold fnF; simp only [h0, h1, h2, h3, h4, h5, h6, h7, h8, h9, h10, h11, h12, h13, h14, h15, if_true, if_false, Bool.false_eq_true]]
    obtain rfl := bytes_of h15
    exact rfn_date w
  rw [Bool.not_eq_true] at h15
  by_cases h16 : (s.toList == [121, 101, 97, 114]) = true
  · rw [show fnF s.toList = some ([⟨4, 0⟩], ⟨2, 0⟩) by unfold fnF; simp only [h0, h1, h2, h3, h4, h5, h6, h7, h8, h9, h10, h11, h12, h13, h14, h15, h16, if_true, if_false, Bool.false_eq_true]]
    obtain rfl := bytes_of h16
    exact rfn_year w
  rw [Bool.not_eq_true] at h16
  by_cases h17 : (s.toList == [109, 111, 110, 116, 104]) = true
  · rw [show fnF s.toList = some ([⟨4, 0⟩], ⟨2, 0⟩) by unfold fnF; simp only [h0, h1, h2, h3, h4, h5, h6, h7, h8, h9, h10, h11, h12, h13, h14, h15, h16, h17, if_true, if_false, Bool.false_eq_true]]
    obtain rfl := bytes_of h17
    exact rfn_month w
  rw [Bool.not_eq_true] at h17
  by_cases h18 : (s.toList == [100, 97, 121]) = true
  · rw [show fnF s.toList = some ([⟨4, 0⟩], ⟨2, 0⟩) by unfold fnF; simp only [h0, h1, h2, h3, h4, h5, h6, h7, h8, h9, h10, h11, h12, h13, h14, h15, h16, h17, h18, if_true, if_false, Bool.false_eq_true]]
    obtain rfl := bytes_of h18
    exact rfn_day w
  rw [Bool.not_eq_true] at h18
  by_cases h19 : (s.toList == [119, 101, 101, 107, 100, 97, 121]) = true
  · rw [show fnF s.toList = some ([⟨4, 0⟩], ⟨2, 0⟩) by unfold fnF; simp only [h0, h1, h2, h3, h4, h5, h6, h7, h8, h9, h10, h11, h12, h13, h14, h15, h16, h17, h18, h19, if_true, if_false, Bool.false_eq_true]]
    obtain rfl := bytes_of h19
    exact rfn_weekday w
  rw [Bool.not_eq_true] at h19
  by_cases h20 : (s.toList == [100, 97, 121, 115]) = true
  · rw [show fnF s.toList = some ([⟨4, 0⟩, ⟨2, 0⟩], ⟨4, 0⟩) by unfold fnF; simp only [h0, h1, h2, h3, h4, h5, h6, h7, h8, h9, h10, h11, h12, h13, h14, h15, h16, h17, h18, h19, h20, if_true, if_false, Bool.false_eq_true]]
    obtain rfl := bytes_of h20
    exact rfn_days w
  rw [Bool.not_eq_true] at h20
  by_cases h21 : (s.toList == [109, 111, 110, 116, 104, 115]) = true
  · rw [show fnF s.toList = some ([⟨4, 0⟩, ⟨2, 0⟩], ⟨4, 0⟩) by unfold fnF; simp only [h0, h1, h2, h3, h4, h5, h6, h7, h8, h9, h10, h11, h12, h13, h14, h15, h16, h17, h18, h19, h20, h21, if_true, if_false, Bool.false_eq_true]]
    obtain rfl := bytes_of h21
    exact rfn_months w
  rw [Bool.not_eq_true] at h21
  by_cases h22 : (s.toList == [110, 101, 103, 97, 116, 101]) = true
  · rw [show fnF s.toList = some ([⟨1, 0⟩], ⟨1, 0⟩) by unfold fnF; simp only [h0, h1, h2, h3, h4, h5, h6, h7, h8, h9, h10, h11, h12, h13, h14, h15, h16, h17, h18, h19, h20, h21, h22, if_true, if_false, Bool.false_eq_true]]
    obtain rfl := bytes_of h22
    exact rfn_negate w
  rw [Bool.not_eq_true] at h22
  by_cases h23 : (s.toList == [97, 112, 112, 101, 110, 100]) = true
  · rw [show fnF s.toList = some ([⟨5, 0⟩, ⟨0, 0⟩], ⟨5, 0⟩) by unfold fnF; simp only [h0, h1, h2, h3, h4, h5, h6, h7, h8, h9, h10, h11, h12, h13, h14, h15, h16, h17, h18, h19, h20, h21, h22, h23, if_true, if_false, Bool.false_eq_true]]
    obtain rfl := bytes_of h23
    exact rfn_append w
  rw [Bool.not_eq_true] at h23
  by_cases h24 : (s.toList == [115, 116, 114, 105, 110, 103]) = true
  · rw [show fnF s.toList = some ([⟨0, 0⟩], ⟨3, 0⟩) by unfold fnF; simp only [h0, h1, h2, h3, h4, h5, h6, h7, h8, h9, h10, h11, h12, h13, h14, h15, h16, h17, h18, h19, h20, h21, h22, h23, h24, if_true, if_false, Bool.false_eq_true]]
    obtain rfl := bytes_of h24
    exact rfn_string w
  rw [Bool.not_eq_true] at h24
  rw [show fnF s.toList = none by unfold fnF; simp only [h0, h1, h2, h3, h4, h5, h6, h7, h8, h9, h10, h11, h12, h13, h14, h15, h16, h17, h18, h19, h20, h21, h22, h23, h24, if_false, Bool.false_eq_true]]
  have HM := Lib.hid (Mem.start w)
  go_enter Tryd.func16, Tryd.ntmps16
  go_wp2_with (first | (go_at_call 29; (with_reducible refine (rof_any _ _).mono ?_); rintro e W1 ⟨rfl, hb⟩; replace HM := Lib.hid (HM.out.next hb); clear hb) | ((with_reducible refine iload ?_); first | refine ldbW HM.out 0 rfl rfl rfl ?_ | refine ldbW HM.out 1 rfl rfl rfl ?_ | refine ldbW HM.out 2 rfl rfl rfl ?_ | refine ldbW HM.out 3 rfl rfl rfl ?_ | refine ldbW HM.out 4 rfl rfl rfl ?_ | ((first | refine ldbS HM.out 0 rfl rfl rfl ?_ | refine ldbS HM.out 1 rfl rfl rfl ?_ | refine ldbS HM.out 2 rfl rfl rfl ?_ | refine ldbS HM.out 3 rfl rfl rfl ?_ | refine ldbS HM.out 4 rfl rfl rfl ?_); simp only [List.take, List.drop])) | ((with_reducible refine istore ?_); (first | ((first | refine stbW rfl HM.out 0 rfl rfl rfl rfl rfl rfl ?_ | refine stbW rfl HM.out 1 rfl rfl rfl rfl rfl rfl ?_ | refine stbW rfl HM.out 2 rfl rfl rfl rfl rfl rfl ?_ | refine stbW rfl HM.out 3 rfl rfl rfl rfl rfl rfl ?_ | refine stbW rfl HM.out 4 rfl rfl rfl rfl rfl rfl ?_); intro W1 HM1; replace HM := Lib.hid HM1; clear HM1; simp only [List.set] at HM) | ((first | refine stbS rfl HM.out 0 rfl rfl rfl rfl rfl rfl ?_ | refine stbS rfl HM.out 1 rfl rfl rfl rfl rfl rfl ?_ | refine stbS rfl HM.out 2 rfl rfl rfl rfl rfl rfl ?_ | refine stbS rfl HM.out 3 rfl rfl rfl rfl rfl rfl ?_ | refine stbS rfl HM.out 4 rfl rfl rfl rfl rfl rfl ?_); intro W1 HM1; replace HM := Lib.hid HM1; clear HM1; simp only [lss, Nat.reduceAdd] at HM))) | ((with_reducible refine ibuildSlice ?_); refine bs1A rfl HM.out rfl rfl rfl ?_; intro g1 W1 HM1; replace HM := Lib.hid HM1; clear HM1) | ((with_reducible refine ialloc ?_); refine alb rfl HM.out ?_; intro g1 W1 HM1; replace HM := Lib.hid HM1; clear HM1))
  exact bodyPost_ret (res_tmp_box_tmp rfl HM.out 3 rfl rfl rfl rfl rfl) rfl ⟨rfl, HM.out.below⟩
end Go.Proofs.YtpjcjgikfplgnaaDoor
