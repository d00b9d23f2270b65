/- The walks over package date and its reference, continued: Length, Day, split, Split. -/
import Derived.Test.YteigpfdnecfejaaDoorDateWalks
namespace Go.Proofs.YteigpfdnecfejaaDoor
open Go.RowKit

set_option maxHeartbeats 400000 in
theorem length_any (y m : Int) (w : World) :
    Calls Tryd.prog 10 #[.int .i64 y, .int .i64 m] w fun e w' => e = .returned (.tuple #[.int .i64 (Cal.lenV y m), .int .i64 (Cal.lenE y m)]) ∧ w = w' := by
  by_cases h1 : 1 ≤ y
  · by_cases h2 : y ≤ 9999
    · by_cases h3 : 1 ≤ m
      · by_cases h4 : m ≤ 12
        · have e1 : Cal.lenV y m = Cal.mlen y m := if_pos ⟨h1, h2, h3, h4⟩
          have e2 : Cal.lenE y m = 0 := if_pos ⟨h1, h2, h3, h4⟩
          have H1 := Lib.hid e1
          have H2 := Lib.hid e2
          clear e1 e2
          go_enter Tryd.func10, Tryd.ntmps10
          go_wp2_with (go_at_call 28; refine (length_in _ _ _ (by omega) (by omega) (by omega) (by omega)).mono ?_; rintro e w' ⟨rfl, rfl⟩)
          go_ret2
          exact ⟨ret_int2 H1.out.symm H2.out.symm, rfl⟩
        · have H1 := Lib.hid (show Cal.lenV y m = 0 from if_neg (by omega))
          have H2 := Lib.hid (show Cal.lenE y m = 1 from if_neg (by omega))
          go_enter Tryd.func10, Tryd.ntmps10
          go_wp2
          go_ret2
          exact ⟨ret_int2 H1.out.symm H2.out.symm, rfl⟩
      · have H1 := Lib.hid (show Cal.lenV y m = 0 from if_neg (by omega))
        have H2 := Lib.hid (show Cal.lenE y m = 1 from if_neg (by omega))
        go_enter Tryd.func10, Tryd.ntmps10
        go_wp2
        go_ret2
        exact ⟨ret_int2 H1.out.symm H2.out.symm, rfl⟩
    · have H1 := Lib.hid (show Cal.lenV y m = 0 from if_neg (by omega))
      have H2 := Lib.hid (show Cal.lenE y m = 1 from if_neg (by omega))
      go_enter Tryd.func10, Tryd.ntmps10
      go_wp2
      go_ret2
      exact ⟨ret_int2 H1.out.symm H2.out.symm, rfl⟩
  · have H1 := Lib.hid (show Cal.lenV y m = 0 from if_neg (by omega))
    have H2 := Lib.hid (show Cal.lenE y m = 1 from if_neg (by omega))
    go_enter Tryd.func10, Tryd.ntmps10
    go_wp2
    go_ret2
    exact ⟨ret_int2 H1.out.symm H2.out.symm, rfl⟩

set_option maxHeartbeats 400000 in
theorem rlength_any (y m : Int) (w : World) :
    Calls Tryd.prog 9 #[.int .i64 y, .int .i64 m] w fun e w' => e = .returned (.tuple #[.int .i64 (Cal.lenV y m), .int .i64 (Cal.lenE y m)]) ∧ w = w' := by
  by_cases h : 1 ≤ y ∧ y ≤ 9999 ∧ 1 ≤ m ∧ m ≤ 12
  · have H1 := Lib.hid (show Cal.lenV y m = Cal.mlen y m from if_pos h)
    have H2 := Lib.hid (show Cal.lenE y m = 0 from if_pos h)
    obtain ⟨h1, h2, h3, h4⟩ := h
    go_enter Tryd.func9, Tryd.ntmps9
    go_wp2_with (go_at_call 27; refine (rmonth_any _ _ _ (by omega) (by omega) (by omega) (by omega)).mono ?_; rintro e w' ⟨rfl, rfl⟩)
    go_ret2
    exact ⟨ret_int2 H1.out.symm H2.out.symm, rfl⟩
  · have H1 := Lib.hid (show Cal.lenV y m = 0 from if_neg h)
    have H2 := Lib.hid (show Cal.lenE y m = 1 from if_neg h)
    by_cases h1 : 1 ≤ y
    · by_cases h2 : y ≤ 9999
      · by_cases h3 : 1 ≤ m
        · have h4 : ¬ m ≤ 12 := fun h4 => h ⟨h1, h2, h3, h4⟩
          clear h
          go_enter Tryd.func9, Tryd.ntmps9
          go_wp2
          go_ret2
          exact ⟨ret_int2 H1.out.symm H2.out.symm, rfl⟩
        · clear h
          go_enter Tryd.func9, Tryd.ntmps9
          go_wp2
          go_ret2
          exact ⟨ret_int2 H1.out.symm H2.out.symm, rfl⟩
      · clear h
        go_enter Tryd.func9, Tryd.ntmps9
        go_wp2
        go_ret2
        exact ⟨ret_int2 H1.out.symm H2.out.symm, rfl⟩
    · clear h
      go_enter Tryd.func9, Tryd.ntmps9
      go_wp2
      go_ret2
      exact ⟨ret_int2 H1.out.symm H2.out.symm, rfl⟩

set_option maxHeartbeats 400000 in
theorem day_yes (y m d : Int) (w : World) (h1 : 1 ≤ y) (h2 : y ≤ 9999) (h3 : 1 ≤ m) (h4 : m ≤ 12) (h5 : 1 ≤ d) (h6 : d ≤ Cal.mlen y m) :
    Calls Tryd.prog 12 #[.int .i64 y, .int .i64 m, .int .i64 d] w fun e w' => e = .returned (.tuple #[.int .i64 (Cal.num y m d), .int .i64 0]) ∧ w = w' := by
  have H1 := Lib.hid (show Cal.lenV y m = Cal.mlen y m from if_pos ⟨h1, h2, h3, h4⟩)
  have H2 := Lib.hid (show Cal.lenE y m = 0 from if_pos ⟨h1, h2, h3, h4⟩)
  have hb := Cal.mlen_bd y m
  have ha := Cal.ahead_bd y (by omega) (by omega)
  go_enter Tryd.func12, Tryd.ntmps12
  go_wp2_with (go_at_call 10; refine (length_any _ _ _).mono ?_; rintro e w' ⟨rfl, rfl⟩; rw [H1.out, H2.out])
  go_loop [2, 10] (fun dv mv => ∃ j : Nat, (j : Int) + 1 ≤ m ∧ mv = .int .i64 ((j : Int) + 1) ∧ dv = .int .i64 (d + Cal.cum y j)) (fun _ mv => (m - intOf mv).toNat)
  case atStart => exact ⟨0, by omega, rfl, by simp [Cal.cum]⟩
  case round =>
    obtain ⟨j, hj, rfl, rfl⟩ := hrel
    have hc := Cal.cum_bd y j
    have hm := Cal.mlen_bd y ((j : Int) + 1)
    by_cases hlt : (j : Int) + 1 < m
    · go_wp2_with (go_at_call 28; refine (length_in _ _ _ (by omega) (by omega) (by omega) (by omega)).mono ?_; rintro e w' ⟨rfl, rfl⟩)
      go_round
      case rel => exact ⟨j + 1, by omega, by go_num, by rw [Cal.cum_succ, Int.add_assoc]⟩
      case measure => simp [intOf]; omega
    · have hjm : (m - 1).toNat = j := by omega
      have HJ := Lib.hid hjm
      clear hjm
      go_wp2_with (go_at_call 30; refine (ahead_any _ _ (by omega) (by omega)).mono ?_; rintro e w' ⟨rfl, rfl⟩)
      go_ret2
      exact ⟨ret_int2 (by unfold Cal.num; rw [HJ.out]; omega) rfl, rfl⟩

theorem day_no (y m d : Int) (w : World) (h : Cal.vldB y m d = false) :
    Calls Tryd.prog 12 #[.int .i64 y, .int .i64 m, .int .i64 d] w fun e w' => e = .returned (.tuple #[.int .i64 0, .int .i64 1]) ∧ w = w' := by
  have h := (Cal.vldB_not y m d).1 h
  by_cases hl : 1 ≤ y ∧ y ≤ 9999 ∧ 1 ≤ m ∧ m ≤ 12
  · have H1 := Lib.hid (show Cal.lenV y m = Cal.mlen y m from if_pos hl)
    have H2 := Lib.hid (show Cal.lenE y m = 0 from if_pos hl)
    by_cases hd : 1 ≤ d
    · have hd2 : ¬ d ≤ Cal.mlen y m := fun h6 => h ⟨hl.1, hl.2.1, hl.2.2.1, hl.2.2.2, hd, h6⟩
      clear h hl
      go_enter Tryd.func12, Tryd.ntmps12
      go_wp2_with (go_at_call 10; refine (length_any _ _ _).mono ?_; rintro e w' ⟨rfl, rfl⟩; rw [H1.out, H2.out])
      go_ret2
      exact ⟨rfl, rfl⟩
    · clear h hl
      go_enter Tryd.func12, Tryd.ntmps12
      go_wp2_with (go_at_call 10; refine (length_any _ _ _).mono ?_; rintro e w' ⟨rfl, rfl⟩; rw [H1.out, H2.out])
      go_ret2
      exact ⟨rfl, rfl⟩
  · have H1 := Lib.hid (show Cal.lenV y m = 0 from if_neg hl)
    have H2 := Lib.hid (show Cal.lenE y m = 1 from if_neg hl)
    clear h hl
    go_enter Tryd.func12, Tryd.ntmps12
    go_wp2_with (go_at_call 10; refine (length_any _ _ _).mono ?_; rintro e w' ⟨rfl, rfl⟩; rw [H1.out, H2.out])
    go_ret2
    exact ⟨rfl, rfl⟩

theorem day_any (y m d : Int) (w : World) :
    Calls Tryd.prog 12 #[.int .i64 y, .int .i64 m, .int .i64 d] w fun e w' => e = .returned (.tuple #[.int .i64 (Cal.dayV y m d), .int .i64 (Cal.dayE y m d)]) ∧ w = w' := by
  unfold Cal.dayV Cal.dayE
  cases h : Cal.vldB y m d
  · simpa using day_no y m d w h
  · obtain ⟨h1, h2, h3, h4, h5, h6⟩ := (Cal.vldB_iff y m d).1 h
    simpa using day_yes y m d w h1 h2 h3 h4 h5 h6

set_option maxHeartbeats 400000 in
theorem rday_yes (y m d : Int) (w : World) (h1 : 1 ≤ y) (h2 : y ≤ 9999) (h3 : 1 ≤ m) (h4 : m ≤ 12) (h5 : 1 ≤ d) (h6 : d ≤ Cal.mlen y m) :
    Calls Tryd.prog 11 #[.int .i64 y, .int .i64 m, .int .i64 d] w fun e w' => e = .returned (.tuple #[.int .i64 (Cal.num y m d), .int .i64 0]) ∧ w = w' := by
  have hb := Cal.mlen_bd y m
  have ha := Cal.ahead_bd y (by omega) (by omega)
  go_enter Tryd.func11, Tryd.ntmps11
  go_wp2_with (go_at_call 27; refine (rmonth_any _ _ _ (by omega) (by omega) (by omega) (by omega)).mono ?_; rintro e w' ⟨rfl, rfl⟩)
  go_loop [8, 9] (fun dv iv => ∃ i : Int, 1 ≤ i ∧ i ≤ y ∧ iv = .int .i64 i ∧ dv = .int .i64 (d + Cal.ahead i)) (fun _ iv => (y - intOf iv).toNat)
  case atStart => exact ⟨1, by omega, by omega, rfl, by rw [Cal.ahead_one]; simp⟩
  case round =>
    obtain ⟨i, hi, hi2, rfl, rfl⟩ := hrel
    have hA := Cal.ahead_bd i (by omega) (by omega)
    have hY := Cal.ylen_bd i
    by_cases hlt : i < y
    · go_wp2_with (go_at_call 29; refine (ryear_any _ _ (by omega) (by omega)).mono ?_; rintro e w' ⟨rfl, rfl⟩)
      go_round
      case rel => exact ⟨i + 1, by omega, by omega, rfl, by rw [Cal.ahead_succ i hi, Int.add_assoc]⟩
      case measure => simp [intOf]; omega
    · obtain rfl : y = i := by omega
      go_wp2
      go_loop [8, 10] (fun dv mv => ∃ j : Nat, (j : Int) + 1 ≤ m ∧ mv = .int .i64 ((j : Int) + 1) ∧ dv = .int .i64 (d + Cal.ahead y + Cal.cum y j)) (fun _ mv => (m - intOf mv).toNat)
      case atStart => exact ⟨0, by omega, rfl, by simp [Cal.cum]⟩
      case round =>
        obtain ⟨j, hj, rfl, rfl⟩ := hrel
        have hc := Cal.cum_bd y j
        have hm := Cal.mlen_bd y ((j : Int) + 1)
        by_cases hlt2 : (j : Int) + 1 < m
        · go_wp2_with (go_at_call 27; refine (rmonth_any _ _ _ (by omega) (by omega) (by omega) (by omega)).mono ?_; rintro e w' ⟨rfl, rfl⟩)
          go_round
          case rel => exact ⟨j + 1, by omega, by go_num, by rw [Cal.cum_succ]; simp only [Int.add_assoc]⟩
          case measure => simp [intOf]; omega
        · have HJ := Lib.hid (show (m - 1).toNat = j by omega)
          go_wp2
          go_ret2
          exact ⟨ret_int2 (by unfold Cal.num; rw [HJ.out]; omega) rfl, rfl⟩

end Go.Proofs.YteigpfdnecfejaaDoor
