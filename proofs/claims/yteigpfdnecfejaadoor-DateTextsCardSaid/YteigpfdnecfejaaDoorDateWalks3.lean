/- The walks over package date and its reference, continued: a day's number, its year, month and day of the month. -/
import Derived.Test.YteigpfdnecfejaaDoorDateWalks2
namespace Go.Proofs.YteigpfdnecfejaaDoor
open Go.RowKit
set_option linter.unusedVariables false

theorem rday_no (y m d : Int) (w : World) (h : Cal.vldB y m d = false) :
    Calls Tryd.prog 11 #[.int .i64 y, .int .i64 m, .int .i64 d] w fun e w' => e = .returned (.tuple #[.int .i64 0, .int .i64 1]) ∧ w = w' := by
  have h := (Cal.vldB_not y m d).1 h
  by_cases h1 : 1 ≤ y
  · by_cases h2 : y ≤ 9999
    · by_cases h3 : 1 ≤ m
      · by_cases h4 : m ≤ 12
        · by_cases h5 : 1 ≤ d
          · have h6 : ¬ d ≤ Cal.mlen y m := fun h6 => h ⟨h1, h2, h3, h4, h5, h6⟩
            clear h
            go_enter Tryd.func11, Tryd.ntmps11
            go_wp2_with (go_at_call 27; refine (rmonth_any _ _ _ (by omega) (by omega) (by omega) (by omega)).mono ?_; rintro e w' ⟨rfl, rfl⟩)
            go_ret2
            exact ⟨rfl, rfl⟩
          · clear h
            go_enter Tryd.func11, Tryd.ntmps11
            go_wp2
            go_ret2
            exact ⟨rfl, rfl⟩
        · clear h
          go_enter Tryd.func11, Tryd.ntmps11
          go_wp2
          go_ret2
          exact ⟨rfl, rfl⟩
      · clear h
        go_enter Tryd.func11, Tryd.ntmps11
        go_wp2
        go_ret2
        exact ⟨rfl, rfl⟩
    · clear h
      go_enter Tryd.func11, Tryd.ntmps11
      go_wp2
      go_ret2
      exact ⟨rfl, rfl⟩
  · clear h
    go_enter Tryd.func11, Tryd.ntmps11
    go_wp2
    go_ret2
    exact ⟨rfl, rfl⟩

theorem rday_any (y m d : Int) (w : World) :
    Calls Tryd.prog 11 #[.int .i64 y, .int .i64 m, .int .i64 d] w fun e w' => e = .returned (.tuple #[.int .i64 (Cal.dayV y m d), .int .i64 (Cal.dayE y m d)]) ∧ w = w' := by
  unfold Cal.dayV Cal.dayE
  cases h : Cal.vldB y m d
  · simpa using rday_no y m d w h
  · obtain ⟨h1, h2, h3, h4, h5, h6⟩ := (Cal.vldB_iff y m d).1 h
    simpa using rday_yes y m d w h1 h2 h3 h4 h5 h6

set_option maxHeartbeats 1000000 in
theorem split_in (n : Int) (w : World) (h1 : 1 ≤ n) (h2 : n ≤ 3652059) :
    Calls Tryd.prog 33 #[.int .i64 n] w fun e w' => e = .returned (.tuple #[.int .i64 (Cal.splY n), .int .i64 (Cal.splM n), .int .i64 (Cal.splD n)]) ∧ w = w' := by
  obtain ⟨Y, hY1, hY2, hY3, hY4⟩ := Cal.year_ex n h1 h2
  have hg := Cal.guess hY1 h1 hY4
  have hg1 := Cal.guess_lo h1
  have HYS := Lib.hid (Cal.ahead_succ Y hY1)
  have HC := Lib.hid (Cal.cum_12 Y)
  have hA := Cal.ahead_bd Y (by omega) (by omega)
  go_enter Tryd.func33, Tryd.ntmps33
  go_wp2
  go_loop [5] (fun yv => ∃ y : Int, 1 ≤ y ∧ y ≤ Y + 1 ∧ yv = .int .i64 y) (fun yv => (Y + 1 - intOf yv).toNat)
  case atStart => exact ⟨_, hg1, hg, rfl⟩
  case round =>
    obtain ⟨y, hy1, hy2, rfl⟩ := hrel
    by_cases hc : Cal.ahead (y + 1) < n
    · have hyY : y < Y := by
        by_cases h : y < Y
        · exact h
        · exfalso
          have := Cal.ahead_mono (Y + 1) (y + 1) (by omega) (by omega)
          omega
      go_wp2_with (go_at_call 30; refine (ahead_any _ _ (by omega) (by omega)).mono ?_; rintro e w' ⟨rfl, rfl⟩)
      go_round
      case rel => exact ⟨y + 1, by omega, by omega, rfl⟩
      case measure => simp [intOf]; omega
    · have hyY : Y ≤ y := by
        by_cases h : Y ≤ y
        · exact h
        · exfalso
          have := Cal.ahead_mono (y + 1) Y (by omega) (by omega)
          omega
      go_wp2_with (go_at_call 30; refine (ahead_any _ _ (by omega) (by omega)).mono ?_; rintro e w' ⟨rfl, rfl⟩)
      go_loop [5] (fun yv => ∃ y : Int, Y ≤ y ∧ y ≤ Y + 1 ∧ yv = .int .i64 y) (fun yv => (intOf yv).toNat)
      case atStart => exact ⟨y, hyY, hy2, rfl⟩
      case round =>
        clear hc hyY hy1 hy2
        obtain ⟨z, hz1, hz2, rfl⟩ := hrel
        by_cases hc : n ≤ Cal.ahead z
        · have hzY : z = Y + 1 := by
            by_cases h : z = Y
            · subst h; omega
            · omega
          have hzY' : Y + 1 ≤ z := by omega
          clear hzY
          go_wp2_with (go_at_call 30; refine (ahead_any _ _ (by omega) (by omega)).mono ?_; rintro e w' ⟨rfl, rfl⟩)
          go_round
          case rel => exact ⟨z - 1, by omega, by omega, rfl⟩
          case measure => simp [intOf]; omega
        · have hzY : z = Y := by
            by_cases h : z = Y
            · exact h
            · exfalso
              have e : z = Y + 1 := by omega
              subst e
              omega
          subst hzY
          go_wp2_with (go_at_call 30; refine (ahead_any _ _ (by omega) (by omega)).mono ?_; rintro e w' ⟨rfl, rfl⟩)
          go_loop [0, 6] (fun dv mv => ∃ j : Nat, j ≤ 11 ∧ mv = .int .i64 ((j : Int) + 1) ∧ 1 ≤ n - Cal.ahead z - Cal.cum z j ∧ dv = .int .i64 (n - Cal.ahead z - Cal.cum z j)) (fun _ mv => (12 - intOf mv).toNat)
          case atStart => exact ⟨0, by omega, rfl, by simp [Cal.cum]; omega, by simp [Cal.cum]⟩
          case round =>
            obtain ⟨j, hj, rfl, hd, rfl⟩ := hrel
            have hcb := Cal.cum_bd z j
            have hm := Cal.mlen_bd z ((j : Int) + 1)
            by_cases hlt : Cal.mlen z ((j : Int) + 1) < n - Cal.ahead z - Cal.cum z j
            · have hj' : j < 11 := by
                by_cases h : j < 11
                · exact h
                · exfalso
                  have e : j = 11 := by omega
                  subst e
                  have e2 : Cal.cum z 12 = Cal.cum z 11 + Cal.mlen z (((11 : Nat) : Int) + 1) := rfl
                  have e3 := HC.out
                  have e4 := HYS.out
                  omega
              go_wp2_with (go_at_call 28; refine (length_in _ _ _ (by omega) (by omega) (by omega) (by omega)).mono ?_; rintro e w' ⟨rfl, rfl⟩)
              go_round
              case rel => exact ⟨j + 1, by omega, by go_num, by rw [Cal.cum_succ]; omega, by rw [Cal.cum_succ, ← Int.sub_sub]⟩
              case measure => simp [intOf]; omega
            · have hday : Cal.IsDay n z ((j : Int) + 1) (n - Cal.ahead z - Cal.cum z j) := by
                refine ⟨hY1, hY2, by omega, by omega, hd, by omega, ?_⟩
                unfold Cal.num
                have e : ((j : Int) + 1 - 1).toNat = j := by omega
                rw [e]; omega
              have HS := Lib.hid (Cal.spl_of hday)
              clear hday
              go_wp2_with (go_at_call 28; refine (length_in _ _ _ (by omega) (by omega) (by omega) (by omega)).mono ?_; rintro e w' ⟨rfl, rfl⟩)
              go_ret3
              exact ⟨ret_int3 HS.out.1 HS.out.2.1 HS.out.2.2, rfl⟩

end Go.Proofs.YteigpfdnecfejaaDoor
