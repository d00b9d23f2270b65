/- The walks over package date and its reference, continued: Split, Weekday, Add. -/
import Derived.Test.YteigpfdnecfejaaDoorDateWalks3
namespace Go.Proofs.YteigpfdnecfejaaDoor
open Go.RowKit
set_option linter.unusedVariables false

theorem results_tmp4 {fn : Func} {t u v x : Tmp} (h : fn.results = #[.tmp t, .tmp u, .tmp v, .tmp x]) (tmps : Array Value) (P : Program) (w : World) :
    (results fn tmps).run P w = .ok (.tuple #[tmps.getD t undef, tmps.getD u undef, tmps.getD v undef, tmps.getD x undef]) w := by
  simp [results, h]

set_option maxHeartbeats 400000 in
theorem split_any (n : Int) (w : World) :
    Calls Tryd.prog 16 #[.int .i64 n] w fun e w' => e = .returned (.tuple #[.int .i64 (Cal.splY n), .int .i64 (Cal.splM n), .int .i64 (Cal.splD n), .int .i64 (Cal.splE n)]) ∧ w = w' := by
  cases hb : Cal.isB n
  · have HS := Lib.hid (Cal.spl_not hb)
    have HE := Lib.hid (show Cal.splE n = 1 by unfold Cal.splE; rw [hb]; rfl)
    have HB := Lib.hid hb
    clear hb
    go_enter Tryd.func16, Tryd.ntmps16
    go_wp2_with (go_at_call 32; refine (is_any _ _).mono ?_; rintro e w' ⟨rfl, rfl⟩; rw [HB.out])
    (try simp only [Exit.inBlock, Exit.then])
    refine bodyPost_ret (results_tmp4 rfl _ _ _) rfl ?_
    exact ⟨ret_int4 HS.out.1.symm HS.out.2.1.symm HS.out.2.2.symm HE.out.symm, rfl⟩
  · have HE := Lib.hid (show Cal.splE n = 0 by unfold Cal.splE; rw [hb]; rfl)
    obtain ⟨h1, h2⟩ := (Cal.isB_iff n).1 hb
    have HB := Lib.hid hb
    clear hb
    go_enter Tryd.func16, Tryd.ntmps16
    go_wp2_with (first | (go_at_call 32; refine (is_any _ _).mono ?_; rintro e w' ⟨rfl, rfl⟩; rw [HB.out]) | (go_at_call 33; refine (split_in _ _ (by omega) (by omega)).mono ?_; rintro e w' ⟨rfl, rfl⟩))
    (try simp only [Exit.inBlock, Exit.then])
    refine bodyPost_ret (results_tmp4 rfl _ _ _) rfl ?_
    exact ⟨ret_int4 rfl rfl rfl HE.out.symm, rfl⟩

set_option maxHeartbeats 1000000 in
theorem rsplit_any (n : Int) (w : World) :
    Calls Tryd.prog 15 #[.int .i64 n] w fun e w' => e = .returned (.tuple #[.int .i64 (Cal.splY n), .int .i64 (Cal.splM n), .int .i64 (Cal.splD n), .int .i64 (Cal.splE n)]) ∧ w = w' := by
  cases hb : Cal.isB n
  · have HS := Lib.hid (Cal.spl_not hb)
    have HE := Lib.hid (show Cal.splE n = 1 by unfold Cal.splE; rw [hb]; rfl)
    have HB := Lib.hid hb
    clear hb
    go_enter Tryd.func15, Tryd.ntmps15
    go_wp2_with (go_at_call 31; refine (ris_any _ _).mono ?_; rintro e w' ⟨rfl, rfl⟩; rw [HB.out])
    (try simp only [Exit.inBlock, Exit.then])
    refine bodyPost_ret (results_tmp4 rfl _ _ _) rfl ?_
    exact ⟨ret_int4 HS.out.1.symm HS.out.2.1.symm HS.out.2.2.symm HE.out.symm, rfl⟩
  · have HE := Lib.hid (show Cal.splE n = 0 by unfold Cal.splE; rw [hb]; rfl)
    obtain ⟨h1, h2⟩ := (Cal.isB_iff n).1 hb
    have HB := Lib.hid hb
    clear hb
    obtain ⟨Y, hY1, hY2, hY3, hY4⟩ := Cal.year_ex n h1 h2
    have HYS := Lib.hid (Cal.ahead_succ Y hY1)
    have HC := Lib.hid (Cal.cum_12 Y)
    have hA := Cal.ahead_bd Y (by omega) (by omega)
    go_enter Tryd.func15, Tryd.ntmps15
    go_wp2_with (go_at_call 31; refine (ris_any _ _).mono ?_; rintro e w' ⟨rfl, rfl⟩; rw [HB.out])
    go_loop [0, 6] (fun dv yv => ∃ y : Int, 1 ≤ y ∧ y ≤ Y ∧ yv = .int .i64 y ∧ dv = .int .i64 (n - Cal.ahead y)) (fun _ yv => (Y - intOf yv).toNat)
    case atStart => exact ⟨1, by omega, by omega, rfl, by rw [Cal.ahead_one]; simp⟩
    case round =>
      obtain ⟨y, hy1, hy2, rfl, rfl⟩ := hrel
      have hay := Cal.ahead_bd y (by omega) (by omega)
      have hyl := Cal.ylen_bd y
      have HY1 := Lib.hid (Cal.ahead_succ y hy1)
      by_cases hc : Cal.ylen y < n - Cal.ahead y
      · have hyY : y < Y := by
          by_cases h : y < Y
          · exact h
          · exfalso
            have e : y = Y := by omega
            subst e
            have := HYS.out
            omega
        go_wp2_with (go_at_call 29; refine (ryear_any _ _ (by omega) (by omega)).mono ?_; rintro e w' ⟨rfl, rfl⟩)
        go_round
        case rel => exact ⟨y + 1, by omega, by omega, rfl, by rw [HY1.out, ← Int.sub_sub]⟩
        case measure => simp [intOf]; omega
      · have hyY : y = Y := by
          by_cases h : y = Y
          · exact h
          · exfalso
            have h1 := Cal.ahead_mono (y + 1) Y (by omega) (by omega)
            have h2 := HY1.out
            omega
        subst hyY
        go_wp2_with (go_at_call 29; refine (ryear_any _ _ (by omega) (by omega)).mono ?_; rintro e w' ⟨rfl, rfl⟩)
        go_loop [0, 7] (fun dv mv => ∃ j : Nat, j ≤ 11 ∧ mv = .int .i64 ((j : Int) + 1) ∧ 1 ≤ n - Cal.ahead y - Cal.cum y j ∧ dv = .int .i64 (n - Cal.ahead y - Cal.cum y j)) (fun _ mv => (12 - intOf mv).toNat)
        case atStart => exact ⟨0, by omega, rfl, by simp [Cal.cum]; omega, by simp [Cal.cum]⟩
        case round =>
          obtain ⟨j, hj, rfl, hd, rfl⟩ := hrel
          have hcb := Cal.cum_bd y j
          have hm := Cal.mlen_bd y ((j : Int) + 1)
          by_cases hlt : Cal.mlen y ((j : Int) + 1) < n - Cal.ahead y - Cal.cum y j
          · have hj' : j < 11 := by
              by_cases h : j < 11
              · exact h
              · exfalso
                have e : j = 11 := by omega
                subst e
                have e2 : Cal.cum y 12 = Cal.cum y 11 + Cal.mlen y (((11 : Nat) : Int) + 1) := rfl
                have e3 := HC.out
                have e4 := HYS.out
                omega
            go_wp2_with (go_at_call 27; refine (rmonth_any _ _ _ (by omega) (by omega) (by omega) (by omega)).mono ?_; rintro e w' ⟨rfl, rfl⟩)
            go_round
            case rel => exact ⟨j + 1, by omega, by go_num, by rw [Cal.cum_succ]; omega, by rw [Cal.cum_succ, ← Int.sub_sub]⟩
            case measure => simp [intOf]; omega
          · have hday : Cal.IsDay n y ((j : Int) + 1) (n - Cal.ahead y - Cal.cum y j) := by
              refine ⟨hY1, hY2, by omega, by omega, hd, by omega, ?_⟩
              unfold Cal.num
              have e : ((j : Int) + 1 - 1).toNat = j := by omega
              rw [e]; omega
            have HS := Lib.hid (Cal.spl_of hday)
            clear hday
            go_wp2_with (go_at_call 27; refine (rmonth_any _ _ _ (by omega) (by omega) (by omega) (by omega)).mono ?_; rintro e w' ⟨rfl, rfl⟩)
            (try simp only [Exit.inBlock, Exit.then])
            refine bodyPost_ret (results_tmp4 rfl _ _ _) rfl ?_
            exact ⟨ret_int4 HS.out.1 HS.out.2.1 HS.out.2.2 HE.out.symm, rfl⟩

set_option maxHeartbeats 400000 in
theorem weekday_any (n : Int) (w : World) :
    Calls Tryd.prog 18 #[.int .i64 n] w fun e w' => e = .returned (.tuple #[.int .i64 (Cal.wdayV n), .int .i64 (Cal.splE n)]) ∧ w = w' := by
  cases hb : Cal.isB n
  · have HS := Lib.hid (show Cal.wdayV n = 0 by unfold Cal.wdayV; rw [hb]; rfl)
    have HE := Lib.hid (show Cal.splE n = 1 by unfold Cal.splE; rw [hb]; rfl)
    have HB := Lib.hid hb
    clear hb
    go_enter Tryd.func18, Tryd.ntmps18
    go_wp2_with (go_at_call 32; refine (is_any _ _).mono ?_; rintro e w' ⟨rfl, rfl⟩; rw [HB.out])
    go_ret2
    exact ⟨ret_int2 HS.out.symm HE.out.symm, rfl⟩
  · have HS := Lib.hid (show Cal.wdayV n = (n - 1) % 7 + 1 by unfold Cal.wdayV; rw [hb]; rfl)
    have HE := Lib.hid (show Cal.splE n = 0 by unfold Cal.splE; rw [hb]; rfl)
    obtain ⟨h1, h2⟩ := (Cal.isB_iff n).1 hb
    have HB := Lib.hid hb
    clear hb
    go_enter Tryd.func18, Tryd.ntmps18
    go_wp2_with (go_at_call 32; refine (is_any _ _).mono ?_; rintro e w' ⟨rfl, rfl⟩; rw [HB.out])
    go_ret2
    exact ⟨ret_int2 HS.out.symm HE.out.symm, rfl⟩

set_option maxHeartbeats 400000 in
theorem rweekday_any (n : Int) (w : World) :
    Calls Tryd.prog 17 #[.int .i64 n] w fun e w' => e = .returned (.tuple #[.int .i64 (Cal.wdayV n), .int .i64 (Cal.splE n)]) ∧ w = w' := by
  cases hb : Cal.isB n
  · have HS := Lib.hid (show Cal.wdayV n = 0 by unfold Cal.wdayV; rw [hb]; rfl)
    have HE := Lib.hid (show Cal.splE n = 1 by unfold Cal.splE; rw [hb]; rfl)
    have HB := Lib.hid hb
    clear hb
    go_enter Tryd.func17, Tryd.ntmps17
    go_wp2_with (go_at_call 31; refine (ris_any _ _).mono ?_; rintro e w' ⟨rfl, rfl⟩; rw [HB.out])
    go_ret2
    exact ⟨ret_int2 HS.out.symm HE.out.symm, rfl⟩
  · have HS := Lib.hid (show Cal.wdayV n = (n - 1) % 7 + 1 by unfold Cal.wdayV; rw [hb]; rfl)
    have HE := Lib.hid (show Cal.splE n = 0 by unfold Cal.splE; rw [hb]; rfl)
    obtain ⟨h1, h2⟩ := (Cal.isB_iff n).1 hb
    have HB := Lib.hid hb
    clear hb
    go_enter Tryd.func17, Tryd.ntmps17
    go_wp2_with (go_at_call 31; refine (ris_any _ _).mono ?_; rintro e w' ⟨rfl, rfl⟩; rw [HB.out])
    go_ret2
    exact ⟨ret_int2 HS.out.symm HE.out.symm, rfl⟩

end Go.Proofs.YteigpfdnecfejaaDoor
