/- The walk over the reference's months: counted off one by one. -/
import Derived.Test.YteigpfdnecfejaaDoorDateWalks5
namespace Go.Proofs.YteigpfdnecfejaaDoor
open Go.RowKit
set_option linter.unusedVariables false

theorem rmonths_far (n k : Int) (w : World) (hb : Cal.isB n = true) (hk : 200000 < k ∨ k < -200000) :
    Calls Tryd.prog 21 #[.int .i64 n, .int .i64 k] w fun e w' => e = .returned (.tuple #[.int .i64 0, .int .i64 17]) ∧ w = w' := by
  have HE := Lib.hid (show Cal.splE n = 0 by unfold Cal.splE; rw [hb]; rfl)
  clear hb
  rcases hk with hk | hk
  all_goals
    go_enter Tryd.func21, Tryd.ntmps21
    go_wp2_with (go_at_call 15; refine (rsplit_any _ _).mono ?_; rintro e w' ⟨rfl, rfl⟩; rw [HE.out])
    go_ret2
    exact ⟨rfl, rfl⟩

set_option maxHeartbeats 2000000 in
theorem rmonths_near (n k : Int) (w : World) (hb : Cal.isB n = true) (k0 : -200000 ≤ k) (k1 : k ≤ 200000) :
    Calls Tryd.prog 21 #[.int .i64 n, .int .i64 k] w fun e w' => e = .returned (.tuple #[.int .i64 (Cal.monV n k), .int .i64 (Cal.monE n k)]) ∧ w = w' := by
  obtain ⟨y1, y2, m1, m2, d1, d2⟩ := spl_bd hb
  obtain ⟨h1, h2⟩ := (Cal.isB_iff n).1 hb
  have HB := Lib.hid hb
  have HE := Lib.hid (show Cal.splE n = 0 by unfold Cal.splE; rw [hb]; rfl)
  clear hb
  go_enter Tryd.func21, Tryd.ntmps21
  go_wp2_with (go_at_call 15; refine (rsplit_any _ _).mono ?_; rintro e w' ⟨rfl, rfl⟩; rw [HE.out])
  go_loop [1, 6, 7] (fun iv yv mv => ∃ i y m : Int, Hid (12 * (y - 1) + (m - 1) + i = 12 * (Cal.splY n - 1) + (Cal.splM n - 1) + k) ∧ 1 ≤ m ∧ m ≤ 12 ∧ -200000 ≤ i ∧ i ≤ 200000 ∧ iv = .int .i64 i ∧ yv = .int .i64 y ∧ mv = .int .i64 m) (fun iv _ _ => (intOf iv).toNat)
  case atStart => exact ⟨k, Cal.splY n, Cal.splM n, rfl, m1, m2, k0, k1, rfl, rfl, rfl⟩
  case round =>
    obtain ⟨i, y, m, HI, hm1, hm2, hi1, hi2, rfl, rfl, rfl⟩ := hrel
    have hy1 : -40000 ≤ y := by have := HI.out; omega
    have hy2 : y ≤ 60000 := by have := HI.out; omega
    by_cases hi : 0 < i
    · by_cases hm : m = 12
      · subst hm
        go_wp2
        go_round
        case rel => exact ⟨i - 1, y + 1, 1, show _ = _ by have := HI.out; omega, by omega, by omega, by omega, by omega, rfl, rfl, rfl⟩
        case measure => simp [intOf]; omega
      · go_wp2
        go_round
        case rel => exact ⟨i - 1, y, m + 1, show _ = _ by have := HI.out; omega, by omega, by omega, by omega, by omega, rfl, rfl, rfl⟩
        case measure => simp [intOf]; omega
    · go_wp2
      go_loop [1, 6, 7] (fun iv yv mv => ∃ i y m : Int, Hid (12 * (y - 1) + (m - 1) + i = 12 * (Cal.splY n - 1) + (Cal.splM n - 1) + k) ∧ 1 ≤ m ∧ m ≤ 12 ∧ -200000 ≤ i ∧ i ≤ 0 ∧ iv = .int .i64 i ∧ yv = .int .i64 y ∧ mv = .int .i64 m) (fun iv _ _ => (-(intOf iv)).toNat)
      case atStart => exact ⟨i, y, m, HI, hm1, hm2, hi1, by omega, rfl, rfl, rfl⟩
      case round =>
        clear HI hm1 hm2 hi1 hi2 hy1 hy2 hi
        obtain ⟨i, y, m, HI, hm1, hm2, hi1, hi2, rfl, rfl, rfl⟩ := hrel
        have hy1 : -40000 ≤ y := by have := HI.out; omega
        have hy2 : y ≤ 60000 := by have := HI.out; omega
        by_cases hi : i < 0
        · by_cases hm : m = 1
          · subst hm
            go_wp2
            go_round
            case rel => exact ⟨i + 1, y - 1, 12, show _ = _ by have := HI.out; omega, by omega, by omega, by omega, by omega, rfl, rfl, rfl⟩
            case measure => simp [intOf]; omega
          · go_wp2
            go_round
            case rel => exact ⟨i + 1, y, m - 1, show _ = _ by have := HI.out; omega, by omega, by omega, by omega, by omega, rfl, rfl, rfl⟩
            case measure => simp [intOf]; omega
        · have ea : 12 * (y - 1) + (m - 1) = Cal.at0 n + k := by have := HI.out; unfold Cal.at0; omega
          have ey : (Cal.at0 n + k) / 12 + 1 = y := by omega
          have em : (Cal.at0 n + k) % 12 + 1 = m := by omega
          by_cases hy : 1 ≤ y ∧ y ≤ 9999
          · obtain ⟨g1, g2⟩ := hy
            have hc : Cal.monB (Cal.at0 n + k) = true := (Cal.monB_iff _).2 (by omega)
            have hv : Cal.monV n k = Cal.num y m (min (Cal.splD n) (Cal.mlen y m)) := by
              unfold Cal.monV; rw [HB.out, hc, if_pos rfl, if_pos rfl, ey, em]
            have HW := Lib.hid (show Cal.monE n k = 0 by unfold Cal.monE; rw [HB.out, hc]; rfl)
            have hl := Cal.mlen_bd y m
            clear ea ey em hc
            by_cases hmin : Cal.splD n ≤ Cal.mlen y m
            all_goals
              first
                | rw [Int.min_eq_left hmin] at hv
                | rw [Int.min_eq_right (by omega)] at hv
              have HS := Lib.hid hv
              clear hv
              go_wp2_with (first | (go_at_call 27; refine (rmonth_any _ _ _ (by omega) (by omega) (by omega) (by omega)).mono ?_; rintro e w' ⟨rfl, rfl⟩) | (go_at_call 11; refine (rday_yes _ _ _ _ (by omega) (by omega) (by omega) (by omega) (by omega) (by omega)).mono ?_; rintro e w' ⟨rfl, rfl⟩))
              go_ret2
              exact ⟨ret_int2 HS.out.symm HW.out.symm, rfl⟩
          · have hc : Cal.monB (Cal.at0 n + k) = false := (Cal.monB_not _).2 (by omega)
            have HS := Lib.hid (show Cal.monV n k = 0 by unfold Cal.monV; rw [HB.out, hc]; rfl)
            have HW := Lib.hid (show Cal.monE n k = 17 by unfold Cal.monE; rw [HB.out, hc]; rfl)
            clear ea ey em hc
            by_cases g1 : y < 1
            · clear hy
              go_wp2
              go_ret2
              exact ⟨ret_int2 HS.out.symm HW.out.symm, rfl⟩
            · have g2 : 9999 < y := by omega
              clear hy
              go_wp2
              go_ret2
              exact ⟨ret_int2 HS.out.symm HW.out.symm, rfl⟩

theorem rmonths_any (n k : Int) (w : World) :
    Calls Tryd.prog 21 #[.int .i64 n, .int .i64 k] w fun e w' => e = .returned (.tuple #[.int .i64 (Cal.monV n k), .int .i64 (Cal.monE n k)]) ∧ w = w' := by
  cases hb : Cal.isB n
  · have HS := Lib.hid (show Cal.monV n k = 0 by unfold Cal.monV; rw [hb]; rfl)
    have HE := Lib.hid (show Cal.monE n k = 1 by unfold Cal.monE; rw [hb]; rfl)
    have HF := Lib.hid (show Cal.splE n = 1 by unfold Cal.splE; rw [hb]; rfl)
    clear hb
    go_enter Tryd.func21, Tryd.ntmps21
    go_wp2_with (go_at_call 15; refine (rsplit_any _ _).mono ?_; rintro e w' ⟨rfl, rfl⟩; rw [HF.out])
    go_ret2
    exact ⟨ret_int2 HS.out.symm HE.out.symm, rfl⟩
  · by_cases h : -200000 ≤ k ∧ k ≤ 200000
    · exact rmonths_near n k w hb h.1 h.2
    · have hc : Cal.monB (Cal.at0 n + k) = false := by
        obtain ⟨y1, y2, m1, m2, _, _⟩ := spl_bd hb
        refine (Cal.monB_not _).2 ?_
        unfold Cal.at0
        omega
      have h1 : Cal.monV n k = 0 := by unfold Cal.monV; rw [hb, hc]; rfl
      have h2 : Cal.monE n k = 17 := by unfold Cal.monE; rw [hb, hc]; rfl
      rw [h1, h2]
      exact rmonths_far n k w hb (by omega)

end Go.Proofs.YteigpfdnecfejaaDoor
