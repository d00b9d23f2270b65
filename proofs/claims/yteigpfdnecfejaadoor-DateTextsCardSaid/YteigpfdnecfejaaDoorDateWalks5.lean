/- The walks over package date and its reference, continued: Add, Months. -/
import Derived.Test.YteigpfdnecfejaaDoorDateWalks4
namespace Go.Proofs.YteigpfdnecfejaaDoor
open Go.RowKit
set_option linter.unusedVariables false

set_option maxHeartbeats 400000 in
theorem add_any (n k : Int) (w : World) (k0 : -9223372036854775808 ≤ k) (k1 : k ≤ 9223372036854775807) :
    Calls Tryd.prog 20 #[.int .i64 n, .int .i64 k] w fun e w' => e = .returned (.tuple #[.int .i64 (Cal.addV n k), .int .i64 (Cal.addE n k)]) ∧ w = w' := by
  cases hb : Cal.isB n
  · have HS := Lib.hid (show Cal.addV n k = 0 by unfold Cal.addV; rw [hb]; rfl)
    have HE := Lib.hid (show Cal.addE n k = 1 by unfold Cal.addE; rw [hb]; rfl)
    have HB := Lib.hid hb
    clear hb
    go_enter Tryd.func20, Tryd.ntmps20
    go_wp2_with (go_at_call 32; refine (is_any _ _).mono ?_; rintro e w' ⟨rfl, rfl⟩; rw [HB.out])
    go_ret2
    exact ⟨ret_int2 HS.out.symm HE.out.symm, rfl⟩
  · obtain ⟨h1, h2⟩ := (Cal.isB_iff n).1 hb
    cases hc : Cal.isB (n + k)
    · have HS := Lib.hid (show Cal.addV n k = 0 by unfold Cal.addV; rw [hb, hc]; rfl)
      have HE := Lib.hid (show Cal.addE n k = 17 by unfold Cal.addE; rw [hb, hc]; rfl)
      have hn := (Cal.isB_not (n + k)).1 hc
      have HB := Lib.hid hb
      clear hb hc
      by_cases hk : 3652059 - n < k
      · go_enter Tryd.func20, Tryd.ntmps20
        go_wp2_with (go_at_call 32; refine (is_any _ _).mono ?_; rintro e w' ⟨rfl, rfl⟩; rw [HB.out])
        go_ret2
        exact ⟨ret_int2 HS.out.symm HE.out.symm, rfl⟩
      · have hk2 : k < 1 - n := by omega
        clear hn
        go_enter Tryd.func20, Tryd.ntmps20
        go_wp2_with (go_at_call 32; refine (is_any _ _).mono ?_; rintro e w' ⟨rfl, rfl⟩; rw [HB.out])
        go_ret2
        exact ⟨ret_int2 HS.out.symm HE.out.symm, rfl⟩
    · have HS := Lib.hid (show Cal.addV n k = n + k by unfold Cal.addV; rw [hb, hc]; rfl)
      have HE := Lib.hid (show Cal.addE n k = 0 by unfold Cal.addE; rw [hb, hc]; rfl)
      obtain ⟨h3, h4⟩ := (Cal.isB_iff (n + k)).1 hc
      have HB := Lib.hid hb
      clear hb hc
      go_enter Tryd.func20, Tryd.ntmps20
      go_wp2_with (go_at_call 32; refine (is_any _ _).mono ?_; rintro e w' ⟨rfl, rfl⟩; rw [HB.out])
      go_ret2
      exact ⟨ret_int2 HS.out.symm HE.out.symm, rfl⟩

set_option maxHeartbeats 400000 in
theorem radd_any (n k : Int) (w : World) (k0 : -9223372036854775808 ≤ k) (k1 : k ≤ 9223372036854775807) :
    Calls Tryd.prog 19 #[.int .i64 n, .int .i64 k] w fun e w' => e = .returned (.tuple #[.int .i64 (Cal.addV n k), .int .i64 (Cal.addE n k)]) ∧ w = w' := by
  cases hb : Cal.isB n
  · have HS := Lib.hid (show Cal.addV n k = 0 by unfold Cal.addV; rw [hb]; rfl)
    have HE := Lib.hid (show Cal.addE n k = 1 by unfold Cal.addE; rw [hb]; rfl)
    have HB := Lib.hid hb
    clear hb
    go_enter Tryd.func19, Tryd.ntmps19
    go_wp2_with (go_at_call 31; refine (ris_any _ _).mono ?_; rintro e w' ⟨rfl, rfl⟩; rw [HB.out])
    go_ret2
    exact ⟨ret_int2 HS.out.symm HE.out.symm, rfl⟩
  · obtain ⟨h1, h2⟩ := (Cal.isB_iff n).1 hb
    cases hc : Cal.isB (n + k)
    · have HS := Lib.hid (show Cal.addV n k = 0 by unfold Cal.addV; rw [hb, hc]; rfl)
      have HE := Lib.hid (show Cal.addE n k = 17 by unfold Cal.addE; rw [hb, hc]; rfl)
      have HB := Lib.hid hb
      have HC := Lib.hid hc
      clear hb hc
      by_cases hk : 3652059 < k
      · go_enter Tryd.func19, Tryd.ntmps19
        go_wp2_with (go_at_call 31; refine (ris_any _ _).mono ?_; rintro e w' ⟨rfl, rfl⟩; rw [HB.out])
        go_ret2
        exact ⟨ret_int2 HS.out.symm HE.out.symm, rfl⟩
      · by_cases hk2 : k < -3652059
        · go_enter Tryd.func19, Tryd.ntmps19
          go_wp2_with (go_at_call 31; refine (ris_any _ _).mono ?_; rintro e w' ⟨rfl, rfl⟩; rw [HB.out])
          go_ret2
          exact ⟨ret_int2 HS.out.symm HE.out.symm, rfl⟩
        · go_enter Tryd.func19, Tryd.ntmps19
          go_wp2_with (go_at_call 31; refine (ris_any _ _).mono ?_; rintro e w' ⟨rfl, rfl⟩; first | rw [HB.out] | rw [HC.out])
          go_ret2
          exact ⟨ret_int2 HS.out.symm HE.out.symm, rfl⟩
    · have HS := Lib.hid (show Cal.addV n k = n + k by unfold Cal.addV; rw [hb, hc]; rfl)
      have HE := Lib.hid (show Cal.addE n k = 0 by unfold Cal.addE; rw [hb, hc]; rfl)
      obtain ⟨h3, h4⟩ := (Cal.isB_iff (n + k)).1 hc
      have HB := Lib.hid hb
      have HC := Lib.hid hc
      clear hb hc
      go_enter Tryd.func19, Tryd.ntmps19
      go_wp2_with (go_at_call 31; refine (ris_any _ _).mono ?_; rintro e w' ⟨rfl, rfl⟩; first | rw [HB.out] | rw [HC.out])
      go_ret2
      exact ⟨ret_int2 HS.out.symm HE.out.symm, rfl⟩

theorem spl_bd {n : Int} (h : Cal.isB n = true) : 1 ≤ Cal.splY n ∧ Cal.splY n ≤ 9999 ∧ 1 ≤ Cal.splM n ∧ Cal.splM n ≤ 12 ∧ 1 ≤ Cal.splD n ∧ Cal.splD n ≤ 31 := by
  have h := Cal.spl_isDay h
  obtain ⟨a, b, c, d, e, f, _⟩ := h
  have := Cal.mlen_bd (Cal.splY n) (Cal.splM n)
  exact ⟨a, b, c, d, e, by omega⟩

set_option maxHeartbeats 1000000 in
theorem months_any (n k : Int) (w : World) (k0 : -9223372036854775808 ≤ k) (k1 : k ≤ 9223372036854775807) :
    Calls Tryd.prog 22 #[.int .i64 n, .int .i64 k] w fun e w' => e = .returned (.tuple #[.int .i64 (Cal.monV n k), .int .i64 (Cal.monE n k)]) ∧ w = w' := by
  cases hb : Cal.isB n
  · have HS := Lib.hid (show Cal.monV n k = 0 by unfold Cal.monV; rw [hb]; rfl)
    have HE := Lib.hid (show Cal.monE n k = 1 by unfold Cal.monE; rw [hb]; rfl)
    have HB := Lib.hid hb
    clear hb
    go_enter Tryd.func22, Tryd.ntmps22
    go_wp2_with (go_at_call 32; refine (is_any _ _).mono ?_; rintro e w' ⟨rfl, rfl⟩; rw [HB.out])
    go_ret2
    exact ⟨ret_int2 HS.out.symm HE.out.symm, rfl⟩
  · obtain ⟨h1, h2⟩ := (Cal.isB_iff n).1 hb
    obtain ⟨y1, y2, m1, m2, d1, d2⟩ := spl_bd hb
    cases hc : Cal.monB (Cal.at0 n + k)
    · have HS := Lib.hid (show Cal.monV n k = 0 by unfold Cal.monV; rw [hb, hc]; rfl)
      have HE := Lib.hid (show Cal.monE n k = 17 by unfold Cal.monE; rw [hb, hc]; rfl)
      have hn := (Cal.monB_not (Cal.at0 n + k)).1 hc
      unfold Cal.at0 at hn
      have HB := Lib.hid hb
      clear hb hc
      by_cases hk : 119987 - (12 * (Cal.splY n - 1) + Cal.splM n - 1) < k
      · clear hn
        go_enter Tryd.func22, Tryd.ntmps22
        go_wp2_with (first | (go_at_call 32; refine (is_any _ _).mono ?_; rintro e w' ⟨rfl, rfl⟩; rw [HB.out]) | (go_at_call 33; refine (split_in _ _ (by omega) (by omega)).mono ?_; rintro e w' ⟨rfl, rfl⟩))
        go_ret2
        exact ⟨ret_int2 HS.out.symm HE.out.symm, rfl⟩
      · have hk2 : k < -(12 * (Cal.splY n - 1) + Cal.splM n - 1) := by omega
        clear hn
        go_enter Tryd.func22, Tryd.ntmps22
        go_wp2_with (first | (go_at_call 32; refine (is_any _ _).mono ?_; rintro e w' ⟨rfl, rfl⟩; rw [HB.out]) | (go_at_call 33; refine (split_in _ _ (by omega) (by omega)).mono ?_; rintro e w' ⟨rfl, rfl⟩))
        go_ret2
        exact ⟨ret_int2 HS.out.symm HE.out.symm, rfl⟩
    · have hv : Cal.monV n k = Cal.num ((12 * (Cal.splY n - 1) + Cal.splM n - 1 + k) / 12 + 1) ((12 * (Cal.splY n - 1) + Cal.splM n - 1 + k) % 12 + 1) (min (Cal.splD n) (Cal.mlen ((12 * (Cal.splY n - 1) + Cal.splM n - 1 + k) / 12 + 1) ((12 * (Cal.splY n - 1) + Cal.splM n - 1 + k) % 12 + 1))) := by
        unfold Cal.monV; rw [hb, hc, if_pos rfl, if_pos rfl]; rfl
      have HE := Lib.hid (show Cal.monE n k = 0 by unfold Cal.monE; rw [hb, hc]; rfl)
      obtain ⟨h3, h4⟩ := (Cal.monB_iff (Cal.at0 n + k)).1 hc
      unfold Cal.at0 at h3 h4
      have hl := Cal.mlen_bd ((12 * (Cal.splY n - 1) + Cal.splM n - 1 + k) / 12 + 1) ((12 * (Cal.splY n - 1) + Cal.splM n - 1 + k) % 12 + 1)
      have HB := Lib.hid hb
      clear hb hc
      by_cases hmin : Cal.splD n ≤ Cal.mlen ((12 * (Cal.splY n - 1) + Cal.splM n - 1 + k) / 12 + 1) ((12 * (Cal.splY n - 1) + Cal.splM n - 1 + k) % 12 + 1)
      all_goals
        first
          | rw [Int.min_eq_left hmin] at hv
          | rw [Int.min_eq_right (by omega)] at hv
        have HS := Lib.hid hv
        clear hv
        go_enter Tryd.func22, Tryd.ntmps22
        go_wp2_with (first | (go_at_call 32; refine (is_any _ _).mono ?_; rintro e w' ⟨rfl, rfl⟩; rw [HB.out]) | (go_at_call 33; refine (split_in _ _ (by omega) (by omega)).mono ?_; rintro e w' ⟨rfl, rfl⟩) | (go_at_call 28; refine (length_in _ _ _ (by omega) (by omega) (by omega) (by omega)).mono ?_; rintro e w' ⟨rfl, rfl⟩) | (go_at_call 12; refine (day_yes _ _ _ _ (by omega) (by omega) (by omega) (by omega) (by omega) (by omega)).mono ?_; rintro e w' ⟨rfl, rfl⟩))
        go_ret2
        exact ⟨ret_int2 HS.out.symm HE.out.symm, rfl⟩

end Go.Proofs.YteigpfdnecfejaaDoor
