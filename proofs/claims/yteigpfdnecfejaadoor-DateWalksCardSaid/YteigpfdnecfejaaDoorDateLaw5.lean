/- The walk over the law of the calendar's steps. -/
import Derived.Test.YteigpfdnecfejaaDoorDateLaws
import Derived.Test.YteigpfdnecfejaaDoorDatePlain
namespace Go.Proofs.YteigpfdnecfejaaDoor
open Go.RowKit Go.Sort
set_option linter.unusedVariables false

set_option maxRecDepth 100000 in
set_option maxHeartbeats 1000000 in
theorem dateWalks_out (n k : Int) (w : World) (hb : Cal.isB n = false) (n0 : -9223372036854775808 ≤ n) (n1 : n ≤ 9223372036854775807) (htab : Lib.TabIs Tryd.prog w "internal/strconv.uint64pow10" .u64 Lib.pow10Tab) :
    Calls Tryd.prog 6 #[.int .i64 n, .int .i64 k] w fun e w' => e = .returned (.bool true) ∧ Below w.heap.size w w' := by
  have HT := Lib.hid htab
  have HS := Lib.hid (Cal.spl_not hb)
  have HE := Lib.hid (show Cal.splE n = 1 by unfold Cal.splE; rw [hb]; rfl)
  have HW := Lib.hid (show Cal.wdayV n = 0 by unfold Cal.wdayV; rw [hb]; rfl)
  have hn := (Cal.isB_not n).1 hb
  clear htab hb
  by_cases h1 : n < 1
  · clear hn
    go_enter Tryd.func6, Tryd.ntmps6
    go_wp2_with fail
    refine (known_any _ HT.out).mono ?_
    rintro e w1 ⟨rfl, hb1⟩
    go_wp2_with (first | (go_at_call 16; refine (split_any _ _).mono ?_; rintro e w' ⟨rfl, rfl⟩; rw [HS.out.1, HS.out.2.1, HS.out.2.2, HE.out]) | (go_at_call 18; refine (weekday_any _ _).mono ?_; rintro e w' ⟨rfl, rfl⟩; rw [HW.out, HE.out]))
    go_ret
    exact ⟨rfl, hb1⟩
  · have h2 : 3652059 < n := by omega
    clear hn
    go_enter Tryd.func6, Tryd.ntmps6
    go_wp2_with fail
    refine (known_any _ HT.out).mono ?_
    rintro e w1 ⟨rfl, hb1⟩
    go_wp2_with (first | (go_at_call 16; refine (split_any _ _).mono ?_; rintro e w' ⟨rfl, rfl⟩; rw [HS.out.1, HS.out.2.1, HS.out.2.2, HE.out]) | (go_at_call 18; refine (weekday_any _ _).mono ?_; rintro e w' ⟨rfl, rfl⟩; rw [HW.out, HE.out]))
    go_ret
    exact ⟨rfl, hb1⟩

set_option maxRecDepth 100000 in
set_option maxHeartbeats 8000000 in
theorem dateWalks_in (n k : Int) (w : World) (hb : Cal.isB n = true) (k0 : -9223372036854775808 ≤ k) (k1 : k ≤ 9223372036854775807) (htab : Lib.TabIs Tryd.prog w "internal/strconv.uint64pow10" .u64 Lib.pow10Tab) :
    Calls Tryd.prog 6 #[.int .i64 n, .int .i64 k] w fun e w' => e = .returned (.bool true) ∧ Below w.heap.size w w' := by
  have HT := Lib.hid htab
  have HE := Lib.hid (show Cal.splE n = 0 by unfold Cal.splE; rw [hb]; rfl)
  have HD := Lib.hid (Cal.day_back hb)
  have HL := Lib.hid (Cal.len_of hb)
  have hday := Cal.spl_isDay hb
  have HDay := Lib.hid hday
  obtain ⟨y1, y2, m1, m2, d1, d2, _⟩ := hday
  obtain ⟨n1, n2⟩ := (Cal.isB_iff n).1 hb
  obtain ⟨wd1, wd2⟩ := Cal.wday_bd hb
  have ml := Cal.mlen_bd (Cal.splY n) (Cal.splM n)
  clear htab
  -- a week later
  have hweek : (3652052 < n ∧ Hid (Cal.addE n 7 = 17 ∧ Cal.addV n 7 = 0)) ∨ (n ≤ 3652052 ∧ Hid (Cal.addE n 7 = 0 ∧ Cal.addV n 7 = n + 7 ∧ Cal.wdayV (n + 7) = Cal.wdayV n ∧ Cal.splE (n + 7) = 0)) := by
    by_cases h : n ≤ 3652052
    · have h7 : Cal.isB (n + 7) = true := (Cal.isB_iff _).2 (by omega)
      refine Or.inr ⟨h, ?_, ?_, Cal.wday_week hb h7, ?_⟩
      · unfold Cal.addE; rw [hb, h7]; rfl
      · unfold Cal.addV; rw [hb, h7]; rfl
      · unfold Cal.splE; rw [h7]; rfl
    · have h7 : Cal.isB (n + 7) = false := (Cal.isB_not _).2 (by omega)
      refine Or.inl ⟨by omega, ?_, ?_⟩
      · unfold Cal.addE; rw [hb, h7]; rfl
      · unfold Cal.addV; rw [hb, h7]; rfl
  -- months there and back
  have hmon : (Hid (Cal.monV n k = 0 ∧ Cal.monE n k = 17) ∧ (k != 0) = true) ∨ (Hid (Cal.monE n k = 0 ∧ Cal.monE (Cal.monV n k) (-k) = 0 ∧ Cal.splE (Cal.monV (Cal.monV n k) (-k)) = 0 ∧ Cal.splY (Cal.monV (Cal.monV n k) (-k)) = Cal.splY n ∧ Cal.splM (Cal.monV (Cal.monV n k) (-k)) = Cal.splM n) ∧ Cal.splD (Cal.monV (Cal.monV n k) (-k)) ≤ Cal.splD n ∧ -200000 ≤ k ∧ k ≤ 200000) := by
    cases hk : Cal.monB (Cal.at0 n + k)
    · obtain ⟨a, b, c⟩ := Cal.mon_far hb hk
      exact Or.inl ⟨⟨a, b⟩, bne_iff_ne.2 c⟩
    · obtain ⟨_, a⟩ := Cal.mon_ok hb hk
      obtain ⟨_, b, c, d, e, f⟩ := Cal.mon_back hb hk
      have := (Cal.monB_iff _).1 hk
      have := Cal.at0_bd hb
      exact Or.inr ⟨⟨a, b, c, d, e⟩, f, by omega, by omega⟩
  have hnext : (3652059 ≤ n) ∨ (n < 3652059 ∧ Cal.splD n < Cal.mlen (Cal.splY n) (Cal.splM n) ∧ Hid (Cal.splE (n + 1) = 0 ∧ Cal.splY (n + 1) = Cal.splY n ∧ Cal.splM (n + 1) = Cal.splM n ∧ Cal.splD (n + 1) = Cal.splD n + 1)) ∨
      (n < 3652059 ∧ Cal.mlen (Cal.splY n) (Cal.splM n) ≤ Cal.splD n ∧ Cal.splM n < 12 ∧ Hid (Cal.splE (n + 1) = 0 ∧ Cal.splY (n + 1) = Cal.splY n ∧ Cal.splM (n + 1) = Cal.splM n + 1 ∧ Cal.splD (n + 1) = 1)) ∨
      (n < 3652059 ∧ Cal.mlen (Cal.splY n) (Cal.splM n) ≤ Cal.splD n ∧ 12 ≤ Cal.splM n ∧ Hid (Cal.splE (n + 1) = 0 ∧ Cal.splY (n + 1) = Cal.splY n + 1 ∧ Cal.splM (n + 1) = 1 ∧ Cal.splD (n + 1) = 1)) := by
    by_cases h : n < 3652059
    · by_cases hl : Cal.splD n < Cal.mlen (Cal.splY n) (Cal.splM n)
      · exact Or.inr (Or.inl ⟨h, hl, Cal.next_spl (Cal.next_in HDay.out hl)⟩)
      · by_cases hm : Cal.splM n < 12
        · exact Or.inr (Or.inr (Or.inl ⟨h, by omega, hm, Cal.next_spl (Cal.next_month HDay.out (by omega) hm)⟩))
        · exact Or.inr (Or.inr (Or.inr ⟨h, by omega, by omega, Cal.next_spl (Cal.next_year HDay.out (by omega) (by omega) h)⟩))
    · exact Or.inl (by omega)
  clear hb
  have hnext' : (3652059 ≤ n) ∨ (n < 3652059 ∧ Cal.splD n < Cal.mlen (Cal.splY n) (Cal.splM n) ∧ (Cal.splD n == Cal.mlen (Cal.splY n) (Cal.splM n)) = false ∧ Hid (Cal.splE (n + 1) = 0 ∧ Cal.splY (n + 1) = Cal.splY n ∧ Cal.splM (n + 1) = Cal.splM n ∧ Cal.splD (n + 1) = Cal.splD n + 1)) ∨
      (n < 3652059 ∧ Cal.mlen (Cal.splY n) (Cal.splM n) ≤ Cal.splD n ∧ (Cal.splD n == Cal.mlen (Cal.splY n) (Cal.splM n)) = true ∧ Cal.splM n < 12 ∧ Hid (Cal.splE (n + 1) = 0 ∧ Cal.splY (n + 1) = Cal.splY n ∧ Cal.splM (n + 1) = Cal.splM n + 1 ∧ Cal.splD (n + 1) = 1)) ∨
      (n < 3652059 ∧ Cal.mlen (Cal.splY n) (Cal.splM n) ≤ Cal.splD n ∧ (Cal.splD n == Cal.mlen (Cal.splY n) (Cal.splM n)) = true ∧ 12 ≤ Cal.splM n ∧ (Cal.splM n == 12) = true ∧ Hid (Cal.splE (n + 1) = 0 ∧ Cal.splY (n + 1) = Cal.splY n + 1 ∧ Cal.splM (n + 1) = 1 ∧ Cal.splD (n + 1) = 1)) := by
    rcases hnext with hn | ⟨hn, hl, HN⟩ | ⟨hn, hl, hm, HN⟩ | ⟨hn, hl, hm, HN⟩
    · exact Or.inl hn
    · exact Or.inr (Or.inl ⟨hn, hl, beq_eq_false_iff_ne.2 (by omega), HN⟩)
    · exact Or.inr (Or.inr (Or.inl ⟨hn, hl, beq_iff_eq.2 (by omega), hm, HN⟩))
    · exact Or.inr (Or.inr (Or.inr ⟨hn, hl, beq_iff_eq.2 (by omega), hm, beq_iff_eq.2 (by omega), HN⟩))
  clear hnext
  rcases hnext' with hn | ⟨hn, hl, hB, HN⟩ | ⟨hn, hl, hB, hm, HN⟩ | ⟨hn, hl, hB, hm, hB2, HN⟩
  all_goals
    rcases hweek with ⟨hw, H7⟩ | ⟨hw, H7⟩
    all_goals
      rcases hmon with ⟨HM, hk⟩ | ⟨HM, hd, hk1, hk2⟩
      all_goals
        go_enter Tryd.func6, Tryd.ntmps6
        go_wp2_with fail
        refine (known_any _ HT.out).mono ?_
        rintro e w1 ⟨rfl, hb1⟩
        go_wp2_with fail
        refine (split_any _ _).mono ?_
        rintro e w' ⟨rfl, rfl⟩
        rw [HE.out]
        go_wp2_with (first
          | (go_at_call 12; refine (day_any _ _ _ _).mono ?_; rintro e w' ⟨rfl, rfl⟩; rw [HD.out.1, HD.out.2])
          | (go_at_call 10; refine (length_any _ _ _).mono ?_; rintro e w' ⟨rfl, rfl⟩; rw [HL.out.1, HL.out.2])
          | (go_at_call 16; refine (split_any _ _).mono ?_; rintro e w' ⟨rfl, rfl⟩; first | rw [HN.out.1, HN.out.2.1, HN.out.2.2.1, HN.out.2.2.2] | rw [HM.out.2.2.1, HM.out.2.2.2.1, HM.out.2.2.2.2])
          | (go_at_call 18; refine (weekday_any _ _).mono ?_; rintro e w' ⟨rfl, rfl⟩; first | rw [H7.out.2.2.1, H7.out.2.2.2] | rw [HE.out])
          | (go_at_call 20; refine (add_any _ _ _ (by omega) (by omega)).mono ?_; rintro e w' ⟨rfl, rfl⟩; first | rw [H7.out.1, H7.out.2.1] | rw [H7.out.1, H7.out.2])
          | (go_at_call 22; refine (months_any _ _ _ (by omega) (by omega)).mono ?_; rintro e w' ⟨rfl, rfl⟩; first | rw [HM.out.2.1] | rw [HM.out.1, HM.out.2] | rw [HM.out.1]))
        all_goals
          go_ret
          exact ⟨rfl, hb1⟩

theorem dateWalks_walk (n k : Int) (w : World) (n0 : -9223372036854775808 ≤ n) (n1 : n ≤ 9223372036854775807) (k0 : -9223372036854775808 ≤ k) (k1 : k ≤ 9223372036854775807) (htab : Lib.TabIs Tryd.prog w "internal/strconv.uint64pow10" .u64 Lib.pow10Tab) :
    Calls Tryd.prog 6 #[.int .i64 n, .int .i64 k] w fun e w' => e = .returned (.bool true) ∧ Below w.heap.size w w' := by
  cases hb : Cal.isB n
  · exact dateWalks_out n k w hb n0 n1 htab
  · exact dateWalks_in n k w hb k0 k1 htab
end Go.Proofs.YteigpfdnecfejaaDoor
