/- The plain law of the calendar's steps: the day behind a day, a week later, months there and back. -/
import Derived.Test.YteigpfdnecfejaaDoorDateMath
namespace Cal

theorem isB_of {n y m d : Int} (h : IsDay n y m d) : isB n = true := (isB_iff n).2 h.range

theorem next_in {n y m d : Int} (h : IsDay n y m d) (hd : d < mlen y m) : IsDay (n + 1) y m (d + 1) := by
  obtain ⟨a, b, c, e, f, g, i⟩ := h
  refine ⟨a, b, c, e, by omega, by omega, ?_⟩
  unfold num at i ⊢
  omega

theorem next_month {n y m d : Int} (h : IsDay n y m d) (hd : mlen y m ≤ d) (hm : m < 12) : IsDay (n + 1) y (m + 1) 1 := by
  obtain ⟨a, b, c, e, f, g, i⟩ := h
  have hl := mlen_bd y (m + 1)
  refine ⟨a, b, by omega, by omega, by omega, by omega, ?_⟩
  unfold num at i ⊢
  have h1 := cum_succ y (m - 1).toNat
  have hm1 : (((m - 1).toNat : Nat) : Int) + 1 = m := by omega
  have hm2 : (m + 1 - 1).toNat = (m - 1).toNat + 1 := by omega
  rw [hm1] at h1
  rw [hm2]
  omega

theorem next_year {n y m d : Int} (h : IsDay n y m d) (hd : mlen y m ≤ d) (hm : m = 12) (hn : n < 3652059) : IsDay (n + 1) (y + 1) 1 1 := by
  subst hm
  obtain ⟨a, b, c, e, f, g, i⟩ := h
  have h1 : cum y 12 = cum y 11 + mlen y 12 := rfl
  rw [cum_12] at h1
  have h2 := ahead_succ y a
  have h3 : cum y ((12 : Int) - 1).toNat = cum y 11 := rfl
  have h4 : cum (y + 1) ((1 : Int) - 1).toNat = 0 := rfl
  have hl := mlen_bd (y + 1) 1
  unfold num at i
  rw [h3] at i
  refine ⟨by omega, ?_, by omega, by omega, by omega, by omega, ?_⟩
  · by_cases hy : y = 9999
    · subst hy
      have h5 := ahead_last
      have h6 : ahead (9999 + 1) = ahead 10000 := rfl
      omega
    · omega
  · unfold num
    rw [h4]
    omega

theorem wday_bd {n : Int} (h : isB n = true) : 1 ≤ wdayV n ∧ wdayV n ≤ 7 := by
  obtain ⟨a, b⟩ := (isB_iff n).1 h
  unfold wdayV
  rw [h, if_pos rfl]
  omega

theorem wday_week {n : Int} (h : isB n = true) (h7 : isB (n + 7) = true) : wdayV (n + 7) = wdayV n := by
  unfold wdayV
  rw [h, h7, if_pos rfl, if_pos rfl]
  omega

theorem at0_bd {n : Int} (h : isB n = true) : 0 ≤ at0 n ∧ at0 n ≤ 119987 := by
  obtain ⟨a, b, c, e, f, g, i⟩ := spl_isDay h
  unfold at0
  omega

theorem mon_far {n k : Int} (h : isB n = true) (hk : monB (at0 n + k) = false) : monV n k = 0 ∧ monE n k = 17 ∧ k ≠ 0 := by
  refine ⟨by unfold monV; rw [h, hk]; rfl, by unfold monE; rw [h, hk]; rfl, fun e => ?_⟩
  have := at0_bd h
  have := (monB_not _).1 hk
  omega

/-- What lies k months behind a day: its year, month, day of the month. -/
theorem mon_ok {n k : Int} (h : isB n = true) (hk : monB (at0 n + k) = true) :
    IsDay (monV n k) ((at0 n + k) / 12 + 1) ((at0 n + k) % 12 + 1) (min (splD n) (mlen ((at0 n + k) / 12 + 1) ((at0 n + k) % 12 + 1))) ∧ monE n k = 0 := by
  refine ⟨?_, by unfold monE; rw [h, hk]; rfl⟩
  have hv : monV n k = num ((at0 n + k) / 12 + 1) ((at0 n + k) % 12 + 1) (min (splD n) (mlen ((at0 n + k) / 12 + 1) ((at0 n + k) % 12 + 1))) := by
    unfold monV; rw [h, hk, if_pos rfl, if_pos rfl]
  obtain ⟨a, b⟩ := (monB_iff _).1 hk
  obtain ⟨_, _, _, _, f, _, _⟩ := spl_isDay h
  have hl := mlen_bd ((at0 n + k) / 12 + 1) ((at0 n + k) % 12 + 1)
  exact ⟨by omega, by omega, by omega, by omega, by omega, by omega, hv.symm⟩

theorem mon_back {n k : Int} (h : isB n = true) (hk : monB (at0 n + k) = true) :
    isB (monV n k) = true ∧ monE (monV n k) (-k) = 0 ∧ splE (monV (monV n k) (-k)) = 0 ∧ splY (monV (monV n k) (-k)) = splY n ∧ splM (monV (monV n k) (-k)) = splM n ∧ splD (monV (monV n k) (-k)) ≤ splD n := by
  obtain ⟨hd, _⟩ := mon_ok h hk
  have hb := isB_of hd
  obtain ⟨e1, e2, e3⟩ := spl_of hd
  have ha : at0 (monV n k) = at0 n + k := by
    have e : at0 (monV n k) = 12 * (splY (monV n k) - 1) + splM (monV n k) - 1 := rfl
    rw [e, ← e1, ← e2]
    omega
  have hn := spl_isDay h
  have hbk : at0 (monV n k) + -k = at0 n := by omega
  have hm : monB (at0 (monV n k) + -k) = true := by
    rw [hbk]
    exact (monB_iff _).2 (at0_bd h)
  obtain ⟨hd2, he2⟩ := mon_ok hb hm
  rw [hbk] at hd2
  have ey : at0 n / 12 + 1 = splY n := by
    obtain ⟨a, b, c, e, f, g, i⟩ := hn
    unfold at0
    omega
  have em : at0 n % 12 + 1 = splM n := by
    obtain ⟨a, b, c, e, f, g, i⟩ := hn
    unfold at0
    omega
  rw [ey, em] at hd2
  obtain ⟨g1, g2, g3⟩ := spl_of hd2
  refine ⟨hb, he2, ?_, g1.symm, g2.symm, ?_⟩
  · unfold splE
    rw [isB_of hd2]
    rfl
  · rw [← g3, ← e3]
    omega

theorem day_back {n : Int} (h : isB n = true) : dayV (splY n) (splM n) (splD n) = n ∧ dayE (splY n) (splM n) (splD n) = 0 := by
  have hd := spl_isDay h
  unfold dayV dayE
  rw [hd.vld, if_pos rfl, if_pos rfl]
  exact ⟨hd.num, rfl⟩

theorem len_of {n : Int} (h : isB n = true) : lenV (splY n) (splM n) = mlen (splY n) (splM n) ∧ lenE (splY n) (splM n) = 0 := by
  obtain ⟨a, b, c, e, _, _, _⟩ := spl_isDay h
  exact ⟨if_pos ⟨a, b, c, e⟩, if_pos ⟨a, b, c, e⟩⟩

/-- The day behind a day: its error, its year, month, day of the month. -/
theorem next_spl {n y m d : Int} (h : IsDay (n + 1) y m d) : splE (n + 1) = 0 ∧ splY (n + 1) = y ∧ splM (n + 1) = m ∧ splD (n + 1) = d := by
  obtain ⟨a, b, c⟩ := spl_of h
  refine ⟨?_, a.symm, b.symm, c.symm⟩
  unfold splE
  rw [isB_of h]
  rfl
end Cal
