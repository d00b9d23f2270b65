/- The plain arithmetic of the calendar: leap years, the months' lengths, days ahead of a year and of a month, and that a day's number has one year, month and day. -/

namespace Cal

def leapB (y : Int) : Bool := y.tmod 4 == 0 && (y.tmod 100 != 0 || y.tmod 400 == 0)

theorem leapB_iff (y : Int) (h : 0 ≤ y) : leapB y = true ↔ y % 4 = 0 ∧ (y % 100 ≠ 0 ∨ y % 400 = 0) := by
  unfold leapB
  rw [Int.tmod_eq_emod_of_nonneg h, Int.tmod_eq_emod_of_nonneg h, Int.tmod_eq_emod_of_nonneg h]
  simp

def ylen (y : Int) : Int := if leapB y = true then 366 else 365
def mlen (y m : Int) : Int := if m = 2 then (if leapB y = true then 29 else 28) else if m = 4 ∨ m = 6 ∨ m = 9 ∨ m = 11 then 30 else 31
def ahead (y : Int) : Int := 365 * (y - 1) + (y - 1) / 4 - (y - 1) / 100 + (y - 1) / 400

theorem ahead_one : ahead 1 = 0 := by decide
theorem ahead_last : ahead 10000 = 3652059 := by decide

theorem ahead_succ (y : Int) (h : 1 ≤ y) : ahead (y + 1) = ahead y + ylen y := by
  unfold ahead ylen
  by_cases hl : leapB y = true
  · rw [if_pos hl]
    have := (leapB_iff y (by omega)).1 hl
    omega
  · rw [if_neg hl]
    have : ¬ (y % 4 = 0 ∧ (y % 100 ≠ 0 ∨ y % 400 = 0)) := fun h' => hl ((leapB_iff y (by omega)).2 h')
    omega

theorem ylen_bd (y : Int) : 365 ≤ ylen y ∧ ylen y ≤ 366 := by unfold ylen; split <;> omega
theorem mlen_bd (y m : Int) : 28 ≤ mlen y m ∧ mlen y m ≤ 31 := by unfold mlen; split <;> split <;> omega

theorem ahead_mono (a b : Int) (_h0 : 1 ≤ a) (h : a ≤ b) : ahead a ≤ ahead b := by unfold ahead; omega
theorem ahead_bd (y : Int) (h : 1 ≤ y) (h' : y ≤ 10001) : 0 ≤ ahead y ∧ ahead y ≤ 3652425 := by unfold ahead; omega

/-- The days of a year's first k months. -/
def cum (y : Int) : Nat → Int
  | 0 => 0
  | k + 1 => cum y k + mlen y (k + 1)

theorem cum_succ (y : Int) (k : Nat) : cum y (k + 1) = cum y k + mlen y ((k : Int) + 1) := rfl

theorem cum_bd (y : Int) (k : Nat) : 28 * (k : Int) ≤ cum y k ∧ cum y k ≤ 31 * (k : Int) := by
  induction k with
  | zero => simp [cum]
  | succ k ih =>
    have := mlen_bd y ((k : Int) + 1)
    rw [cum_succ]
    omega

theorem cum_12 (y : Int) : cum y 12 = ylen y := by
  by_cases h : leapB y = true <;> simp [cum, mlen, ylen, h]

theorem cum_le (y : Int) (a b : Nat) (h : a ≤ b) : cum y a ≤ cum y b := by
  induction b with
  | zero => have : a = 0 := by omega
            rw [this]; exact Int.le_refl _
  | succ b ih =>
    by_cases e : a = b + 1
    · rw [e]; exact Int.le_refl _
    · have := mlen_bd y ((b : Int) + 1)
      have := ih (by omega)
      rw [cum_succ]
      omega

/-- The number of a day. -/
def num (y m d : Int) : Int := ahead y + cum y (m - 1).toNat + d

def vldB (y m d : Int) : Bool := decide (1 ≤ y ∧ y ≤ 9999 ∧ 1 ≤ m ∧ m ≤ 12 ∧ 1 ≤ d ∧ d ≤ mlen y m)
theorem vldB_iff (y m d : Int) : vldB y m d = true ↔ 1 ≤ y ∧ y ≤ 9999 ∧ 1 ≤ m ∧ m ≤ 12 ∧ 1 ≤ d ∧ d ≤ mlen y m := by
  unfold vldB; simp
theorem vldB_not (y m d : Int) : vldB y m d = false ↔ ¬ (1 ≤ y ∧ y ≤ 9999 ∧ 1 ≤ m ∧ m ≤ 12 ∧ 1 ≤ d ∧ d ≤ mlen y m) := by
  unfold vldB; simp

/-- The day n is the day y, m, d. -/
def IsDay (n y m d : Int) : Prop := 1 ≤ y ∧ y ≤ 9999 ∧ 1 ≤ m ∧ m ≤ 12 ∧ 1 ≤ d ∧ d ≤ mlen y m ∧ num y m d = n

theorem IsDay.vld {n y m d : Int} (h : IsDay n y m d) : vldB y m d = true := (vldB_iff y m d).2 ⟨h.1, h.2.1, h.2.2.1, h.2.2.2.1, h.2.2.2.2.1, h.2.2.2.2.2.1⟩
theorem IsDay.num {n y m d : Int} (h : IsDay n y m d) : num y m d = n := h.2.2.2.2.2.2
theorem isDay_of_vld {y m d : Int} (h : vldB y m d = true) : IsDay (num y m d) y m d := by
  obtain ⟨a, b, c, e, f, g⟩ := (vldB_iff y m d).1 h
  exact ⟨a, b, c, e, f, g, rfl⟩

/-- A day's number lies within its year. -/
theorem IsDay.year {n y m d : Int} (h : IsDay n y m d) : ahead y < n ∧ n ≤ ahead (y + 1) := by
  obtain ⟨a, b, c, e, f, g, i⟩ := h
  have h1 := cum_bd y (m - 1).toNat
  have h2 := cum_succ y (m - 1).toNat
  have h3 := cum_le y ((m - 1).toNat + 1) 12 (by omega)
  rw [cum_12] at h3
  have h4 := ahead_succ y a
  have hm : (((m - 1).toNat : Nat) : Int) + 1 = m := by omega
  rw [hm] at h2
  unfold Cal.num at i
  omega

theorem IsDay.range {n y m d : Int} (h : IsDay n y m d) : 1 ≤ n ∧ n ≤ 3652059 := by
  have h1 := h.year
  have h2 := ahead_bd y h.1 (by have := h.2.1; omega)
  have h3 := ahead_mono (y + 1) 10000 (by have := h.1; omega) (by have := h.2.1; omega)
  rw [ahead_last] at h3
  omega

theorem year_one {n y z : Int} (hy : 1 ≤ y) (hz : 1 ≤ z) (a : ahead y < n ∧ n ≤ ahead (y + 1)) (b : ahead z < n ∧ n ≤ ahead (z + 1)) : y = z := by
  by_cases h : y < z
  · have := ahead_mono (y + 1) z (by omega) (by omega)
    omega
  · by_cases h' : z < y
    · have := ahead_mono (z + 1) y (by omega) (by omega)
      omega
    · omega

theorem IsDay.unique {n y m d y' m' d' : Int} (h : IsDay n y m d) (k : IsDay n y' m' d') : y = y' ∧ m = m' ∧ d = d' := by
  have hy := year_one h.1 k.1 h.year k.year
  subst hy
  obtain ⟨_, _, c, e, f, g, i⟩ := h
  obtain ⟨_, _, c', e', f', g', i'⟩ := k
  unfold Cal.num at i i'
  have hm : m = m' := by
    by_cases h : m < m'
    · have h1 := cum_le y ((m - 1).toNat + 1) (m' - 1).toNat (by omega)
      have h2 := cum_succ y (m - 1).toNat
      have hm : (((m - 1).toNat : Nat) : Int) + 1 = m := by omega
      rw [hm] at h2
      omega
    · by_cases h' : m' < m
      · have h1 := cum_le y ((m' - 1).toNat + 1) (m - 1).toNat (by omega)
        have h2 := cum_succ y (m' - 1).toNat
        have hm : (((m' - 1).toNat : Nat) : Int) + 1 = m' := by omega
        rw [hm] at h2
        omega
      · omega
  subst hm
  exact ⟨rfl, rfl, by omega⟩

/-- The first guess of a day's year is at most one too great. -/
theorem guess {n y : Int} (_hy : 1 ≤ y) (_h1 : 1 ≤ n) (h : n ≤ ahead (y + 1)) : (n - 1) * 400 / 146097 + 1 ≤ y + 1 := by
  unfold ahead at h
  omega

theorem guess_lo {n : Int} (h1 : 1 ≤ n) : 1 ≤ (n - 1) * 400 / 146097 + 1 := by omega
theorem guess_hi {n : Int} (h1 : n ≤ 3652059) : (n - 1) * 400 / 146097 + 1 ≤ 9999 := by omega

/-- Each day of the calendar has a year. -/
theorem year_ex (n : Int) (h : 1 ≤ n) (h' : n ≤ 3652059) : ∃ y, 1 ≤ y ∧ y ≤ 9999 ∧ ahead y < n ∧ n ≤ ahead (y + 1) := by
  have key : ∀ k : Nat, (k : Int) ≤ 9999 → n ≤ ahead (k + 1) → ∃ y : Int, 1 ≤ y ∧ y ≤ k ∧ ahead y < n ∧ n ≤ ahead (y + 1) := by
    intro k
    induction k with
    | zero => intro _ h2; have : ahead ((0 : Nat) + 1) = 0 := by decide
              omega
    | succ k ih =>
      intro h1 h2
      by_cases hk : n ≤ ahead (k + 1)
      · obtain ⟨y, a, b, c, d⟩ := ih (by omega) hk
        exact ⟨y, a, by omega, c, d⟩
      · refine ⟨(k + 1 : Nat), by omega, by omega, ?_, h2⟩
        have : (((k + 1 : Nat)) : Int) = (k : Int) + 1 := by omega
        rw [this]; omega
  obtain ⟨y, a, b, c, d⟩ := key 9999 (by omega) (by have := ahead_last; show n ≤ ahead 10000; omega)
  exact ⟨y, a, by omega, c, d⟩

theorem isDay_ex (n : Int) (h : 1 ≤ n) (h' : n ≤ 3652059) : ∃ y m d, IsDay n y m d := by
  obtain ⟨y, a, b, c, e⟩ := year_ex n h h'
  rw [ahead_succ y a] at e
  have key : ∀ k : Nat, (k : Int) ≤ 12 → n - ahead y ≤ cum y k → ∃ m d : Int, IsDay n y m d := by
    intro k
    induction k with
    | zero => intro _ h2; simp [cum] at h2; omega
    | succ k ih =>
      intro h1 h2
      by_cases hk : n - ahead y ≤ cum y k
      · exact ih (by omega) hk
      · rw [cum_succ] at h2
        refine ⟨(k : Int) + 1, n - ahead y - cum y k, a, b, by omega, by omega, by omega, by omega, ?_⟩
        unfold num
        have : ((k : Int) + 1 - 1).toNat = k := by omega
        rw [this]; omega
  obtain ⟨m, d, hh⟩ := key 12 (by omega) (by rw [cum_12]; omega)
  exact ⟨y, m, d, hh⟩

/-! What the functions answer, spelled as functions. -/
def lenV (y m : Int) : Int := if 1 ≤ y ∧ y ≤ 9999 ∧ 1 ≤ m ∧ m ≤ 12 then mlen y m else 0
def lenE (y m : Int) : Int := if 1 ≤ y ∧ y ≤ 9999 ∧ 1 ≤ m ∧ m ≤ 12 then 0 else 1
def dayV (y m d : Int) : Int := if vldB y m d = true then num y m d else 0
def dayE (y m d : Int) : Int := if vldB y m d = true then 0 else 1
def isB (n : Int) : Bool := decide (1 ≤ n ∧ n ≤ 3652059)
theorem isB_iff (n : Int) : isB n = true ↔ 1 ≤ n ∧ n ≤ 3652059 := by unfold isB; simp
theorem isB_not (n : Int) : isB n = false ↔ ¬ (1 ≤ n ∧ n ≤ 3652059) := by unfold isB; simp

open Classical in
noncomputable def spl (n : Int) : Int × Int × Int := if h : ∃ p : Int × Int × Int, IsDay n p.1 p.2.1 p.2.2 then Classical.choose h else (0, 0, 0)
noncomputable def splY (n : Int) : Int := (spl n).1
noncomputable def splM (n : Int) : Int := (spl n).2.1
noncomputable def splD (n : Int) : Int := (spl n).2.2
def splE (n : Int) : Int := if isB n = true then 0 else 1

theorem spl_of {n y m d : Int} (h : IsDay n y m d) : y = splY n ∧ m = splM n ∧ d = splD n := by
  have hex : ∃ p : Int × Int × Int, IsDay n p.1 p.2.1 p.2.2 := ⟨(y, m, d), h⟩
  have := Classical.choose_spec hex
  have e : spl n = Classical.choose hex := by unfold spl; rw [dif_pos hex]
  unfold splY splM splD
  rw [e]
  exact h.unique this

theorem spl_isDay {n : Int} (h : isB n = true) : IsDay n (splY n) (splM n) (splD n) := by
  obtain ⟨a, b⟩ := (isB_iff n).1 h
  obtain ⟨y, m, d, hd⟩ := isDay_ex n a b
  obtain ⟨e1, e2, e3⟩ := spl_of hd
  rw [← e1, ← e2, ← e3]
  exact hd

theorem spl_not {n : Int} (h : isB n = false) : splY n = 0 ∧ splM n = 0 ∧ splD n = 0 := by
  have hno : ¬ ∃ p : Int × Int × Int, IsDay n p.1 p.2.1 p.2.2 := by
    rintro ⟨p, hp⟩
    exact (isB_not n).1 h hp.range
  have e : spl n = (0, 0, 0) := by unfold spl; rw [dif_neg hno]
  unfold splY splM splD
  rw [e]
  exact ⟨rfl, rfl, rfl⟩

def wdayV (n : Int) : Int := if isB n = true then (n - 1) % 7 + 1 else 0
def addV (n k : Int) : Int := if isB n = true then (if isB (n + k) = true then n + k else 0) else 0
def addE (n k : Int) : Int := if isB n = true then (if isB (n + k) = true then 0 else 17) else 1
/-- The months since the calendar's beginning. -/
noncomputable def at0 (n : Int) : Int := 12 * (splY n - 1) + splM n - 1
def monB (a : Int) : Bool := decide (0 ≤ a ∧ a ≤ 119987)
theorem monB_iff (a : Int) : monB a = true ↔ 0 ≤ a ∧ a ≤ 119987 := by unfold monB; simp
theorem monB_not (a : Int) : monB a = false ↔ ¬ (0 ≤ a ∧ a ≤ 119987) := by unfold monB; simp
noncomputable def monV (n k : Int) : Int := if isB n = true then (if monB (at0 n + k) = true then num ((at0 n + k) / 12 + 1) ((at0 n + k) % 12 + 1) (min (splD n) (mlen ((at0 n + k) / 12 + 1) ((at0 n + k) % 12 + 1))) else 0) else 0
noncomputable def monE (n k : Int) : Int := if isB n = true then (if monB (at0 n + k) = true then 0 else 17) else 1
end Cal
