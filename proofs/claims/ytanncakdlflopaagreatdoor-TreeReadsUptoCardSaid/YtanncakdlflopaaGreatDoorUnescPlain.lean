/- More on unes, plain: what holds a < means nothing; lengths. -/
import Derived.Test.YtanncakdlflopaaGreatDoorNumA
namespace Go.Proofs.YtanncakdlflopaaGreatDoor
set_option linter.unusedVariables false
set_option maxRecDepth 100000

theorem numL_has {b : Nat} {l v : List UInt8} (h : numL b l = some v) : l ≠ [] ∧ v.length ≤ 4 ∧ ∀ x ∈ l, digV x ≠ none := by
  refine ⟨fun e => ?_, ?_, fun x hx e => ?_⟩
  · subst e; simp [numL] at h
  · unfold numL at h
    by_cases h0 : l = []
    · rw [if_pos h0] at h; cases h
    rw [if_neg h0] at h
    cases hv : valL b 0 l with
    | none => rw [hv] at h; simp at h
    | some n =>
      rw [hv] at h
      simp only at h
      by_cases hc : charB n = true
      · rw [if_pos hc] at h
        obtain rfl := Option.some.inj h
        rcases encL_cases n (charB_lt hc) with ⟨_, e⟩ | ⟨_, _, e⟩ | ⟨_, _, e⟩ | ⟨_, e⟩ <;> rw [e] <;> simp
      · rw [if_neg hc] at h; cases h
  · rw [numL_not e hx] at h; cases h
theorem mean_has {r v : List UInt8} (h : meanL r = some v) : v.length ≤ r.length + 2 ∧ 60 ∉ r ∧ 38 ∉ r := by
  unfold meanL at h
  split at h
  · rename_i e; subst e; obtain rfl := Option.some.inj h; decide
  split at h
  · rename_i e; subst e; obtain rfl := Option.some.inj h; decide
  split at h
  · rename_i e; subst e; obtain rfl := Option.some.inj h; decide
  split at h
  · rename_i e; subst e; obtain rfl := Option.some.inj h; decide
  split at h
  · rename_i e; subst e; obtain rfl := Option.some.inj h; decide
  split at h
  · rename_i h35
    cases r with
    | nil => simp at h35
    | cons a r =>
      obtain rfl : a = 35 := by simpa using h35
      split at h
      · rename_i h120
        cases r with
        | nil => simp at h120
        | cons a r =>
          obtain rfl : a = 120 := by simpa using h120
          have h' : numL 16 r = some v := by simpa using h
          obtain ⟨h1, h2, h3⟩ := numL_has h'
          refine ⟨by simp; omega, fun hm => ?_, fun hm => ?_⟩
          · simp at hm; exact h3 60 hm (by decide)
          · simp at hm; exact h3 38 hm (by decide)
      · have h' : numL 10 r = some v := by simpa using h
        obtain ⟨h1, h2, h3⟩ := numL_has h'
        have : 1 ≤ r.length := List.length_pos_iff.2 h1
        refine ⟨by simp; omega, fun hm => ?_, fun hm => ?_⟩
        · simp at hm; exact h3 60 hm (by decide)
        · simp at hm; exact h3 38 hm (by decide)
  · cases h
theorem unes_mem : ∀ (k : Nat) (l : List UInt8), l.length ≤ k → 60 ∈ l → unes l = none
  | 0, l, hk, h => by
    have : l = [] := List.eq_nil_of_length_eq_zero (by omega)
    subst this; simp at h
  | k + 1, [], _, h => by simp at h
  | k + 1, c :: r, hk, h => by
    have hr : r.length ≤ k := by simpa using hk
    by_cases h60 : c = 60
    · subst h60; exact unes_lt r
    have hm : 60 ∈ r := by
      rcases List.mem_cons.1 h with e | h
      · exact absurd e.symm h60
      · exact h
    by_cases h38 : c = 38
    · subst h38
      cases hc : cutL 59 r with
      | none => exact unes_open hc
      | some p =>
        obtain ⟨m, t⟩ := p
        rw [unes_amp hc]
        cases hv : meanL m with
        | none => rfl
        | some v =>
          obtain ⟨e, _⟩ := cutL_some hc
          have ht : 60 ∈ t := by
            rw [e] at hm
            rcases List.mem_append.1 hm with h | h
            · exact absurd h (mean_has hv).2.1
            · rcases List.mem_cons.1 h with h | h
              · exact absurd h (by decide)
              · exact h
          have := cutL_len hc
          simp only
          rw [unes_mem k t (by omega) ht]; rfl
    · rw [unes_other h60 h38, unes_mem k r hr hm]; rfl
/-- Does a text hold a byte? -/
theorem has_cut (c : UInt8) (l : List UInt8) : decide (0 ≤ Lib.indexByte l c) = (cutL c l).isSome := by
  rw [idx_cut]
  cases cutL c l with
  | none => rfl
  | some p => exact decide_eq_true (by simp only; omega)
theorem has_some {c : UInt8} {l : List UInt8} (h : (cutL c l).isSome = true) : c ∈ l := by
  obtain ⟨p, hp⟩ := Option.isSome_iff_exists.1 h
  obtain ⟨e, _⟩ := cutL_some (m := p.1) (t := p.2) hp
  rw [e]; simp
theorem plainL_len (at_ : Bool) (l : List UInt8) : (plainL at_ l).length ≤ l.length := by
  have := nlL_len l
  unfold plainL
  cases at_ <;> simp <;> omega
/-- A round of Unescape. -/
theorem unes_last {S : List UInt8} (h60 : 60 ∉ S) (h : cutL 38 S = none) : unes S = some S := by
  have := unes_app h60 (cutL_none h) []
  rw [List.append_nil, unes_nil] at this
  simpa using this
theorem unes_cut {S m r : List UInt8} (h60 : 60 ∉ S) (h : cutL 38 S = some (m, r)) : unes S = (unes (38 :: r)).map (m ++ ·) := by
  obtain ⟨e, h38⟩ := cutL_some h
  have hm : 60 ∉ m := fun hm => h60 (by rw [e]; simp [hm])
  rw [e, unes_app hm h38]
theorem unes_more {S m r x t v : List UInt8} (h60 : 60 ∉ S) (h : cutL 38 S = some (m, r)) (h2 : cutL 59 r = some (x, t)) (hv : meanL x = some v) : unes S = (unes t).map (m ++ v ++ ·) ∧ 60 ∉ t ∧ m.length + v.length + t.length ≤ S.length ∧ t.length < S.length := by
  obtain ⟨e, h38⟩ := cutL_some h
  obtain ⟨e2, h59⟩ := cutL_some h2
  refine ⟨?_, fun ht => h60 (by rw [e, e2]; simp [ht]), ?_⟩
  · rw [unes_cut h60 h, unes_amp h2, hv]
    simp only
    rw [Option.map_map]
    congr 1
    funext z
    simp
  · have := (mean_has hv).1
    rw [e, e2]
    simp
    omega
theorem unes_bad1 {S m r : List UInt8} (h60 : 60 ∉ S) (h : cutL 38 S = some (m, r)) (h2 : cutL 59 r = none) : unes S = none := by
  rw [unes_cut h60 h, unes_open h2]; rfl
theorem unes_bad2 {S m r x t : List UInt8} (h60 : 60 ∉ S) (h : cutL 38 S = some (m, r)) (h2 : cutL 59 r = some (x, t)) (hv : meanL x = none) : unes S = none := by
  rw [unes_cut h60 h, unes_amp h2, hv]; rfl
end Go.Proofs.YtanncakdlflopaaGreatDoor
