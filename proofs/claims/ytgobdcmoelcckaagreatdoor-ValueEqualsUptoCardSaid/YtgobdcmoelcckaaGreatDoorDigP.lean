/- Lists of digits, the least first: what they come to; in plain Lean. -/
import Derived.Test.YtgobdcmoelcckaaGreatDoorValDec
import Derived.Test.YtgobdcmoelcckaaGreatDoorWideA
namespace Go.Proofs.YtgobdcmoelcckaaGreatDoor
open Go.RowKit
set_option linter.unusedVariables false
set_option maxRecDepth 100000

def dgC (x : Nat) : List Value := [.int .i64 x]
theorem dgC_len (x : Nat) : (dgC x).length = 1 := rfl
def zC (x : Int) : List Value := [.int .i64 x]
theorem zC_len (x : Int) : (zC x).length = 1 := rfl
theorem dvl_dig (n : Nat) : dvl (dig n) = n := by
  induction n using Nat.strongRecOn with
  | ind n ih =>
    by_cases h : n = 0
    · subst h; rw [dig_zero]; rfl
    · rw [dig_pos h]
      simp only [dvl]
      rw [ih (n / 10) (by omega)]
      omega
theorem dig_prefix : ∀ (l : List Nat), (∀ x ∈ l, x ≤ 9) → ∃ k, l = dig (dvl l) ++ List.replicate k 0
  | [], _ => ⟨0, by simp [dvl, dig_zero]⟩
  | d :: r, h => by
    obtain ⟨k, hk⟩ := dig_prefix r (fun x hx => h x (List.mem_cons_of_mem _ hx))
    have hd := h d List.mem_cons_self
    simp only [dvl]
    by_cases h0 : d + 10 * dvl r = 0
    · have hd0 : d = 0 := by omega
      have hr : dvl r = 0 := by omega
      rw [hr, dig_zero, List.nil_append] at hk
      refine ⟨k + 1, ?_⟩
      rw [h0, dig_zero, hk, hd0]
      rfl
    · rw [dig_pos h0, show (d + 10 * dvl r) % 10 = d by omega, show (d + 10 * dvl r) / 10 = dvl r by omega]
      exact ⟨k, by rw [List.cons_append, ← hk]⟩
theorem dig_last (n : Nat) (hn : n ≠ 0) : ∃ d, (dig n)[(dig n).length - 1]? = some d ∧ d ≠ 0 := by
  induction n using Nat.strongRecOn with
  | ind n ih =>
    rw [dig_pos hn]
    by_cases h : n / 10 = 0
    · rw [h, dig_zero]
      exact ⟨n % 10, by simp, by omega⟩
    · obtain ⟨d, h1, h2⟩ := ih (n / 10) (by omega) h
      have hpos : 0 < (dig (n / 10)).length := by rw [dig_pos h]; simp
      refine ⟨d, ?_, h2⟩
      rw [List.length_cons, Nat.add_sub_cancel]
      obtain ⟨m, hm⟩ : ∃ m, (dig (n / 10)).length = m + 1 := ⟨_, (Nat.succ_pred_eq_of_pos hpos).symm⟩
      rw [hm] at h1 ⊢
      rw [List.getElem?_cons_succ]
      simpa using h1
theorem dig_len_pos {n : Nat} (hn : n ≠ 0) : 0 < (dig n).length := by rw [dig_pos hn]; simp
/-- What Cut leaves of a list. -/
theorem cut_take {l : List Nat} (h : ∀ x ∈ l, x ≤ 9) : (dig (dvl l)).length ≤ l.length ∧ l.take (dig (dvl l)).length = dig (dvl l) := by
  obtain ⟨k, hk⟩ := dig_prefix l h
  have hl := congrArg List.length hk
  rw [List.length_append, List.length_replicate] at hl
  refine ⟨by omega, ?_⟩
  have := congrArg (List.take (dig (dvl l)).length) hk
  rw [this, List.take_left' rfl]
theorem cut_zero {l : List Nat} (h : ∀ x ∈ l, x ≤ 9) {n : Nat} (h1 : (dig (dvl l)).length < n) (h2 : n ≤ l.length) : l[n - 1]? = some 0 := by
  obtain ⟨k, hk⟩ := dig_prefix l h
  have hl := congrArg List.length hk
  rw [List.length_append, List.length_replicate] at hl
  rw [hk, List.getElem?_append_right (by omega), List.getElem?_replicate, if_pos (by omega)]
theorem cut_stop {l : List Nat} (h : ∀ x ∈ l, x ≤ 9) (h1 : 0 < (dig (dvl l)).length) : ∃ d, l[(dig (dvl l)).length - 1]? = some d ∧ d ≠ 0 := by
  have h0 : dvl l ≠ 0 := fun e => by rw [e, dig_zero] at h1; simp at h1
  obtain ⟨d, hd, hne⟩ := dig_last _ h0
  obtain ⟨k, hk⟩ := dig_prefix l h
  refine ⟨d, ?_, hne⟩
  have e : l[(dig (dvl l)).length - 1]? = (dig (dvl l) ++ List.replicate k 0)[(dig (dvl l)).length - 1]? := by rw [← hk]
  rw [e, List.getElem?_append_left (by omega), hd]
theorem dig_shift {n : Nat} (hn : n ≠ 0) : ∀ k, dig (n * 10 ^ k) = List.replicate k 0 ++ dig n
  | 0 => by simp
  | k + 1 => by
    have hp : n * 10 ^ k ≠ 0 := Nat.mul_ne_zero hn (by have := Nat.pow_pos (n := k) (show 0 < 10 by decide); omega)
    have e : n * 10 ^ (k + 1) = 10 * (n * 10 ^ k) := by rw [Nat.pow_succ, ← Nat.mul_assoc, Nat.mul_comm]
    rw [e, dig_pos (by omega), show 10 * (n * 10 ^ k) % 10 = 0 by omega, show 10 * (n * 10 ^ k) / 10 = n * 10 ^ k by omega, dig_shift hn k]
    rfl
theorem dvl_lt : ∀ (l : List Nat), (∀ x ∈ l, x ≤ 9) → dvl l < 10 ^ l.length
  | [], _ => by simp [dvl]
  | d :: r, h => by
    have h1 := dvl_lt r (fun x hx => h x (List.mem_cons_of_mem _ hx))
    have hd := h d List.mem_cons_self
    simp only [dvl, List.length_cons, Nat.pow_succ]
    omega
theorem dvl_drop {l : List Nat} {i d : Nat} (h : l[i]? = some d) : dvl (l.drop i) = d + 10 * dvl (l.drop (i + 1)) := by
  obtain ⟨hi, e⟩ := List.getElem?_eq_some_iff.1 h
  rw [List.drop_eq_getElem_cons hi, e]
  rfl
theorem dvl_none {l : List Nat} {i : Nat} (h : l.length ≤ i) : dvl (l.drop i) = 0 := by
  rw [List.drop_eq_nil_of_le h]; rfl
theorem dvl_snoc (l : List Nat) (d : Nat) : dvl (l ++ [d]) = dvl l + 10 ^ l.length * d := by
  rw [dvl_append]; simp [dvl]
theorem dgC_cell {l : List Nat} {i x : Nat} (h : l[i]? = some x) : (l.flatMap dgC)[i]? = some (.int .i64 (x : Nat)) := by
  have h1 : l.flatMap dgC = l.map (fun x => Value.int .i64 (x : Nat)) := by
    clear h
    induction l with
    | nil => rfl
    | cons a r ih => rw [List.flatMap_cons, ih]; rfl
  rw [h1, List.getElem?_map, h]; rfl
theorem dgC_one (l : List Nat) : ∀ u ∈ l.flatMap dgC, u.oneCell' = true := by
  intro u hu
  obtain ⟨x, -, h⟩ := List.mem_flatMap.1 hu
  simp only [dgC, List.mem_singleton] at h
  subst h; rfl
theorem rep_dgC (k : Nat) : List.replicate k (Value.int .i64 0) = (List.replicate k 0).flatMap dgC := by
  induction k with
  | zero => rfl
  | succ k ih => rw [List.replicate_succ, List.replicate_succ, List.flatMap_cons, ← ih]; rfl
end Go.Proofs.YtgobdcmoelcckaaGreatDoor
