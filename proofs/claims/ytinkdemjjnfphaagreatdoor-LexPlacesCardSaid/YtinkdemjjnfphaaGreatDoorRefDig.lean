/- Lists of decimal digits, the least first: cut, halved; in plain Lean. -/
import Derived.Test.YtinkdemjjnfphaaGreatDoorSepA
namespace Go.Proofs.YtinkdemjjnfphaaGreatDoor
set_option linter.unusedVariables false
/-- Without noughts at the top. -/
def cutL : List Nat → List Nat
  | [] => []
  | x :: xs => if cutL xs = [] then (if x = 0 then [] else [x]) else x :: cutL xs
theorem cutL_zero : ∀ (l : List Nat), cutL (l ++ [0]) = cutL l
  | [] => rfl
  | x :: xs => by
    rw [List.cons_append]
    unfold cutL
    rw [cutL_zero xs]
theorem cutL_top {x : Nat} (hx : x ≠ 0) : ∀ (l : List Nat), cutL (l ++ [x]) = l ++ [x]
  | [] => by
    show cutL [x] = [x]
    unfold cutL
    rw [if_pos (show cutL [] = [] from rfl), if_neg hx]
  | y :: ys => by
    rw [List.cons_append]
    unfold cutL
    rw [cutL_top hx ys, if_neg (by simp)]
theorem cutL_le : ∀ (l : List Nat), (cutL l).length ≤ l.length
  | [] => Nat.le_refl _
  | x :: xs => by
    have := cutL_le xs
    unfold cutL
    split
    · split <;> simp
    · simp; omega
theorem cutL_take : ∀ (l : List Nat), cutL l = l.take (cutL l).length
  | [] => rfl
  | x :: xs => by
    have h := cutL_take xs
    unfold cutL
    split
    · split
      · rfl
      · rfl
    · rw [List.length_cons, List.take_succ_cons, ← h]
/-- The digits of a number. -/
def dgt (n : Nat) : List Nat := if h : n = 0 then [] else n % 10 :: dgt (n / 10)
termination_by n
decreasing_by omega
theorem dgt_zero : dgt 0 = [] := by unfold dgt; rfl
theorem dgt_pos {n : Nat} (h : n ≠ 0) : dgt n = n % 10 :: dgt (n / 10) := by rw [dgt]; rw [dif_neg h]
theorem dgt_nil {n : Nat} (h : dgt n = []) : n = 0 := by
  by_cases h0 : n = 0
  · exact h0
  · rw [dgt_pos h0] at h; cases h
theorem dgt_nine (v : Nat) : ∀ x ∈ dgt v, x ≤ 9 := by
  induction v using Nat.strongRecOn with
  | ind v ih =>
    by_cases hv : v = 0
    · subst hv; rw [dgt_zero]; intro x hx; cases hx
    · rw [dgt_pos hv]
      intro x hx
      rcases List.mem_cons.1 hx with rfl | hx
      · omega
      · exact ih (v / 10) (by omega) x hx
theorem dgt_len (k : Nat) : ∀ v, v < 10 ^ k → (dgt v).length ≤ k := by
  induction k with
  | zero => intro v hv; rw [show v = 0 by omega, dgt_zero]; simp
  | succ k ih =>
    intro v hv
    by_cases h0 : v = 0
    · rw [h0, dgt_zero]; simp
    · rw [dgt_pos h0, List.length_cons]
      have := ih (v / 10) (by rw [Nat.pow_succ] at hv; omega)
      omega
/-- The number of a list of digits. -/
def valD : List Nat → Nat
  | [] => 0
  | x :: xs => x + 10 * valD xs
theorem cut_dgt : ∀ (l : List Nat), (∀ x ∈ l, x ≤ 9) → cutL l = dgt (valD l)
  | [], _ => by unfold cutL valD; exact dgt_zero.symm
  | x :: xs, h => by
    have ih := cut_dgt xs (fun y hy => h y (List.mem_cons_of_mem _ hy))
    have hx := h x (List.mem_cons_self ..)
    unfold cutL valD
    rw [ih]
    by_cases h0 : valD xs = 0
    · rw [h0, dgt_zero, if_pos rfl]
      by_cases hx0 : x = 0
      · rw [if_pos hx0, hx0]; exact dgt_zero.symm
      · rw [if_neg hx0, dgt_pos (by omega), show (x + 10 * 0) / 10 = 0 by omega, dgt_zero, show (x + 10 * 0) % 10 = x by omega]
    · rw [if_neg (fun e => h0 (dgt_nil e)), dgt_pos (n := x + 10 * valD xs) (by omega), show (x + 10 * valD xs) / 10 = valD xs by omega, show (x + 10 * valD xs) % 10 = x by omega]
theorem valD_dgt (n : Nat) : valD (dgt n) = n := by
  induction n using Nat.strongRecOn with
  | ind n ih =>
    by_cases h : n = 0
    · subst h; rw [dgt_zero]; rfl
    · rw [dgt_pos h]
      unfold valD
      rw [ih (n / 10) (by omega)]
      omega
/-- Halved, from the top: the digits, what is left. -/
def hfL : List Nat → List Nat × Nat
  | [] => ([], 0)
  | x :: xs => ((10 * (hfL xs).2 + x) / 2 :: (hfL xs).1, (10 * (hfL xs).2 + x) % 2)
theorem hfL_len : ∀ (l : List Nat), (hfL l).1.length = l.length
  | [] => rfl
  | x :: xs => by unfold hfL; simp [hfL_len xs]
theorem hfL_val : ∀ (l : List Nat), (∀ x ∈ l, x ≤ 9) → valD (hfL l).1 = valD l / 2 ∧ (hfL l).2 = valD l % 2 ∧ ∀ x ∈ (hfL l).1, x ≤ 9
  | [], _ => by refine ⟨rfl, rfl, ?_⟩; intro x hx; cases hx
  | x :: xs, h => by
    obtain ⟨h1, h2, h3⟩ := hfL_val xs (fun y hy => h y (List.mem_cons_of_mem _ hy))
    have hx := h x (List.mem_cons_self ..)
    unfold hfL valD
    refine ⟨?_, ?_, ?_⟩
    · show _ + 10 * valD (hfL xs).1 = _
      rw [h1, h2]; omega
    · rw [h2]; omega
    · intro y hy
      rcases List.mem_cons.1 hy with rfl | hy
      · rw [h2]; omega
      · exact h3 y hy
theorem half_dgt (n : Nat) : cutL (hfL (dgt n)).1 = dgt (n / 2) ∧ (hfL (dgt n)).2 = n % 2 := by
  obtain ⟨h1, h2, h3⟩ := hfL_val (dgt n) (dgt_nine n)
  rw [valD_dgt] at h1 h2
  exact ⟨by rw [cut_dgt _ h3, h1], h2⟩
end Go.Proofs.YtinkdemjjnfphaaGreatDoor
