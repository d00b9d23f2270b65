/- Decimals by their size: order, and that a number has one form; in plain Lean. -/
import Derived.Test.YtgobdcmoelcckaaGreatDoorValPlain
namespace Go.Proofs.YtgobdcmoelcckaaGreatDoor
open Go.RowKit
set_option linter.unusedVariables false
set_option maxRecDepth 100000

def cmpZ (x y : Int) : Int := if x < y then -1 else if x = y then 0 else 1
/-- The size in units of 10^-18; the number. -/
def DcD.size (d : DcD) : Nat := d.n * 10 ^ (18 - d.sc.toNat)
def DcD.val (d : DcD) : Int := if d.neg then -(d.size : Int) else d.size
def DcD.ok (d : DcD) : Bool := dcmB d.neg d.n d.sc
theorem DcD.ok_parts {d : DcD} (h : d.ok = true) : d.n < 10 ^ 34 ∧ 0 ≤ d.sc ∧ d.sc ≤ 18 ∧ (d.n = 0 → d.neg = false ∧ d.sc = 0) ∧ (d.n ≠ 0 → d.sc = 0 ∨ d.n % 10 ≠ 0) := by
  unfold DcD.ok dcmB at h
  have := of_decide_eq_true h
  obtain ⟨h1, h2, h3, h4⟩ := this
  refine ⟨h1, h2, h3, fun e => ?_, fun e => ?_⟩
  · rw [if_pos e] at h4; exact h4
  · rw [if_neg e] at h4; exact h4
theorem ten_pos (k : Nat) : 0 < 10 ^ k := Nat.pow_pos (by decide)
theorem DcD.size_pos {d : DcD} (h : d.n ≠ 0) : 0 < d.size := Nat.mul_pos (Nat.pos_of_ne_zero h) (ten_pos _)
theorem DcD.size_zero {d : DcD} (h : d.size = 0) : d.n = 0 := by
  rcases Nat.eq_zero_or_pos d.n with h1 | h1
  · exact h1
  · have := DcD.size_pos (d := d) (by omega); omega
theorem DcD.neg_size {d : DcD} (h : d.ok = true) (hn : d.neg = true) : 0 < d.size := by
  have := (DcD.ok_parts h).2.2.2.1
  refine DcD.size_pos fun e => ?_
  have := (this e).1
  rw [hn] at this
  cases this
theorem DcD.val_one {a b : DcD} (ha : a.ok = true) (hb : b.ok = true) (h : a.val = b.val) : a.neg = b.neg ∧ a.n = b.n ∧ a.sc = b.sc := by
  have hneg : a.neg = b.neg := by
    unfold DcD.val at h
    cases h1 : a.neg <;> cases h2 : b.neg
    · rfl
    · have := DcD.neg_size hb h2; simp [h1, h2] at h; omega
    · have := DcD.neg_size ha h1; simp [h1, h2] at h; omega
    · rfl
  have hs : a.size = b.size := by
    unfold DcD.val at h
    rw [hneg] at h
    cases h2 : b.neg <;> simp [h2] at h <;> omega
  obtain ⟨-, a1, a2, a3, a4⟩ := DcD.ok_parts ha
  obtain ⟨-, b1, b2, b3, b4⟩ := DcD.ok_parts hb
  by_cases h0 : a.n = 0
  · have : b.n = 0 := DcD.size_zero (by rw [← hs]; unfold DcD.size; rw [h0, Nat.zero_mul])
    exact ⟨hneg, by omega, by rw [(a3 h0).2, (b3 this).2]⟩
  have h0' : b.n ≠ 0 := fun e => h0 (DcD.size_zero (by rw [hs]; unfold DcD.size; rw [e, Nat.zero_mul]))
  have key : ∀ (x y s t : Nat), s ≤ t → t ≤ 18 → x * 10 ^ (18 - s) = y * 10 ^ (18 - t) → (t = 0 ∨ y % 10 ≠ 0) → s = t ∧ x = y := by
    intro x y s t hst ht he hy
    have e1 : 10 ^ (18 - s) = 10 ^ (t - s) * 10 ^ (18 - t) := by rw [← Nat.pow_add]; congr 1; omega
    rw [e1, ← Nat.mul_assoc] at he
    have he' := Nat.eq_of_mul_eq_mul_right (ten_pos _) he
    rcases Nat.lt_or_ge s t with hlt | hge
    · exfalso
      have e2 : 10 ^ (t - s) = 10 ^ (t - s - 1) * 10 := by rw [← Nat.pow_succ]; congr 1; omega
      rw [e2, ← Nat.mul_assoc] at he'
      rcases hy with hy | hy
      · omega
      · omega
    · have : s = t := by omega
      subst this
      rw [Nat.sub_self, Nat.pow_zero, Nat.mul_one] at he'
      exact ⟨rfl, he'⟩
  have hs' := hs
  unfold DcD.size at hs'
  rcases Nat.le_total a.sc.toNat b.sc.toNat with hle | hle
  · obtain ⟨h1, h2⟩ := key _ _ _ _ hle (by omega) hs' (by rcases b4 h0' with h | h; · left; omega
                                                          · right; exact h)
    exact ⟨hneg, h2, by omega⟩
  · obtain ⟨h1, h2⟩ := key _ _ _ _ hle (by omega) hs'.symm (by rcases a4 h0 with h | h; · left; omega
                                                               · right; exact h)
    exact ⟨hneg, h2.symm, by omega⟩
theorem cmpZ_self (x : Int) : cmpZ x x = 0 := by unfold cmpZ; rw [if_neg (by omega), if_pos rfl]
/-- The program's road: unlike signs, then the sizes at the greater scale. -/
theorem cmp_prog {a b : DcD} (ha : a.ok = true) (hb : b.ok = true) : cmpZ a.val b.val = if a.neg = b.neg then (if a.neg then cmpZ b.size a.size else cmpZ a.size b.size) else if a.neg then -1 else 1 := by
  unfold DcD.val
  cases h1 : a.neg <;> cases h2 : b.neg
  · simp
  · have := DcD.neg_size hb h2
    simp [cmpZ]; omega
  · have := DcD.neg_size ha h1
    simp [cmpZ]; omega
  · simp only [if_true, cmpZ]
    split <;> split <;> (try split) <;> (try split) <;> omega
theorem cmp_scale (x y k : Nat) : cmpZ ((x * 10 ^ k : Nat) : Int) ((y * 10 ^ k : Nat) : Int) = cmpZ (x : Int) (y : Int) := by
  have hk := ten_pos k
  unfold cmpZ
  rcases Nat.lt_trichotomy x y with h | h | h
  · have := Nat.mul_lt_mul_of_pos_right h hk
    rw [if_pos (by omega), if_pos (by omega)]
  · subst h
    rw [if_neg (by omega), if_pos rfl, if_neg (by omega), if_pos rfl]
  · have := Nat.mul_lt_mul_of_pos_right h hk
    rw [if_neg (by omega), if_neg (by omega), if_neg (by omega), if_neg (by omega)]
/-- The sizes at the greater scale. -/
theorem cmp_max {a b : DcD} (ha : a.ok = true) (hb : b.ok = true) {m : Nat} (h1 : a.sc.toNat ≤ m) (h2 : b.sc.toNat ≤ m) (h3 : m ≤ 18) : cmpZ ((a.n * 10 ^ (m - a.sc.toNat) : Nat) : Int) ((b.n * 10 ^ (m - b.sc.toNat) : Nat) : Int) = cmpZ (a.size : Int) (b.size : Int) := by
  rw [← cmp_scale _ _ (18 - m)]
  unfold DcD.size
  rw [Nat.mul_assoc, ← Nat.pow_add, Nat.mul_assoc, ← Nat.pow_add, show m - a.sc.toNat + (18 - m) = 18 - a.sc.toNat by omega, show m - b.sc.toNat + (18 - m) = 18 - b.sc.toNat by omega]
/-- The reference's road: the sum of the one and the other's negative. -/
def sumS (an : Bool) (x : Nat) (bn : Bool) (y : Nat) : Bool × Nat := if an = bn then (an, x + y) else if y ≤ x then (an, x - y) else (bn, y - x)
theorem cmp_ref {a b : DcD} (ha : a.ok = true) (hb : b.ok = true) : cmpZ a.val b.val = if (sumS a.neg a.size (!b.neg) b.size).2 = 0 then 0 else if (sumS a.neg a.size (!b.neg) b.size).1 then -1 else 1 := by
  unfold DcD.val sumS
  cases h1 : a.neg <;> cases h2 : b.neg
  · simp only [Bool.not_false, Bool.false_eq_true, if_false, cmpZ]
    by_cases h : b.size ≤ a.size
    · rw [if_pos h]
      dsimp only
      by_cases e : a.size = b.size
      · rw [if_neg (by omega), if_pos (by omega), if_pos (by omega)]
      · rw [if_neg (by omega), if_neg (by omega), if_neg (by omega)]; rfl
    · rw [if_neg h]
      dsimp only
      rw [if_pos (by omega), if_neg (by omega)]; rfl
  · have := DcD.neg_size hb h2
    simp only [Bool.not_true, if_true, Bool.false_eq_true, if_false, cmpZ]
    rw [if_neg (by omega), if_neg (by omega), if_neg (by omega)]
  · have := DcD.neg_size ha h1
    simp only [Bool.not_false, if_true, Bool.false_eq_true, if_false, cmpZ]
    rw [if_pos (by omega), if_neg (by omega)]
  · simp only [Bool.not_true, Bool.true_eq_false, if_false, if_true, cmpZ]
    by_cases h : b.size ≤ a.size
    · simp only [if_pos h, if_true]
      by_cases e : a.size = b.size
      · rw [if_neg (by omega), if_pos (by omega), if_pos (by omega)]
      · rw [if_pos (by omega), if_neg (by omega)]
    · simp only [if_neg h, Bool.false_eq_true, if_false]
      rw [if_neg (by omega), if_neg (by omega), if_neg (by omega)]

/-- Digits, the least first; what they come to. -/
def dvl : List Nat → Nat
  | [] => 0
  | d :: r => d + 10 * dvl r
theorem dvl_append (l m : List Nat) : dvl (l ++ m) = dvl l + 10 ^ l.length * dvl m := by
  induction l with
  | nil => simp [dvl]
  | cons x r ih => simp only [List.cons_append, dvl, ih, List.length_cons, Nat.pow_succ]; grind
theorem dvl_zeros (k : Nat) : dvl (List.replicate k 0) = 0 := by
  induction k with
  | zero => rfl
  | succ k ih => simp [List.replicate_succ, dvl, ih]
end Go.Proofs.YtgobdcmoelcckaaGreatDoor
