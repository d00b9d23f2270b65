/- The digits of a text, the least first; in plain Lean. -/
import Derived.Test.YtinkdemjjnfphaaGreatDoorRefWords
import Derived.Test.YtinkdemjjnfphaaGreatDoorDecParse
namespace Go.Proofs.YtinkdemjjnfphaaGreatDoor
open Go.RowKit
set_option linter.unusedVariables false
def dv (b : UInt8) : Nat := b.toNat - 48
def dL (l : List UInt8) : List Nat := l.reverse.map dv
theorem dL_snoc (l : List UInt8) (b : UInt8) : dL (l ++ [b]) = dv b :: dL l := by unfold dL; simp
theorem dL_cons (b : UInt8) (l : List UInt8) : dL (b :: l) = dL l ++ [dv b] := by unfold dL; simp
theorem dL_len (l : List UInt8) : (dL l).length = l.length := by unfold dL; simp
theorem dL_nine {l : List UInt8} (h : ∀ b ∈ l, dg b = true) : ∀ x ∈ dL l, x ≤ 9 := fun x hx => by
  unfold dL at hx
  obtain ⟨b, hb, rfl⟩ := List.mem_map.1 hx
  have := (Cal.digB_iff b).1 (h b (List.mem_reverse.1 hb))
  unfold dv; omega
theorem valD_dL (l : List UInt8) : valD (dL l) = dval l := by
  have key : ∀ r : List UInt8, valD (dL r.reverse) = dval r.reverse := fun r => by
    induction r with
    | nil => rfl
    | cons b r ih =>
      rw [List.reverse_cons, dL_snoc, dval_snoc]
      unfold valD
      rw [ih]; unfold dv; omega
  have := key l.reverse
  rwa [List.reverse_reverse] at this
theorem cut_dL {l : List UInt8} (h : ∀ b ∈ l, dg b = true) : cutL (dL l) = dgt (dval l) := by rw [cut_dgt _ (dL_nine h), valD_dL]
theorem dval_trim (l : List UInt8) : dval (Lib.trimLeftB l 48) = dval l := by
  unfold Lib.trimLeftB
  induction l with
  | nil => rfl
  | cons a l ih =>
    rw [List.dropWhile_cons]
    split
    · rename_i h
      have : a = 48 := by simpa using h
      subst this
      rw [ih]; rfl
    · rfl
theorem dgt_dval_len {l : List UInt8} (h : ∀ b ∈ l, dg b = true) : (dgt (dval l)).length = (Lib.trimLeftB l 48).length := by
  obtain ⟨h1, h2, _⟩ := trimL_dg h
  rw [← dval_trim, ← cut_dL h1]
  generalize Lib.trimLeftB l 48 = l' at h1 h2
  cases l' with
  | nil => rfl
  | cons b t =>
    have hb := (Cal.digB_iff b).1 (h1 b (List.mem_cons_self ..))
    have hn : dv b ≠ 0 := fun e => h2 (by
      unfold dv at e
      have : b.toNat = 48 := by omega
      rw [show b = 48 from UInt8.toNat_inj.1 this]; rfl)
    rw [dL_cons, cutL_top hn]
    simp [dL_len]
theorem valD_lt : ∀ (l : List Nat), (∀ x ∈ l, x ≤ 9) → valD l < 10 ^ l.length
  | [], _ => by decide
  | x :: xs, h => by
    have h1 := valD_lt xs (fun y hy => h y (List.mem_cons_of_mem _ hy))
    have h2 := h x (List.mem_cons_self ..)
    unfold valD
    rw [List.length_cons, Nat.pow_succ]
    omega
theorem lt_dgt {n k : Nat} (h : (dgt n).length ≤ k) : n < 10 ^ k := by
  have h1 := valD_lt (dgt n) (dgt_nine n)
  rw [valD_dgt] at h1
  exact Nat.lt_of_lt_of_le h1 (Nat.pow_le_pow_right (by omega) h)
theorem trimR_snoc (l : List UInt8) (x : UInt8) : Lib.trimRightB (l ++ [x]) 48 = if x = 48 then Lib.trimRightB l 48 else l ++ [x] := by
  unfold Lib.trimRightB
  rw [List.reverse_append]
  show (List.dropWhile _ (x :: l.reverse)).reverse = _
  rw [List.dropWhile_cons]
  by_cases h : x = 48
  · subst h; simp
  · rw [if_neg (by simpa using h), if_neg h]; simp
theorem trimR_last {l i : List UInt8} {b : UInt8} (h : Lib.trimRightB l 48 = i ++ [b]) : b ≠ 48 := by
  have key : ∀ r : List UInt8, ∀ i b, Lib.trimRightB r.reverse 48 = i ++ [b] → b ≠ 48 := fun r => by
    induction r with
    | nil => intro i b e; have : Lib.trimRightB ([] : List UInt8).reverse 48 = [] := rfl
             rw [this] at e; simp at e
    | cons x r ih =>
      intro i b e
      rw [List.reverse_cons, trimR_snoc] at e
      split at e
      · exact ih i b e
      · rename_i hx
        have := List.append_inj_right' e rfl
        simp at this
        rw [← this]; exact hx
  have := key l.reverse i b
  rw [List.reverse_reverse] at this
  exact this h
/-- Behind the point no noughts at the end: so the last digit is none. -/
theorem last_dig {ds fs : List UInt8} (hf : ∀ b ∈ fs, dg b = true) (h : Lib.trimRightB fs 48 ≠ []) : dval (ds ++ Lib.trimRightB fs 48) % 10 ≠ 0 := by
  rcases List.eq_nil_or_concat (Lib.trimRightB fs 48) with h0 | ⟨i, b, hb⟩
  · exact absurd h0 h
  · rw [List.concat_eq_append] at hb
    have h1 := trimR_last hb
    have h2 := (Cal.digB_iff b).1 (hf b ((trimR_sub fs).mem (by rw [hb]; simp)))
    rw [hb, ← List.append_assoc, dval_snoc]
    have h3 : b.toNat ≠ 48 := fun e => h1 (UInt8.toNat_inj.1 e)
    omega
/-- What the reference makes of the two parts. -/
theorem decT_ref {ds fs : List UInt8} (hd : ∀ b ∈ ds, dg b = true) (hf : ∀ b ∈ fs, dg b = true) (bl : List UInt8) (hbl : Lib.trimRightB fs 48 = bl) (n m : Nat) (hn : dval (ds ++ bl) = n) (hm : (dgt n).length = m) :
    (¬ (1 < ds.length ∧ ds[0]? = some 48)) → (18 < bl.length ∨ 34 < m → decT ds fs = ((0, 0), 3)) ∧ (¬ (18 < bl.length ∨ 34 < m) → decT ds fs = ((n, bl.length), 0) ∧ (bl.length = 0 ∨ n % 10 ≠ 0)) := fun h1 => by
  have hall : ∀ b ∈ ds ++ bl, dg b = true := fun b hb => by
    rcases List.mem_append.1 hb with hb | hb
    · exact hd b hb
    · exact hf b ((trimR_sub fs).mem (by rw [hbl]; exact hb))
  have hl := dgt_dval_len hall
  have ht := dval_trim (ds ++ bl)
  rw [hn] at hl ht
  rw [hm] at hl
  have hlast : bl.length = 0 ∨ n % 10 ≠ 0 := by
    by_cases h0 : bl = []
    · left; rw [h0]; rfl
    · right; rw [← hn, ← hbl]; exact last_dig hf (by rw [hbl]; exact h0)
  by_cases hz : Lib.trimLeftB (ds ++ bl) 48 = []
  · rw [hz] at hl ht
    have h0 : n = 0 := by rw [← ht]; rfl
    have hb0 : bl.length = 0 := by
      rcases hlast with h | h
      · exact h
      · rw [h0] at h; exact absurd rfl h
    have hm0 : m = 0 := by rw [hl]; rfl
    refine ⟨fun h => by omega, fun _ => ⟨?_, hlast⟩⟩
    unfold decT
    rw [if_neg h1, hbl, if_pos hz, h0, hb0]
  · refine ⟨fun h => ?_, fun h => ⟨?_, hlast⟩⟩
    · unfold decT
      rw [if_neg h1, hbl, if_neg hz, if_pos (by rw [← hl]; exact h)]
    · unfold decT
      rw [if_neg h1, hbl, if_neg hz, if_neg (by rw [← hl]; exact h), ht]
end Go.Proofs.YtinkdemjjnfphaaGreatDoor
