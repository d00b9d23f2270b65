/- The words of a number, bit by bit; in plain Lean. -/
import Derived.Test.YtinkdemjjnfphaaGreatDoorRefDig
import Derived.Laws.Entries
namespace Go.Proofs.YtinkdemjjnfphaaGreatDoor
set_option linter.unusedVariables false
/-- Of the lowest k bits of a number the word number j. -/
def wd (n k j : Nat) : Nat := n / 2 ^ (64 * j) % 2 ^ (min (k - 64 * j) 64)
theorem wd_nil (n j : Nat) : wd n 0 j = 0 := by unfold wd; rw [show min (0 - 64 * j) 64 = 0 by omega]; exact Nat.mod_one _
theorem wd_below {n k j : Nat} (h : 64 * (j + 1) ≤ k) : wd n (k + 1) j = wd n k j := by unfold wd; rw [show min (k + 1 - 64 * j) 64 = 64 by omega, show min (k - 64 * j) 64 = 64 by omega]
theorem wd_above {n k j : Nat} (h : k + 1 ≤ 64 * j) : wd n (k + 1) j = wd n k j := by unfold wd; rw [show min (k + 1 - 64 * j) 64 = 0 by omega, show min (k - 64 * j) 64 = 0 by omega]
theorem wd_lt (n k j : Nat) : wd n k j < 18446744073709551616 := by
  unfold wd
  refine Nat.lt_of_lt_of_le (Nat.mod_lt _ (Nat.pow_pos (by omega))) ?_
  rw [show (18446744073709551616 : Nat) = 2 ^ 64 by rfl]
  exact Nat.pow_le_pow_right (by omega) (Nat.min_le_right _ _)
theorem wd_at {n k j r : Nat} (hk : k = 64 * j + r) (hr : r < 64) : wd n (k + 1) j = wd n k j ||| (n / 2 ^ k % 2) * 2 ^ r := by
  unfold wd
  rw [show min (k + 1 - 64 * j) 64 = r + 1 by omega, show min (k - 64 * j) 64 = r by omega]
  have h1 : n / 2 ^ k = n / 2 ^ (64 * j) / 2 ^ r := by rw [hk, Nat.pow_add, Nat.div_div_eq_div_mul]
  generalize n / 2 ^ (64 * j) = m at h1 ⊢
  rw [h1, Nat.mod_pow_succ]
  have h2 := Nat.two_pow_add_eq_or_of_lt (b := m % 2 ^ r) (i := r) (Nat.mod_lt _ (Nat.pow_pos (by omega))) (m / 2 ^ r % 2)
  rw [Nat.or_comm, Nat.mul_comm (m / 2 ^ r % 2), ← h2, Nat.add_comm]
theorem wd_full {n j : Nat} (hj : j < 4) : wd n 256 j = n / 2 ^ (64 * j) % 18446744073709551616 := by
  unfold wd
  rw [show min (256 - 64 * j) 64 = 64 by omega]
theorem bits_or {x y : Nat} (hx : x < 18446744073709551616) (hy : y < 18446744073709551616) : Go.bits .or .u64 (x : Int) (y : Int) = ((x ||| y : Nat) : Int) := by
  have hxy : x ||| y < 2 ^ 64 := Nat.or_lt_two_pow hx hy
  have h1 : (BitVec.ofInt 64 (x : Int) ||| BitVec.ofInt 64 (y : Int)).toNat = x ||| y := by
    rw [BitVec.toNat_or, BitVec.ofInt_natCast, BitVec.ofInt_natCast, BitVec.toNat_ofNat, BitVec.toNat_ofNat, Nat.mod_eq_of_lt hx, Nat.mod_eq_of_lt hy]
  show IntKind.wrap .u64 ((BitVec.ofInt 64 (x : Int) ||| BitVec.ofInt 64 (y : Int)).toNat : Int) = _
  rw [h1]
  generalize x ||| y = z at hxy
  simp [IntKind.wrap, IntKind.signed, IntKind.bits]
  omega
end Go.Proofs.YtinkdemjjnfphaaGreatDoor
