/- The fields that a kind leaves zero: both sides. (short) -/
import Derived.Test.YtgobdcmoelcckaaGreatDoorValA
namespace Go.Proofs.YtgobdcmoelcckaaGreatDoor
open Go.RowKit
set_option linter.unusedVariables false
set_option linter.unusedSimpArgs false
set_option maxRecDepth 100000

/-- VD.bare over a value's cells. -/
def bareB (k : Int) (y ng : Bool) (hi lo : Nat) (sc : Int) (t : ByteArray) (d : Int) (ll nl : Nat) : Bool := (!y || decide (k = 1)) && (decide (ng = false ∧ hi = 0 ∧ lo = 0 ∧ sc = 0) || decide (k = 2)) && (decide (t.toList = []) || decide (k = 3)) && (decide (d = 0) || decide (k = 4)) && (decide (nl = 0) || decide (k = 6)) && decide (ll = 0 ∨ k = 5 ∨ k = 6)
theorem bareB_eq (k : Int) (y ng : Bool) (hi lo : Nat) (sc : Int) (t : ByteArray) (d : Int) (l : List VD) (ns : List ByteArray) : (VD.mk k y ⟨ng, hi, lo, sc⟩ t d l ns).bare = bareB k y ng hi lo sc t d l.length ns.length := by
  have h1 : (VD.mk k y ⟨ng, hi, lo, sc⟩ t d l ns).bare = ((!y || decide (k = 1)) && (decide (DcD.mk ng hi lo sc = ⟨false, 0, 0, 0⟩) || decide (k = 2)) && (decide (t.toList = []) || decide (k = 3)) && (decide (d = 0) || decide (k = 4)) && (decide (ns = []) || decide (k = 6)) && decide (l = [] ∨ k = 5 ∨ k = 6)) := rfl
  rw [h1]
  unfold bareB
  rw [Bool.eq_iff_iff]
  simp
theorem kinds (k : Int) : k = 1 ∨ k = 2 ∨ k = 3 ∨ k = 4 ∨ k = 5 ∨ k = 6 ∨ (k ≠ 1 ∧ k ≠ 2 ∧ k ≠ 3 ∧ k ≠ 4 ∧ k ≠ 5 ∧ k ≠ 6) := by omega

set_option maxHeartbeats 8000000 in
theorem vbare_any (k : Int) (y ng : Bool) (hi lo : Nat) (sc : Int) (t : ByteArray) (d : Int) (lp : Option Addr) (ll lc : Nat) (np : Option Addr) (nl nc : Nat) (w : World) :
    Calls Tryz.prog 65 #[vlit k y ng hi lo sc t d lp ll lc np nl nc] w fun e w' => e = .returned (.bool (bareB k y ng hi lo sc t d ll nl)) ∧ RowKit.Below w.heap.size w w' := by
  have HM := Lib.hid (Mem.start w)
  obtain ⟨r, hr⟩ : ∃ r, bareB k y ng hi lo sc t d ll nl = r := ⟨_, rfl⟩
  rw [hr]
  have HR := Lib.hid hr
  clear hr
  rcases kinds k with rfl | rfl | rfl | rfl | rfl | rfl | ⟨k1, k2, k3, k4, k5, k6⟩
  all_goals
    go_enter Tryz.func65, Tryz.ntmps65
    go_wp2_with (first | ((with_reducible refine skip_op ?_ ?_); exact rfl) | refine mP ?_ | (refine mB ?_; clear HM; intro g1 W1 HM))
  all_goals (go_ret; exact ⟨by rw [← HR.out]; unfold bareB; first | (simp [*]; done) | (simp_all; done) | (simp_all; omega), HM.out.below⟩)
end Go.Proofs.YtgobdcmoelcckaaGreatDoor
