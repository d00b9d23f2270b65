/- Truth of three values: both sides' small functions. (short) -/
import Derived.Test.YtgobdcmoelcckaaGreatDoorTypes
import Derived.Test.YtgobdcmoelcckaaGreatDoorValPlain
namespace Go.Proofs.YtgobdcmoelcckaaGreatDoor
open Go.RowKit
set_option linter.unusedVariables false
set_option linter.unusedSimpArgs false
set_option maxRecDepth 100000

abbrev vlit (k : Int) (y ng : Bool) (hi lo : Nat) (sc : Int) (t : ByteArray) (d : Int) (lp : Option Addr) (ll lc : Nat) (np : Option Addr) (nl nc : Nat) : Value :=
  .agg #[.int .i64 k, .bool y, .bool ng, .int .u64 hi, .int .u64 lo, .int .i64 sc, .string t, .int .i64 d, .slice lp ll lc, .slice np nl nc]
abbrev truV (o : Option Bool) : Value := vlit (if o.isSome then 1 else 0) (o.getD false) false 0 0 0 ⟨#[]⟩ 0 none 0 0 none 0 0
def tOf (k : Int) (y : Bool) : Option Bool := if k = 1 then some y else none
theorem tOf_tru (o : Option Bool) : tOf (if o.isSome then 1 else 0) (o.getD false) = o := by
  rcases o with _ | _ | _ <;> rfl
variable (k : Int) (y ng : Bool) (hi lo : Nat) (sc : Int) (t : ByteArray) (d : Int) (lp : Option Addr) (ll lc : Nat) (np : Option Addr) (nl nc : Nat)
variable (k' : Int) (y' ng' : Bool) (hi' lo' : Nat) (sc' : Int) (t' : ByteArray) (d' : Int) (lp' : Option Addr) (ll' lc' : Nat) (np' : Option Addr) (nl' nc' : Nat)

set_option maxHeartbeats 2000000 in
theorem vis_any (b : Bool) (w : World) : Calls Tryz.prog 76 #[vlit k y ng hi lo sc t d lp ll lc np nl nc, .bool b] w fun e w' => e = .returned (.bool (decide (k = 1) && (y == b))) ∧ RowKit.Below w.heap.size w w' := by
  have HM := Lib.hid (Mem.start w)
  by_cases hk : k = 1
  · subst hk
    go_enter Tryz.func76, Tryz.ntmps76
    go_wp2_with (first | ((with_reducible refine skip_op ?_ ?_); exact rfl) | refine mP ?_ | (refine mB ?_; clear HM; intro g1 W1 HM))
    go_ret
    exact ⟨by simp, HM.out.below⟩
  · go_enter Tryz.func76, Tryz.ntmps76
    go_wp2_with (first | ((with_reducible refine skip_op ?_ ?_); exact rfl) | refine mP ?_ | (refine mB ?_; clear HM; intro g1 W1 HM))
    go_ret
    exact ⟨by simp [hk], HM.out.below⟩

set_option maxHeartbeats 2000000 in
theorem rIs_any (b : Bool) (w : World) : Calls Tryz.prog 25 #[vlit k y ng hi lo sc t d lp ll lc np nl nc, .bool b] w fun e w' => e = .returned (.bool (decide (k = 1) && (y == b))) ∧ RowKit.Below w.heap.size w w' := by
  have HM := Lib.hid (Mem.start w)
  by_cases hk : k = 1
  · subst hk
    go_enter Tryz.func25, Tryz.ntmps25
    go_wp2_with (first | ((with_reducible refine skip_op ?_ ?_); exact rfl) | refine mP ?_ | (refine mB ?_; clear HM; intro g1 W1 HM))
    go_ret
    exact ⟨by simp, HM.out.below⟩
  · go_enter Tryz.func25, Tryz.ntmps25
    go_wp2_with (first | ((with_reducible refine skip_op ?_ ?_); exact rfl) | refine mP ?_ | (refine mB ?_; clear HM; intro g1 W1 HM))
    go_ret
    exact ⟨by simp [hk], HM.out.below⟩

set_option maxHeartbeats 2000000 in
theorem truth_any (b : Bool) (w : World) : Calls Tryz.prog 38 #[.bool b] w fun e w' => e = .returned (truV (some b)) ∧ RowKit.Below w.heap.size w w' := by
  have HM := Lib.hid (Mem.start w)
  go_enter Tryz.func38, Tryz.ntmps38
  go_wp2_with (first | (refine mS ?_; clear HM; intro W1 HM) | (refine hal HM rfl ?_; clear HM; intro g1 W1 HM))
  exact bodyPost_ret (res_box rfl HM.out 0 rfl rfl rfl) rfl ⟨rfl, HM.out.below⟩

set_option maxHeartbeats 2000000 in
theorem rTruth_any (b : Bool) (w : World) : Calls Tryz.prog 57 #[.bool b] w fun e w' => e = .returned (truV (some b)) ∧ RowKit.Below w.heap.size w w' := by
  have HM := Lib.hid (Mem.start w)
  go_enter Tryz.func57, Tryz.ntmps57
  go_wp2_with (first | (refine mS ?_; clear HM; intro W1 HM) | (refine hal HM rfl ?_; clear HM; intro g1 W1 HM))
  exact bodyPost_ret (res_box rfl HM.out 0 rfl rfl rfl) rfl ⟨rfl, HM.out.below⟩

set_option maxHeartbeats 4000000 in
theorem both_any (w : World) : Calls Tryz.prog 47 #[vlit k y ng hi lo sc t d lp ll lc np nl nc, vlit k' y' ng' hi' lo' sc' t' d' lp' ll' lc' np' nl' nc'] w fun e w' => e = .returned (truV (bothT (tOf k y) (tOf k' y'))) ∧ RowKit.Below w.heap.size w w' := by
  have HM := Lib.hid (Mem.start w)
  have HA := Lib.hid (fun (b c : Bool) (h : (decide (k = 1) && (y == b)) = c) W => (h ▸ vis_any k y ng hi lo sc t d lp ll lc np nl nc b W : Calls Tryz.prog 76 _ W fun e w' => e = .returned (.bool c) ∧ RowKit.Below W.heap.size W w'))
  have HB := Lib.hid (fun (b c : Bool) (h : (decide (k' = 1) && (y' == b)) = c) W => (h ▸ vis_any k' y' ng' hi' lo' sc' t' d' lp' ll' lc' np' nl' nc' b W : Calls Tryz.prog 76 _ W fun e w' => e = .returned (.bool c) ∧ RowKit.Below W.heap.size W w'))
  have HT := Lib.hid (fun b W => truth_any b W)
  obtain ⟨r, hr⟩ : ∃ r, bothT (tOf k y) (tOf k' y') = r := ⟨_, rfl⟩
  rw [hr]
  obtain ⟨a0, ea0⟩ : ∃ b, (decide (k = 1) && (y == false)) = b := ⟨_, rfl⟩
  obtain ⟨a1, ea1⟩ : ∃ b, (decide (k = 1) && (y == true)) = b := ⟨_, rfl⟩
  obtain ⟨b0, eb0⟩ : ∃ b, (decide (k' = 1) && (y' == false)) = b := ⟨_, rfl⟩
  obtain ⟨b1, eb1⟩ : ∃ b, (decide (k' = 1) && (y' == true)) = b := ⟨_, rfl⟩
  have hval : r = if a0 || b0 then some false else if a1 && b1 then some true else none := by
    rw [← hr, ← ea0, ← ea1, ← eb0, ← eb1]
    unfold tOf
    by_cases h1 : k = 1 <;> by_cases h2 : k' = 1 <;> cases y <;> cases y' <;> simp [h1, h2, bothT]
  have HA0 := Lib.hid (HA.out false a0 ea0)
  have HA1 := Lib.hid (HA.out true a1 ea1)
  have HB0 := Lib.hid (HB.out false b0 eb0)
  have HB1 := Lib.hid (HB.out true b1 eb1)
  have HV := Lib.hid hval
  clear HA HB ea0 ea1 eb0 eb1 hr hval
  cases a0 <;> cases b0 <;> cases a1 <;> cases b1
  all_goals
    go_enter Tryz.func47, Tryz.ntmps47
    go_wp2_with (first | ((with_reducible refine skip_op ?_ ?_); exact rfl) | refine mP ?_ | (refine mS ?_; clear HM; intro W1 HM) | (refine hal HM rfl ?_; clear HM; intro g1 W1 HM) | (refine mB ?_; clear HM; intro g1 W1 HM) | (go_at_call 76; first | ((with_reducible refine cB HM (HA0.out _) ?_); clear HM; intro W1 HM) | ((with_reducible refine cB HM (HA1.out _) ?_); clear HM; intro W1 HM) | ((with_reducible refine cB HM (HB0.out _) ?_); clear HM; intro W1 HM) | ((with_reducible refine cB HM (HB1.out _) ?_); clear HM; intro W1 HM)) | (go_at_call 38; (with_reducible refine cB HM (HT.out _ _) ?_); clear HM; intro W1 HM))
    exact bodyPost_ret (res_box rfl HM.out 0 rfl rfl rfl) rfl ⟨by rw [HV.out]; rfl, HM.out.below⟩

set_option maxHeartbeats 4000000 in
theorem turned_any (w : World) : Calls Tryz.prog 49 #[vlit k y ng hi lo sc t d lp ll lc np nl nc] w fun e w' => e = .returned (truV (notT (tOf k y))) ∧ RowKit.Below w.heap.size w w' := by
  have HM := Lib.hid (Mem.start w)
  have HT := Lib.hid (fun b W => truth_any b W)
  by_cases hk : k = 1
  · subst hk
    go_enter Tryz.func49, Tryz.ntmps49
    go_wp2_with (first | refine mP ?_ | (refine mS ?_; clear HM; intro W1 HM) | (refine hal HM rfl ?_; clear HM; intro g1 W1 HM) | (refine mB ?_; clear HM; intro g1 W1 HM) | (go_at_call 38; (with_reducible refine cB HM (HT.out _ _) ?_); clear HM; intro W1 HM))
    exact bodyPost_ret (res_box rfl HM.out 0 rfl rfl rfl) rfl ⟨rfl, HM.out.below⟩
  · have HV := Lib.hid (show notT (tOf k y) = none by simp [tOf, hk, notT])
    go_enter Tryz.func49, Tryz.ntmps49
    go_wp2_with (first | refine mP ?_ | (refine mS ?_; clear HM; intro W1 HM) | (refine hal HM rfl ?_; clear HM; intro g1 W1 HM) | (refine mB ?_; clear HM; intro g1 W1 HM) | (go_at_call 38; (with_reducible refine cB HM (HT.out _ _) ?_); clear HM; intro W1 HM))
    exact bodyPost_ret (res_box rfl HM.out 0 rfl rfl rfl) rfl ⟨by rw [HV.out]; rfl, HM.out.below⟩

set_option maxHeartbeats 4000000 in
theorem rNot_any (w : World) : Calls Tryz.prog 50 #[vlit k y ng hi lo sc t d lp ll lc np nl nc] w fun e w' => e = .returned (truV (notT (tOf k y))) ∧ RowKit.Below w.heap.size w w' := by
  have HM := Lib.hid (Mem.start w)
  have HT := Lib.hid (fun b W => rTruth_any b W)
  by_cases hk : k = 1
  · subst hk
    go_enter Tryz.func50, Tryz.ntmps50
    go_wp2_with (first | refine mP ?_ | (refine mS ?_; clear HM; intro W1 HM) | (refine hal HM rfl ?_; clear HM; intro g1 W1 HM) | (refine mB ?_; clear HM; intro g1 W1 HM) | (go_at_call 57; (with_reducible refine cB HM (HT.out _ _) ?_); clear HM; intro W1 HM))
    exact bodyPost_ret (res_box rfl HM.out 0 rfl rfl rfl) rfl ⟨rfl, HM.out.below⟩
  · have HV := Lib.hid (show notT (tOf k y) = none by simp [tOf, hk, notT])
    go_enter Tryz.func50, Tryz.ntmps50
    go_wp2_with (first | refine mP ?_ | (refine mS ?_; clear HM; intro W1 HM) | (refine hal HM rfl ?_; clear HM; intro g1 W1 HM) | (refine mB ?_; clear HM; intro g1 W1 HM) | (go_at_call 57; (with_reducible refine cB HM (HT.out _ _) ?_); clear HM; intro W1 HM))
    exact bodyPost_ret (res_box rfl HM.out 0 rfl rfl rfl) rfl ⟨by rw [HV.out]; rfl, HM.out.below⟩
end Go.Proofs.YtgobdcmoelcckaaGreatDoor
