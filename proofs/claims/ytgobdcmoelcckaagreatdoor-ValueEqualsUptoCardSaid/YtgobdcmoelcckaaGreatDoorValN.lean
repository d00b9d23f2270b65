/- Check, DocSame of the reference. (short) -/
import Derived.Test.YtgobdcmoelcckaaGreatDoorValI
import Derived.Test.YtgobdcmoelcckaaGreatDoorValK
import Derived.Test.YtgobdcmoelcckaaGreatDoorValL
import Derived.Test.YtgobdcmoelcckaaGreatDoorValM
namespace Go.Proofs.YtgobdcmoelcckaaGreatDoor
open Go.RowKit
set_option linter.unusedVariables false
set_option linter.unusedSimpArgs false
set_option maxRecDepth 100000

set_option maxHeartbeats 8000000 in
theorem rvCheck_any (v : VD) (cs : List Value) (w : World) (hv : v.at w cs) (hwf : v.wf 1048576) : Calls Tryz.prog 16 #[.agg cs.toArray] w fun e w' => e = .returned (.int .i64 v.check) ∧ RowKit.Below w.heap.size w w' := by
  have HM := Lib.hid (Mem.start w)
  obtain ⟨n, hn⟩ : ∃ n, cntI v.parts 1000 = n := ⟨_, rfl⟩
  obtain ⟨dp, hdp⟩ : ∃ n, v.depth = n := ⟨_, rfl⟩
  obtain ⟨f, hf⟩ : ∃ n, v.form = n := ⟨_, rfl⟩
  obtain ⟨r, hr⟩ : ∃ r, v.check = r := ⟨_, rfl⟩
  rw [hr]
  have HV := Lib.hid hv
  have hdl := VD.depth_le v
  have HC := Lib.hid (show ∀ W, RowKit.Below w.heap.size w W → Calls Tryz.prog 39 #[.agg cs.toArray, .int .i64 1000] W fun e w' => e = .returned (.int .i64 n) ∧ RowKit.Below W.heap.size W w' from fun W hb => by
    rw [← hn]; exact rcount_any v cs 1000 W (VD.at.below hb HV.out) hwf (by omega))
  have HS := Lib.hid (show v.parts ≤ 1000 → ∀ W, RowKit.Below w.heap.size w W → Calls Tryz.prog 43 #[.agg cs.toArray] W fun e w' => e = .returned (.int .i64 (dp : Nat)) ∧ RowKit.Below W.heap.size W w' from fun hp W hb => by
    rw [← hdp]; exact rdepth_any _ v (Nat.le_refl _) cs W (VD.at.below hb HV.out) hwf hp)
  have HFm := Lib.hid (show ∀ W, RowKit.Below w.heap.size w W → Calls Tryz.prog 44 #[.agg cs.toArray] W fun e w' => e = .returned (.bool f) ∧ RowKit.Below W.heap.size W w' from fun W hb => by
    rw [← hf]; exact rform_any _ v (Nat.le_refl _) cs W (VD.at.below hb HV.out) hwf)
  have HR := Lib.hid (show r = if 1000 < v.parts then 6 else if 16 < dp then 7 else if f then 0 else 2 by rw [← hr, ← hdp, ← hf]; rfl)
  have hnn : n = min (v.parts : Int) 1001 := by rw [← hn]; rfl
  rcases Nat.lt_or_ge 1000 v.parts with hp | hp
  · have HD := Lib.hid (show r = 6 by rw [HR.out, if_pos hp])
    have hn1 : n = 1001 := by omega
    subst hn1
    obtain ⟨k, y, ⟨ng, hi, lo, sc⟩, t, d, l, ns⟩ := v
    simp only [VD.at, vcs] at hv
    obtain ⟨lp, np, lc, nc, ls, rfl, -⟩ := hv
    clear hn hnn hdp hf hr hdl hp
    go_enter Tryz.func16, Tryz.ntmps16
    go_wp2_with (first | refine mP ?_ | ((with_reducible refine iat 1 ?_); refine mB ?_; clear HM; intro g1 W1 HM) | (go_at_call 39; (with_reducible refine cB HM (HC.out _ HM.out.below) ?_); clear HM; intro W1 HM))
    go_ret
    exact ⟨by rw [HD.out]; rfl, HM.out.below⟩
  · have HSh := Lib.hid (HS.out hp)
    clear HS
    have hn1 : n ≤ 1000 := by omega
    have hdp2 : dp ≤ 1000 := by omega
    have HR2 := Lib.hid (show r = if 16 < dp then 7 else if f then 0 else 2 by rw [HR.out, if_neg (show ¬ 1000 < v.parts by omega)])
    clear HR
    have hq : decide (1000 < n) = false := decide_eq_false (by omega)
    obtain ⟨k, y, ⟨ng, hi, lo, sc⟩, t, d, l, ns⟩ := v
    simp only [VD.at, vcs] at hv
    obtain ⟨lp, np, lc, nc, ls, rfl, -⟩ := hv
    clear hn hnn hdp hf hr hdl hp
    rcases Nat.lt_or_ge 16 dp with h16 | h16
    · have HD := Lib.hid (show r = 7 by rw [HR2.out, if_pos h16])
      have hq2 : decide (16 < (dp : Int)) = true := decide_eq_true (by omega)
      go_enter Tryz.func16, Tryz.ntmps16
      go_wp2_with (first | refine mP ?_ | ((with_reducible refine iat 1 ?_); refine mB ?_; clear HM; intro g1 W1 HM) | (go_at_call 39; (with_reducible refine cB HM (HC.out _ HM.out.below) ?_); clear HM; intro W1 HM) | (go_at_call 43; (with_reducible refine cB HM (HSh.out _ HM.out.below) ?_); clear HM; intro W1 HM))
      go_ret
      exact ⟨by rw [HD.out]; rfl, HM.out.below⟩
    · have HR := Lib.hid (show r = if f then 0 else 2 by rw [HR2.out, if_neg (show ¬ 16 < dp by omega)])
      clear HR2
      have hq2 : decide (16 < (dp : Int)) = false := decide_eq_false (by omega)
      cases f
      all_goals
        go_enter Tryz.func16, Tryz.ntmps16
        go_wp2_with (first | refine mP ?_ | ((with_reducible refine iat 1 ?_); refine mB ?_; clear HM; intro g1 W1 HM) | (go_at_call 39; (with_reducible refine cB HM (HC.out _ HM.out.below) ?_); clear HM; intro W1 HM) | (go_at_call 43; (with_reducible refine cB HM (HSh.out _ HM.out.below) ?_); clear HM; intro W1 HM) | (go_at_call 44; (with_reducible refine cB HM (HFm.out _ HM.out.below) ?_); clear HM; intro W1 HM))
        go_ret
        exact ⟨by rw [HR.out]; rfl, HM.out.below⟩

set_option maxHeartbeats 8000000 in
theorem rDocSame_any (x y : VD) (cx cy : List Value) (w : World) (hx : x.at w cx) (hy : y.at w cy) (hxw : x.wf 1048576) (hyw : y.wf 1048576) : Calls Tryz.prog 18 #[.agg cx.toArray, .agg cy.toArray] w fun e w' => e = .returned (.bool (decide (chkL [x, y] = 0) && VD.same x y)) ∧ RowKit.Below w.heap.size w w' := by
  have HM := Lib.hid (Mem.start w)
  have HX := Lib.hid hx
  have HY := Lib.hid hy
  have HXw := Lib.hid hxw
  have HYw := Lib.hid hyw
  obtain ⟨u, hu⟩ : ∃ u, x.check = u := ⟨_, rfl⟩
  obtain ⟨v, hv⟩ : ∃ u, y.check = u := ⟨_, rfl⟩
  obtain ⟨r, hr⟩ : ∃ r, VD.same x y = r := ⟨_, rfl⟩
  rw [chk2, hu, hv, hr]
  have HC1 := Lib.hid (show ∀ W, RowKit.Below w.heap.size w W → Calls Tryz.prog 16 #[.agg cx.toArray] W fun e w' => e = .returned (.int .i64 u) ∧ RowKit.Below W.heap.size W w' from fun W hb => by
    rw [← hu]; exact rvCheck_any x _ W (VD.at.below hb HX.out) HXw.out)
  have HC2 := Lib.hid (show ∀ W, RowKit.Below w.heap.size w W → Calls Tryz.prog 16 #[.agg cy.toArray] W fun e w' => e = .returned (.int .i64 v) ∧ RowKit.Below W.heap.size W w' from fun W hb => by
    rw [← hv]; exact rvCheck_any y _ W (VD.at.below hb HY.out) HYw.out)
  have HS := Lib.hid (show ∀ W, RowKit.Below w.heap.size w W → Calls Tryz.prog 40 #[.agg cx.toArray, .agg cy.toArray] W fun e w' => e = .returned (.bool r) ∧ RowKit.Below W.heap.size W w' from fun W hb => by
    rw [← hr]; exact rSame_any _ x y (Nat.le_refl _) _ _ W (VD.at.below hb HX.out) (VD.at.below hb HY.out) HXw.out HYw.out)
  clear hu hv hr
  obtain ⟨k1, y1, ⟨ng1, hi1, lo1, sc1⟩, t1, d1, l1, ns1⟩ := x
  obtain ⟨k2, y2, ⟨ng2, hi2, lo2, sc2⟩, t2, d2, l2, ns2⟩ := y
  simp only [VD.at, vcs] at hx hy
  obtain ⟨lp1, np1, lc1, nc1, ls1, rfl, -⟩ := hx
  obtain ⟨lp2, np2, lc2, nc2, ls2, rfl, -⟩ := hy
  by_cases h0 : u = 0
  · subst h0
    by_cases h1 : v = 0
    · subst h1
      go_enter Tryz.func18, Tryz.ntmps18
      go_wp2_with (first | ((with_reducible refine skip_op ?_ ?_); exact rfl) | refine mP ?_ | ((with_reducible refine iat 2 ?_); refine mB ?_; clear HM; intro g2 W1 HM) | ((with_reducible refine iat 3 ?_); refine mB ?_; clear HM; intro g3 W1 HM) | (go_at_call 16; first | ((with_reducible refine cB HM (HC1.out _ HM.out.below) ?_); clear HM; intro W1 HM) | ((with_reducible refine cB HM (HC2.out _ HM.out.below) ?_); clear HM; intro W1 HM)) | (go_at_call 40; (with_reducible refine cB HM (HS.out _ HM.out.below) ?_); clear HM; intro W1 HM))
      go_ret
      exact ⟨by simp, HM.out.below⟩
    · have q : (v == 0) = false := by simp [h1]
      go_enter Tryz.func18, Tryz.ntmps18
      go_wp2_with (first | ((with_reducible refine skip_op ?_ ?_); exact rfl) | refine mP ?_ | ((with_reducible refine iat 2 ?_); refine mB ?_; clear HM; intro g2 W1 HM) | ((with_reducible refine iat 3 ?_); refine mB ?_; clear HM; intro g3 W1 HM) | (go_at_call 16; first | ((with_reducible refine cB HM (HC1.out _ HM.out.below) ?_); clear HM; intro W1 HM) | ((with_reducible refine cB HM (HC2.out _ HM.out.below) ?_); clear HM; intro W1 HM)) | (go_at_call 40; (with_reducible refine cB HM (HS.out _ HM.out.below) ?_); clear HM; intro W1 HM))
      go_ret
      exact ⟨by simp [h1], HM.out.below⟩
  · have q : (u == 0) = false := by simp [h0]
    go_enter Tryz.func18, Tryz.ntmps18
    go_wp2_with (first | ((with_reducible refine skip_op ?_ ?_); exact rfl) | refine mP ?_ | ((with_reducible refine iat 2 ?_); refine mB ?_; clear HM; intro g2 W1 HM) | ((with_reducible refine iat 3 ?_); refine mB ?_; clear HM; intro g3 W1 HM) | (go_at_call 16; first | ((with_reducible refine cB HM (HC1.out _ HM.out.below) ?_); clear HM; intro W1 HM) | ((with_reducible refine cB HM (HC2.out _ HM.out.below) ?_); clear HM; intro W1 HM)) | (go_at_call 40; (with_reducible refine cB HM (HS.out _ HM.out.below) ?_); clear HM; intro W1 HM))
    go_ret
    exact ⟨by simp [h0], HM.out.below⟩
end Go.Proofs.YtgobdcmoelcckaaGreatDoor
