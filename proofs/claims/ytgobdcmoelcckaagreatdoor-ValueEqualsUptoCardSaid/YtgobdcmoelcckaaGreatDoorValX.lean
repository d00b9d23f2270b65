/- Less of the reference and its calls; ValueEquals: the law's walk. (short) -/
import Derived.Test.YtgobdcmoelcckaaGreatDoorValZ
import Derived.Test.YtgobdcmoelcckaaGreatDoorValS
import Derived.Test.YtgobdcmoelcckaaGreatDoorValU
import Derived.Test.YtgobdcmoelcckaaGreatDoorDigD
namespace Go.Proofs.YtgobdcmoelcckaaGreatDoor
open Go.RowKit
set_option linter.unusedVariables false
set_option linter.unusedSimpArgs false
set_option maxRecDepth 100000

set_option maxHeartbeats 16000000 in
theorem rLess_any (x y : VD) (cx cy : List Value) (w : World) (hx : x.at w cx) (hy : y.at w cy) (hxw : x.wf 1048576) (hyw : y.wf 1048576) (f1 : x.form = true) (f2 : y.form = true) : Calls Tryz.prog 36 #[.agg cx.toArray, .agg cy.toArray] w fun e w' => e = .returned (truV (VD.less x y)) ∧ RowKit.Below w.heap.size w w' := by
  have HM := Lib.hid (Mem.start w)
  have HCm := Lib.hid (show x.k = 2 → y.k = 2 → ∀ W, Calls Tryz.prog 61 #[.agg x.num.cs.toArray, .agg y.num.cs.toArray] W fun e w' => e = .returned (.int .i64 (cmpZ x.num.val y.num.val)) ∧ RowKit.Below W.heap.size W w' from fun h1 h2 W => order2_any x.num y.num W (form_num f1 h1) (form_num f2 h2) (VD.wf_num hxw) (VD.wf_num hyw))
  have HT := Lib.hid (fun b W => rTruth_any b W)
  obtain ⟨r, hr⟩ : ∃ r, VD.less x y = r := ⟨_, rfl⟩
  rw [hr]
  obtain ⟨k1, y1, ⟨ng1, hi1, lo1, sc1⟩, t1, d1, l1, ns1⟩ := x
  obtain ⟨k2, y2, ⟨ng2, hi2, lo2, sc2⟩, t2, d2, l2, ns2⟩ := y
  simp only [VD.at, vcs] at hx hy
  obtain ⟨lp1, np1, lc1, nc1, ls1, rfl, -⟩ := hx
  obtain ⟨lp2, np2, lc2, nc2, ls2, rfl, -⟩ := hy
  replace hr : (if k1 ≠ k2 then (none : Option Bool) else if k1 = 2 then some (decide ((DcD.mk ng1 hi1 lo1 sc1).val < (DcD.mk ng2 hi2 lo2 sc2).val)) else if k1 = 3 then some (Op.bytesLess t1.toList t2.toList) else if k1 = 4 then some (decide (d1 < d2)) else none) = r := hr
  simp only [VD.k, VD.num, DcD.cs] at HCm
  by_cases hk : k1 = k2
  · subst hk
    have q0 : (k1 != k1) = false := by simp
    rw [if_neg (by simp)] at hr
    by_cases hk2 : k1 = 2
    · rw [if_pos hk2] at hr
      subst hk2
      obtain ⟨c, hc⟩ : ∃ c, cmpZ (DcD.mk ng1 hi1 lo1 sc1).val (DcD.mk ng2 hi2 lo2 sc2).val = c := ⟨_, rfl⟩
      have HV := Lib.hid (show some (decide (c < 0)) = r by rw [← hr, ← hc, cmpZ_neg])
      have HCc := Lib.hid (HCm.out rfl rfl)
      rw [hc] at HCc
      clear HCm hr hc
      go_enter Tryz.func36, Tryz.ntmps36
      go_wp2_with (first | refine mP ?_ | (refine mS ?_; clear HM; intro W1 HM) | ((with_reducible refine iat 2 ?_); refine mB ?_; clear HM; intro g2 W1 HM) | ((with_reducible refine iat 3 ?_); refine mB ?_; clear HM; intro g3 W1 HM) | (refine hal (dst := some 4) HM rfl ?_; clear HM; intro g4 W1 HM) | (go_at_call 61; (with_reducible refine cB HM (HCc.out _) ?_); clear HM; intro W1 HM) | (go_at_call 57; (with_reducible refine cB HM (HT.out _ _) ?_); clear HM; intro W1 HM))
      exact bodyPost_ret (res_box rfl HM.out 0 rfl rfl rfl) rfl ⟨by rw [← HV.out]; try rfl, HM.out.below⟩
    · rw [if_neg hk2] at hr
      have q2 : (k1 == 2) = false := by simp [hk2]
      clear HCm hk2
      by_cases hk3 : k1 = 3
      · rw [if_pos hk3] at hr
        subst hk3
        have HV := Lib.hid hr
        clear hr
        go_enter Tryz.func36, Tryz.ntmps36
        go_wp2_with (first | refine mP ?_ | (refine mS ?_; clear HM; intro W1 HM) | ((with_reducible refine iat 2 ?_); refine mB ?_; clear HM; intro g2 W1 HM) | ((with_reducible refine iat 3 ?_); refine mB ?_; clear HM; intro g3 W1 HM) | (refine hal (dst := some 4) HM rfl ?_; clear HM; intro g4 W1 HM) | (go_at_call 57; (with_reducible refine cB HM (HT.out _ _) ?_); clear HM; intro W1 HM))
        exact bodyPost_ret (res_box rfl HM.out 0 rfl rfl rfl) rfl ⟨by rw [← HV.out]; try rfl, HM.out.below⟩
      · rw [if_neg hk3] at hr
        have q3 : (k1 == 3) = false := by simp [hk3]
        clear hk3
        by_cases hk4 : k1 = 4
        · rw [if_pos hk4] at hr
          subst hk4
          have HV := Lib.hid hr
          clear hr
          go_enter Tryz.func36, Tryz.ntmps36
          go_wp2_with (first | refine mP ?_ | (refine mS ?_; clear HM; intro W1 HM) | ((with_reducible refine iat 2 ?_); refine mB ?_; clear HM; intro g2 W1 HM) | ((with_reducible refine iat 3 ?_); refine mB ?_; clear HM; intro g3 W1 HM) | (refine hal (dst := some 4) HM rfl ?_; clear HM; intro g4 W1 HM) | (go_at_call 57; (with_reducible refine cB HM (HT.out _ _) ?_); clear HM; intro W1 HM))
          exact bodyPost_ret (res_box rfl HM.out 0 rfl rfl rfl) rfl ⟨by rw [← HV.out]; try rfl, HM.out.below⟩
        · rw [if_neg hk4] at hr
          have q4 : (k1 == 4) = false := by simp [hk4]
          clear hk4
          subst hr
          go_enter Tryz.func36, Tryz.ntmps36
          go_wp2_with (first | refine mP ?_ | (refine mS ?_; clear HM; intro W1 HM) | ((with_reducible refine iat 2 ?_); refine mB ?_; clear HM; intro g2 W1 HM) | ((with_reducible refine iat 3 ?_); refine mB ?_; clear HM; intro g3 W1 HM) | (refine hal (dst := some 4) HM rfl ?_; clear HM; intro g4 W1 HM))
          exact bodyPost_ret (res_box rfl HM.out 0 rfl rfl rfl) rfl ⟨rfl, HM.out.below⟩
  · rw [if_pos hk] at hr
    subst hr
    have q1 : (k1 != k2) = true := by simp [hk]
    clear hk HCm
    go_enter Tryz.func36, Tryz.ntmps36
    go_wp2_with (first | refine mP ?_ | (refine mS ?_; clear HM; intro W1 HM) | ((with_reducible refine iat 2 ?_); refine mB ?_; clear HM; intro g2 W1 HM) | ((with_reducible refine iat 3 ?_); refine mB ?_; clear HM; intro g3 W1 HM) | (refine hal (dst := some 4) HM rfl ?_; clear HM; intro g4 W1 HM))
    exact bodyPost_ret (res_box rfl HM.out 0 rfl rfl rfl) rfl ⟨rfl, HM.out.below⟩

set_option maxHeartbeats 8000000 in
theorem rDocEqual_any (x y : VD) (cx cy : List Value) (w : World) (hx : x.at w cx) (hy : y.at w cy) (hxw : x.wf 1048576) (hyw : y.wf 1048576) : Calls Tryz.prog 10 #[.agg cx.toArray, .agg cy.toArray] w fun e w' => e = .returned (.tuple #[truV (if chkL [x, y] = 0 then VD.eq x y else none), .int .i64 (chkL [x, y])]) ∧ RowKit.Below w.heap.size w w' := by
  have HM := Lib.hid (Mem.start w)
  have HX := Lib.hid hx
  have HY := Lib.hid hy
  obtain ⟨u, hu⟩ : ∃ u, chkL [x, y] = u := ⟨_, rfl⟩
  have HCk := Lib.hid (show ∀ W, RowKit.Below w.heap.size w W → Calls Tryz.prog 32 #[.agg cx.toArray, .agg cy.toArray] W fun e w' => e = .returned (.int .i64 u) ∧ RowKit.Below W.heap.size W w' from fun W hb => by
    rw [← hu]; exact rtwo_any x y _ _ W (VD.at.below hb HX.out) (VD.at.below hb HY.out) hxw hyw)
  obtain ⟨r, hr⟩ : ∃ r, VD.eq x y = r := ⟨_, rfl⟩
  have HF := Lib.hid (show u = 0 → ∀ W, RowKit.Below w.heap.size w W → Calls Tryz.prog 33 #[.agg cx.toArray, .agg cy.toArray] W fun e w' => e = .returned (truV r) ∧ RowKit.Below W.heap.size W w' from fun h0 W hb => by
    obtain ⟨f1, f2⟩ := chk2_form (hu.trans h0)
    rw [← hr]; exact requal_any _ x y (Nat.le_refl _) _ _ W (VD.at.below hb HX.out) (VD.at.below hb HY.out) hxw hyw f1 f2)
  obtain ⟨o, ho⟩ : ∃ o, (if u = 0 then r else none) = o := ⟨_, rfl⟩
  rw [hu, hr, ho]
  clear hu hr hxw hyw
  obtain ⟨k1, y1, ⟨ng1, hi1, lo1, sc1⟩, t1, d1, l1, ns1⟩ := x
  obtain ⟨k2, y2, ⟨ng2, hi2, lo2, sc2⟩, t2, d2, l2, ns2⟩ := y
  simp only [VD.at, vcs] at hx hy
  obtain ⟨lp1, np1, lc1, nc1, ls1, rfl, -⟩ := hx
  obtain ⟨lp2, np2, lc2, nc2, ls2, rfl, -⟩ := hy
  by_cases h0 : u = 0
  · subst h0
    obtain rfl : r = o := by simpa using ho
    have HF0 := Lib.hid (HF.out rfl)
    clear ho HF
    go_enter Tryz.func10, Tryz.ntmps10
    go_wp2_with (first | refine mP ?_ | (refine mS ?_; clear HM; intro W1 HM) | ((with_reducible refine iat 2 ?_); refine mB ?_; clear HM; intro g2 W1 HM) | ((with_reducible refine iat 3 ?_); refine mB ?_; clear HM; intro g3 W1 HM) | (refine hal (dst := some 4) HM rfl ?_; clear HM; intro g4 W1 HM) | (go_at_call 32; (with_reducible refine cB HM (HCk.out _ HM.out.below) ?_); clear HM; intro W1 HM) | (go_at_call 33; (with_reducible refine cB HM (HF0.out _ HM.out.below) ?_); clear HM; intro W1 HM))
    exact bodyPost_ret (res_box_tmp rfl HM.out 0 rfl rfl rfl rfl) rfl ⟨rfl, HM.out.below⟩
  · have q : (u != 0) = true := by simp [h0]
    obtain rfl : none = o := by simpa [h0] using ho
    go_enter Tryz.func10, Tryz.ntmps10
    go_wp2_with (first | refine mP ?_ | (refine mS ?_; clear HM; intro W1 HM) | ((with_reducible refine iat 2 ?_); refine mB ?_; clear HM; intro g2 W1 HM) | ((with_reducible refine iat 3 ?_); refine mB ?_; clear HM; intro g3 W1 HM) | (refine hal (dst := some 4) HM rfl ?_; clear HM; intro g4 W1 HM) | (go_at_call 32; (with_reducible refine cB HM (HCk.out _ HM.out.below) ?_); clear HM; intro W1 HM))
    exact bodyPost_ret (res_box_tmp rfl HM.out 0 rfl rfl rfl rfl) rfl ⟨rfl, HM.out.below⟩

set_option maxHeartbeats 8000000 in
theorem rDocLess_any (x y : VD) (cx cy : List Value) (w : World) (hx : x.at w cx) (hy : y.at w cy) (hxw : x.wf 1048576) (hyw : y.wf 1048576) : Calls Tryz.prog 12 #[.agg cx.toArray, .agg cy.toArray] w fun e w' => e = .returned (.tuple #[truV (if chkL [x, y] = 0 then VD.less x y else none), .int .i64 (chkL [x, y])]) ∧ RowKit.Below w.heap.size w w' := by
  have HM := Lib.hid (Mem.start w)
  have HX := Lib.hid hx
  have HY := Lib.hid hy
  obtain ⟨u, hu⟩ : ∃ u, chkL [x, y] = u := ⟨_, rfl⟩
  have HCk := Lib.hid (show ∀ W, RowKit.Below w.heap.size w W → Calls Tryz.prog 32 #[.agg cx.toArray, .agg cy.toArray] W fun e w' => e = .returned (.int .i64 u) ∧ RowKit.Below W.heap.size W w' from fun W hb => by
    rw [← hu]; exact rtwo_any x y _ _ W (VD.at.below hb HX.out) (VD.at.below hb HY.out) hxw hyw)
  obtain ⟨r, hr⟩ : ∃ r, VD.less x y = r := ⟨_, rfl⟩
  have HF := Lib.hid (show u = 0 → ∀ W, RowKit.Below w.heap.size w W → Calls Tryz.prog 36 #[.agg cx.toArray, .agg cy.toArray] W fun e w' => e = .returned (truV r) ∧ RowKit.Below W.heap.size W w' from fun h0 W hb => by
    obtain ⟨f1, f2⟩ := chk2_form (hu.trans h0)
    rw [← hr]; exact rLess_any x y _ _ W (VD.at.below hb HX.out) (VD.at.below hb HY.out) hxw hyw f1 f2)
  obtain ⟨o, ho⟩ : ∃ o, (if u = 0 then r else none) = o := ⟨_, rfl⟩
  rw [hu, hr, ho]
  clear hu hr hxw hyw
  obtain ⟨k1, y1, ⟨ng1, hi1, lo1, sc1⟩, t1, d1, l1, ns1⟩ := x
  obtain ⟨k2, y2, ⟨ng2, hi2, lo2, sc2⟩, t2, d2, l2, ns2⟩ := y
  simp only [VD.at, vcs] at hx hy
  obtain ⟨lp1, np1, lc1, nc1, ls1, rfl, -⟩ := hx
  obtain ⟨lp2, np2, lc2, nc2, ls2, rfl, -⟩ := hy
  by_cases h0 : u = 0
  · subst h0
    obtain rfl : r = o := by simpa using ho
    have HF0 := Lib.hid (HF.out rfl)
    clear ho HF
    go_enter Tryz.func12, Tryz.ntmps12
    go_wp2_with (first | refine mP ?_ | (refine mS ?_; clear HM; intro W1 HM) | ((with_reducible refine iat 2 ?_); refine mB ?_; clear HM; intro g2 W1 HM) | ((with_reducible refine iat 3 ?_); refine mB ?_; clear HM; intro g3 W1 HM) | (refine hal (dst := some 4) HM rfl ?_; clear HM; intro g4 W1 HM) | (go_at_call 32; (with_reducible refine cB HM (HCk.out _ HM.out.below) ?_); clear HM; intro W1 HM) | (go_at_call 36; (with_reducible refine cB HM (HF0.out _ HM.out.below) ?_); clear HM; intro W1 HM))
    exact bodyPost_ret (res_box_tmp rfl HM.out 0 rfl rfl rfl rfl) rfl ⟨rfl, HM.out.below⟩
  · have q : (u != 0) = true := by simp [h0]
    obtain rfl : none = o := by simpa [h0] using ho
    go_enter Tryz.func12, Tryz.ntmps12
    go_wp2_with (first | refine mP ?_ | (refine mS ?_; clear HM; intro W1 HM) | ((with_reducible refine iat 2 ?_); refine mB ?_; clear HM; intro g2 W1 HM) | ((with_reducible refine iat 3 ?_); refine mB ?_; clear HM; intro g3 W1 HM) | (refine hal (dst := some 4) HM rfl ?_; clear HM; intro g4 W1 HM) | (go_at_call 32; (with_reducible refine cB HM (HCk.out _ HM.out.below) ?_); clear HM; intro W1 HM))
    exact bodyPost_ret (res_box_tmp rfl HM.out 0 rfl rfl rfl rfl) rfl ⟨rfl, HM.out.below⟩

set_option maxHeartbeats 16000000 in
theorem valueEquals_walk (x y : VD) (cx cy : List Value) (w : World) (hx : x.at w cx) (hy : y.at w cy) (hxw : x.wf 1048576) (hyw : y.wf 1048576) (hu : U8 w) :
    Calls Tryz.prog 3 #[.agg cx.toArray, .agg cy.toArray] w fun e w' => e = .returned (.bool true) ∧ RowKit.Below w.heap.size w w' := by
  have HM := Lib.hid (Mem.start w)
  have HX := Lib.hid hx
  have HY := Lib.hid hy
  have HU := Lib.hid hu
  obtain ⟨u, hu⟩ : ∃ u, chkL [x, y] = u := ⟨_, rfl⟩
  obtain ⟨oa, hoa⟩ : ∃ o, (if chkL [x, y] = 0 then VD.eq x y else none) = o := ⟨_, rfl⟩
  obtain ⟨ob, hob⟩ : ∃ o, (if chkL [x, y] = 0 then VD.less x y else none) = o := ⟨_, rfl⟩
  obtain ⟨ka, ya, hva⟩ := tru_vtv oa
  obtain ⟨kb, yb, hvb⟩ := tru_vtv ob
  have HPA := Lib.hid (show ∀ W, RowKit.Below w.heap.size w W → Calls Tryz.prog 11 #[.agg cx.toArray, .agg cy.toArray] W fun e w' => e = .returned (.tuple #[vtv ka ya, .int .i64 u]) ∧ RowKit.Below W.heap.size W w' from fun W hb => by
    have h := vEqual_any x y _ _ W (VD.at.below hb HX.out) (VD.at.below hb HY.out) hxw hyw (U8.below HU.out hb)
    rw [hoa, hva, hu] at h
    exact h)
  have HRA := Lib.hid (show ∀ W, RowKit.Below w.heap.size w W → Calls Tryz.prog 10 #[.agg cx.toArray, .agg cy.toArray] W fun e w' => e = .returned (.tuple #[vtv ka ya, .int .i64 u]) ∧ RowKit.Below W.heap.size W w' from fun W hb => by
    have h := rDocEqual_any x y _ _ W (VD.at.below hb HX.out) (VD.at.below hb HY.out) hxw hyw
    rw [hoa, hva, hu] at h
    exact h)
  have HPB := Lib.hid (show ∀ W, RowKit.Below w.heap.size w W → Calls Tryz.prog 13 #[.agg cx.toArray, .agg cy.toArray] W fun e w' => e = .returned (.tuple #[vtv kb yb, .int .i64 u]) ∧ RowKit.Below W.heap.size W w' from fun W hb => by
    have h := vLess_any x y _ _ W (VD.at.below hb HX.out) (VD.at.below hb HY.out) hxw hyw (U8.below HU.out hb)
    rw [hob, hvb, hu] at h
    exact h)
  have HRB := Lib.hid (show ∀ W, RowKit.Below w.heap.size w W → Calls Tryz.prog 12 #[.agg cx.toArray, .agg cy.toArray] W fun e w' => e = .returned (.tuple #[vtv kb yb, .int .i64 u]) ∧ RowKit.Below W.heap.size W w' from fun W hb => by
    have h := rDocLess_any x y _ _ W (VD.at.below hb HX.out) (VD.at.below hb HY.out) hxw hyw
    rw [hob, hvb, hu] at h
    exact h)
  have HSa := Lib.hid (fun W => (show Calls Tryz.prog 14 #[vtv ka ya, vtv ka ya] W fun e w' => e = .returned (.bool true) ∧ RowKit.Below W.heap.size W w' from by
    have h := lsame_any oa oa W
    rw [hva, decide_eq_true rfl] at h
    exact h))
  have HSb := Lib.hid (fun W => (show Calls Tryz.prog 14 #[vtv kb yb, vtv kb yb] W fun e w' => e = .returned (.bool true) ∧ RowKit.Below W.heap.size W w' from by
    have h := lsame_any ob ob W
    rw [hvb, decide_eq_true rfl] at h
    exact h))
  clear hu hoa hob hva hvb hxw hyw
  obtain ⟨k1, y1, ⟨ng1, hi1, lo1, sc1⟩, t1, d1, l1, ns1⟩ := x
  obtain ⟨k2, y2, ⟨ng2, hi2, lo2, sc2⟩, t2, d2, l2, ns2⟩ := y
  simp only [VD.at, vcs] at hx hy
  obtain ⟨lp1, np1, lc1, nc1, ls1, rfl, -⟩ := hx
  obtain ⟨lp2, np2, lc2, nc2, ls2, rfl, -⟩ := hy
  have q1 : (u == u) = true := by simp
  go_enter Tryz.func3, Tryz.ntmps3
  go_wp2_with (first | ((with_reducible refine skip_op ?_ ?_); exact rfl) | refine mP ?_ | (refine mS ?_; clear HM; intro W1 HM) | ((with_reducible refine iat 2 ?_); refine mB ?_; clear HM; intro g2 W1 HM) | ((with_reducible refine iat 3 ?_); refine mB ?_; clear HM; intro g3 W1 HM) | (refine hal (dst := some 5) HM rfl ?_; clear HM; intro g5 W1 HM) | (refine hal (dst := some 7) HM rfl ?_; clear HM; intro g7 W1 HM) | (refine hal (dst := some 9) HM rfl ?_; clear HM; intro g9 W1 HM) | (refine hal (dst := some 11) HM rfl ?_; clear HM; intro g11 W1 HM) | (go_at_call 9; (with_reducible refine cB HM (vknown_any _ (U8.below HU.out HM.out.below)) ?_); clear HM; intro W1 HM) | (go_at_call 11; (with_reducible refine cB HM (HPA.out _ HM.out.below) ?_); clear HM; intro W1 HM) | (go_at_call 13; (with_reducible refine cB HM (HPB.out _ HM.out.below) ?_); clear HM; intro W1 HM) | (go_at_call 10; (with_reducible refine cB HM (HRA.out _ HM.out.below) ?_); clear HM; intro W1 HM) | (go_at_call 12; (with_reducible refine cB HM (HRB.out _ HM.out.below) ?_); clear HM; intro W1 HM) | (go_at_call 14; first | ((with_reducible refine cB HM (HSa.out _) ?_); clear HM; intro W1 HM) | ((with_reducible refine cB HM (HSb.out _) ?_); clear HM; intro W1 HM)))
  go_ret
  exact ⟨rfl, HM.out.below⟩
end Go.Proofs.YtgobdcmoelcckaaGreatDoor
