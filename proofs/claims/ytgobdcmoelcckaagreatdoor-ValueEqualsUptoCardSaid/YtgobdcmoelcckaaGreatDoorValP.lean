/- Less of the program. (short) -/
import Derived.Test.YtgobdcmoelcckaaGreatDoorValI
import Derived.Test.YtgobdcmoelcckaaGreatDoorDecC
namespace Go.Proofs.YtgobdcmoelcckaaGreatDoor
open Go.RowKit
set_option linter.unusedVariables false
set_option linter.unusedSimpArgs false
set_option maxRecDepth 100000

def VD.less (x y : VD) : Option Bool := if x.k ≠ y.k then none else if x.k = 2 then some (decide (x.num.val < y.num.val)) else if x.k = 3 then some (Op.bytesLess x.text.toList y.text.toList) else if x.k = 4 then some (decide (x.day < y.day)) else none
theorem chk_form {x : VD} (h : x.check = 0) : x.form = true := by
  unfold VD.check at h
  split at h
  · cases h
  · split at h
    · cases h
    · split at h
      · assumption
      · cases h
theorem chk2_form {x y : VD} (h : chkL [x, y] = 0) : x.form = true ∧ y.form = true := by
  rw [chk2] at h
  by_cases h0 : x.check = 0
  · rw [if_pos h0] at h; exact ⟨chk_form h0, chk_form h⟩
  · rw [if_neg h0] at h; exact absurd h h0
theorem form_num {x : VD} (h : x.form = true) (hk : x.k = 2) : x.num.ok = true := by
  cases x with
  | mk k y n t d l ns =>
    simp only [VD.form, Bool.and_eq_true] at h
    have h1 := h.1
    simp only [VD.k] at hk
    subst hk
    unfold VD.own at h1
    simp only [Bool.and_eq_true] at h1
    have h2 := h1.2
    simpa [VD.k, VD.num, DcD.ok] using h2
theorem cmpZ_neg (a b : Int) : decide (cmpZ a b < 0) = decide (a < b) := by
  unfold cmpZ
  by_cases h : a < b
  · rw [if_pos h]; simp [h]
  · rw [if_neg h]
    by_cases h2 : a = b
    · rw [if_pos h2]; simp [h]
    · rw [if_neg h2]; simp [h]
theorem VD.wf_num {B : Nat} {x : VD} (h : x.wf B) : x.num.wf := by
  cases x with
  | mk k y n t d l ns => simp only [VD.wf] at h; exact ⟨h.1, h.2.1⟩

set_option maxHeartbeats 16000000 in
theorem vLess_any (x y : VD) (cx cy : List Value) (w : World) (hx : x.at w cx) (hy : y.at w cy) (hxw : x.wf 1048576) (hyw : y.wf 1048576) (hu : U8 w) : Calls Tryz.prog 13 #[.agg cx.toArray, .agg cy.toArray] w fun e w' => e = .returned (.tuple #[truV (if chkL [x, y] = 0 then VD.less x y else none), .int .i64 (chkL [x, y])]) ∧ RowKit.Below w.heap.size w w' := by
  have HM := Lib.hid (Mem.start w)
  have HX := Lib.hid hx
  have HY := Lib.hid hy
  have HXw := Lib.hid hxw
  have HYw := Lib.hid hyw
  have HU := Lib.hid hu
  obtain ⟨u, hu⟩ : ∃ u, chkL [x, y] = u := ⟨_, rfl⟩
  have HCk := Lib.hid (show ∀ W g t, RowKit.Below w.heap.size w W → (Res.box g t (cx ++ cy)).holds w.heap.size W → Calls Tryz.prog 34 #[.slice (some ⟨g, 0, none⟩) 2 2] W fun e w' => e = .returned (.int .i64 u) ∧ RowKit.Below W.heap.size W w' from fun W g t hb hbox => by
    rw [← hu]
    obtain ⟨h1, h2⟩ := two_at hbox (VD.at.below hb HX.out) (VD.at.below hb HY.out)
    exact vchecks_any _ _ [x, y] _ W h1 h2 (by simp only [VD.wfL]; exact ⟨HXw.out, HYw.out, trivial⟩) (by simp) (U8.below HU.out hb))
  have HCm := Lib.hid (show u = 0 → x.k = 2 → y.k = 2 → ∀ W, Calls Tryz.prog 37 #[.agg x.num.cs.toArray, .agg y.num.cs.toArray] W fun e w' => e = .returned (.tuple #[.int .i64 (cmpZ x.num.val y.num.val), .int .i64 0]) ∧ RowKit.Below W.heap.size W w' from fun h0 h1 h2 W => by
    obtain ⟨f1, f2⟩ := chk2_form (hu.trans h0)
    exact dCmp_any x.num y.num W (form_num f1 h1) (form_num f2 h2) (VD.wf_num HXw.out) (VD.wf_num HYw.out))
  have HT := Lib.hid (fun b W => truth_any b W)
  obtain ⟨r, hr⟩ : ∃ r, VD.less x y = r := ⟨_, rfl⟩
  obtain ⟨o, ho⟩ : ∃ o, (if u = 0 then r else none) = o := ⟨_, rfl⟩
  rw [hu, hr, ho]
  obtain ⟨k1, y1, ⟨ng1, hi1, lo1, sc1⟩, t1, d1, l1, ns1⟩ := x
  obtain ⟨k2, y2, ⟨ng2, hi2, lo2, sc2⟩, t2, d2, l2, ns2⟩ := y
  simp only [VD.at, vcs] at hx hy
  obtain ⟨lp1, np1, lc1, nc1, ls1, rfl, -⟩ := hx
  obtain ⟨lp2, np2, lc2, nc2, ls2, rfl, -⟩ := hy
  simp only [List.cons_append, List.nil_append] at HCk
  replace hr : (if k1 ≠ k2 then (none : Option Bool) else if k1 = 2 then some (decide ((DcD.mk ng1 hi1 lo1 sc1).val < (DcD.mk ng2 hi2 lo2 sc2).val)) else if k1 = 3 then some (Op.bytesLess t1.toList t2.toList) else if k1 = 4 then some (decide (d1 < d2)) else none) = r := hr
  simp only [VD.k, VD.num, DcD.cs] at HCm
  by_cases h0 : u = 0
  · subst h0
    obtain rfl : r = o := by simpa using ho
    clear ho hu
    by_cases hk : k1 = k2
    · subst hk
      rw [if_neg (by simp)] at hr
      by_cases hk2 : k1 = 2
      · rw [if_pos hk2] at hr
        subst hk2
        obtain ⟨c, hc⟩ : ∃ c, cmpZ (DcD.mk ng1 hi1 lo1 sc1).val (DcD.mk ng2 hi2 lo2 sc2).val = c := ⟨_, rfl⟩
        have HV := Lib.hid (show some (decide (c < 0)) = r by rw [← hr, ← hc, cmpZ_neg])
        have HCc := Lib.hid (HCm.out rfl rfl rfl)
        rw [hc] at HCc
        clear HCm hr hc
        go_enter Tryz.func13, Tryz.ntmps13
        go_wp2_with (first | refine mP ?_ | (refine mS ?_; clear HM; intro W1 HM) | (refine mL ?_; clear HM; intro g1 W1 HM) | ((with_reducible refine iat 2 ?_); refine mB ?_; clear HM; intro g2 W1 HM) | ((with_reducible refine iat 3 ?_); refine mB ?_; clear HM; intro g3 W1 HM) | (refine hal (dst := some 4) HM rfl ?_; clear HM; intro g4 W1 HM) | (refine bs2V HM rfl rfl rfl ?_; clear HM; intro g7 W1 HM) | (go_at_call 34; (with_reducible refine cB HM (HCk.out _ _ _ HM.out.below (HM.out.get (k := 0) rfl)) ?_); clear HM; intro W1 HM) | (go_at_call 37; (with_reducible refine cB HM (HCc.out _) ?_); clear HM; intro W1 HM) | (go_at_call 38; (with_reducible refine cB HM (HT.out _ _) ?_); clear HM; intro W1 HM))
        exact bodyPost_ret (res_box_tmp rfl HM.out 1 rfl rfl rfl rfl) rfl ⟨by rw [← HV.out]; rfl, HM.out.below⟩
      · rw [if_neg hk2] at hr
        have q2 : (k1 == 2) = false := by simp [hk2]
        clear HCm hk2
        by_cases hk3 : k1 = 3
        · rw [if_pos hk3] at hr
          subst hk3
          have HV := Lib.hid hr
          clear hr
          go_enter Tryz.func13, Tryz.ntmps13
          go_wp2_with (first | refine mP ?_ | (refine mS ?_; clear HM; intro W1 HM) | (refine mL ?_; clear HM; intro g1 W1 HM) | ((with_reducible refine iat 2 ?_); refine mB ?_; clear HM; intro g2 W1 HM) | ((with_reducible refine iat 3 ?_); refine mB ?_; clear HM; intro g3 W1 HM) | (refine hal (dst := some 4) HM rfl ?_; clear HM; intro g4 W1 HM) | (refine bs2V HM rfl rfl rfl ?_; clear HM; intro g7 W1 HM) | (go_at_call 34; (with_reducible refine cB HM (HCk.out _ _ _ HM.out.below (HM.out.get (k := 0) rfl)) ?_); clear HM; intro W1 HM) | (go_at_call 38; (with_reducible refine cB HM (HT.out _ _) ?_); clear HM; intro W1 HM))
          exact bodyPost_ret (res_box_tmp rfl HM.out 1 rfl rfl rfl rfl) rfl ⟨by rw [← HV.out]; rfl, HM.out.below⟩
        · rw [if_neg hk3] at hr
          have q3 : (k1 == 3) = false := by simp [hk3]
          clear hk3
          by_cases hk4 : k1 = 4
          · rw [if_pos hk4] at hr
            subst hk4
            have HV := Lib.hid hr
            clear hr
            go_enter Tryz.func13, Tryz.ntmps13
            go_wp2_with (first | refine mP ?_ | (refine mS ?_; clear HM; intro W1 HM) | (refine mL ?_; clear HM; intro g1 W1 HM) | ((with_reducible refine iat 2 ?_); refine mB ?_; clear HM; intro g2 W1 HM) | ((with_reducible refine iat 3 ?_); refine mB ?_; clear HM; intro g3 W1 HM) | (refine hal (dst := some 4) HM rfl ?_; clear HM; intro g4 W1 HM) | (refine bs2V HM rfl rfl rfl ?_; clear HM; intro g7 W1 HM) | (go_at_call 34; (with_reducible refine cB HM (HCk.out _ _ _ HM.out.below (HM.out.get (k := 0) rfl)) ?_); clear HM; intro W1 HM) | (go_at_call 38; (with_reducible refine cB HM (HT.out _ _) ?_); clear HM; intro W1 HM))
            exact bodyPost_ret (res_box_tmp rfl HM.out 1 rfl rfl rfl rfl) rfl ⟨by rw [← HV.out]; rfl, HM.out.below⟩
          · rw [if_neg hk4] at hr
            have q4 : (k1 == 4) = false := by simp [hk4]
            clear hk4
            subst hr
            go_enter Tryz.func13, Tryz.ntmps13
            go_wp2_with (first | refine mP ?_ | (refine mS ?_; clear HM; intro W1 HM) | (refine mL ?_; clear HM; intro g1 W1 HM) | ((with_reducible refine iat 2 ?_); refine mB ?_; clear HM; intro g2 W1 HM) | ((with_reducible refine iat 3 ?_); refine mB ?_; clear HM; intro g3 W1 HM) | (refine hal (dst := some 4) HM rfl ?_; clear HM; intro g4 W1 HM) | (refine bs2V HM rfl rfl rfl ?_; clear HM; intro g7 W1 HM) | (go_at_call 34; (with_reducible refine cB HM (HCk.out _ _ _ HM.out.below (HM.out.get (k := 0) rfl)) ?_); clear HM; intro W1 HM))
            exact bodyPost_ret (res_box_tmp rfl HM.out 1 rfl rfl rfl rfl) rfl ⟨rfl, HM.out.below⟩
    · rw [if_pos hk] at hr
      subst hr
      have q1 : (k1 != k2) = true := by simp [hk]
      clear hk HCm
      go_enter Tryz.func13, Tryz.ntmps13
      go_wp2_with (first | refine mP ?_ | (refine mS ?_; clear HM; intro W1 HM) | (refine mL ?_; clear HM; intro g1 W1 HM) | ((with_reducible refine iat 2 ?_); refine mB ?_; clear HM; intro g2 W1 HM) | ((with_reducible refine iat 3 ?_); refine mB ?_; clear HM; intro g3 W1 HM) | (refine hal (dst := some 4) HM rfl ?_; clear HM; intro g4 W1 HM) | (refine bs2V HM rfl rfl rfl ?_; clear HM; intro g7 W1 HM) | (go_at_call 34; (with_reducible refine cB HM (HCk.out _ _ _ HM.out.below (HM.out.get (k := 0) rfl)) ?_); clear HM; intro W1 HM))
      exact bodyPost_ret (res_box_tmp rfl HM.out 1 rfl rfl rfl rfl) rfl ⟨rfl, HM.out.below⟩
  · have q : (u != 0) = true := by simp [h0]
    obtain rfl : none = o := by simpa [h0] using ho
    clear hr hu HCm
    go_enter Tryz.func13, Tryz.ntmps13
    go_wp2_with (first | refine mP ?_ | (refine mS ?_; clear HM; intro W1 HM) | (refine mL ?_; clear HM; intro g1 W1 HM) | ((with_reducible refine iat 2 ?_); refine mB ?_; clear HM; intro g2 W1 HM) | ((with_reducible refine iat 3 ?_); refine mB ?_; clear HM; intro g3 W1 HM) | (refine hal (dst := some 4) HM rfl ?_; clear HM; intro g4 W1 HM) | (refine bs2V HM rfl rfl rfl ?_; clear HM; intro g7 W1 HM) | (go_at_call 34; (with_reducible refine cB HM (HCk.out _ _ _ HM.out.below (HM.out.get (k := 0) rfl)) ?_); clear HM; intro W1 HM))
    exact bodyPost_ret (res_box_tmp rfl HM.out 1 rfl rfl rfl rfl) rfl ⟨rfl, HM.out.below⟩
end Go.Proofs.YtgobdcmoelcckaaGreatDoor
