/- Equal, Not of the program; what the laws ask first; the same of two values. (short) -/
import Derived.Test.YtgobdcmoelcckaaGreatDoorValR
import Derived.Test.YtgobdcmoelcckaaGreatDoorDecT
import Derived.Test.YtgobdcmoelcckaaGreatDoorBld
namespace Go.Proofs.YtgobdcmoelcckaaGreatDoor
open Go.RowKit
set_option linter.unusedVariables false
set_option linter.unusedSimpArgs false
set_option maxRecDepth 100000

set_option maxHeartbeats 8000000 in
theorem vEqual_any (x y : VD) (cx cy : List Value) (w : World) (hx : x.at w cx) (hy : y.at w cy) (hxw : x.wf 1048576) (hyw : y.wf 1048576) (hu : U8 w) : Calls Tryz.prog 11 #[.agg cx.toArray, .agg cy.toArray] w fun e w' => e = .returned (.tuple #[truV (if chkL [x, y] = 0 then VD.eq x y else none), .int .i64 (chkL [x, y])]) ∧ RowKit.Below w.heap.size w w' := by
  have HM := Lib.hid (Mem.start w)
  have HX := Lib.hid hx
  have HY := Lib.hid hy
  have HXw := Lib.hid hxw
  have HYw := Lib.hid hyw
  have HU := Lib.hid hu
  obtain ⟨u, hu⟩ : ∃ u, chkL [x, y] = u := ⟨_, rfl⟩
  have HCk := Lib.hid (show ∀ W g t, RowKit.Below w.heap.size w W → (Res.box g t (cx ++ cy)).holds w.heap.size W → Calls Tryz.prog 34 #[.slice (some ⟨g, 0, none⟩) 2 2] W fun e w' => e = .returned (.int .i64 u) ∧ RowKit.Below W.heap.size W w' from fun W g t hb hbox => by
    rw [← hu]
    obtain ⟨h1, h2⟩ := two_at hbox (VD.at.below hb HX.out) (VD.at.below hb HY.out)
    exact vchecks_any _ _ [x, y] _ W h1 h2 (by simp only [VD.wfL]; exact ⟨HXw.out, HYw.out, trivial⟩) (by simp) (U8.below HU.out hb))
  obtain ⟨r, hr⟩ : ∃ r, VD.eq x y = r := ⟨_, rfl⟩
  obtain ⟨o, ho⟩ : ∃ o, (if u = 0 then r else none) = o := ⟨_, rfl⟩
  rw [hu, hr, ho]
  have HEq := Lib.hid (show u = 0 → ∀ W, RowKit.Below w.heap.size w W → Calls Tryz.prog 35 #[.agg cx.toArray, .agg cy.toArray] W fun e w' => e = .returned (truV r) ∧ RowKit.Below W.heap.size W w' from fun h0 W hb => by
    obtain ⟨f1, f2⟩ := chk2_form (hu.trans h0)
    rw [← hr]; exact vequal_any _ x y (Nat.le_refl _) _ _ W (VD.at.below hb HX.out) (VD.at.below hb HY.out) HXw.out HYw.out f1 f2)
  clear hu hr
  obtain ⟨k1, y1, ⟨ng1, hi1, lo1, sc1⟩, t1, d1, l1, ns1⟩ := x
  obtain ⟨k2, y2, ⟨ng2, hi2, lo2, sc2⟩, t2, d2, l2, ns2⟩ := y
  simp only [VD.at, vcs] at hx hy
  obtain ⟨lp1, np1, lc1, nc1, ls1, rfl, -⟩ := hx
  obtain ⟨lp2, np2, lc2, nc2, ls2, rfl, -⟩ := hy
  simp only [List.cons_append, List.nil_append] at HCk
  by_cases h0 : u = 0
  · subst h0
    obtain rfl : r = o := by simpa using ho
    have HE := Lib.hid (HEq.out rfl)
    clear ho HEq
    go_enter Tryz.func11, Tryz.ntmps11
    go_wp2_with (first | refine mP ?_ | (refine mS ?_; clear HM; intro W1 HM) | (refine mL ?_; clear HM; intro g1 W1 HM) | ((with_reducible refine iat 2 ?_); refine mB ?_; clear HM; intro g2 W1 HM) | ((with_reducible refine iat 3 ?_); refine mB ?_; clear HM; intro g3 W1 HM) | (refine hal (dst := some 4) HM rfl ?_; clear HM; intro g4 W1 HM) | (refine bs2V HM rfl rfl rfl ?_; clear HM; intro g7 W1 HM) | (go_at_call 34; (with_reducible refine cB HM (HCk.out _ _ _ HM.out.below (HM.out.get (k := 0) rfl)) ?_); clear HM; intro W1 HM) | (go_at_call 35; (with_reducible refine cB HM (HE.out _ HM.out.below) ?_); clear HM; intro W1 HM))
    exact bodyPost_ret (res_box_tmp rfl HM.out 1 rfl rfl rfl rfl) rfl ⟨rfl, HM.out.below⟩
  · have q : (u != 0) = true := by simp [h0]
    obtain rfl : none = o := by simpa [h0] using ho
    clear HEq
    go_enter Tryz.func11, Tryz.ntmps11
    go_wp2_with (first | refine mP ?_ | (refine mS ?_; clear HM; intro W1 HM) | (refine mL ?_; clear HM; intro g1 W1 HM) | ((with_reducible refine iat 2 ?_); refine mB ?_; clear HM; intro g2 W1 HM) | ((with_reducible refine iat 3 ?_); refine mB ?_; clear HM; intro g3 W1 HM) | (refine hal (dst := some 4) HM rfl ?_; clear HM; intro g4 W1 HM) | (refine bs2V HM rfl rfl rfl ?_; clear HM; intro g7 W1 HM) | (go_at_call 34; (with_reducible refine cB HM (HCk.out _ _ _ HM.out.below (HM.out.get (k := 0) rfl)) ?_); clear HM; intro W1 HM))
    exact bodyPost_ret (res_box_tmp rfl HM.out 1 rfl rfl rfl rfl) rfl ⟨rfl, HM.out.below⟩

theorem chk1 (x : VD) : chkL [x] = x.check := by
  simp only [chkL]
  by_cases h : x.check = 0
  · rw [if_pos h, h]
  · rw [if_neg h]
set_option maxHeartbeats 8000000 in
theorem vNot_any (x : VD) (cx : List Value) (w : World) (hx : x.at w cx) (hxw : x.wf 1048576) (hu : U8 w) : Calls Tryz.prog 24 #[.agg cx.toArray] w fun e w' => e = .returned (.tuple #[truV (if x.check = 0 then notT x.truth else none), .int .i64 x.check]) ∧ RowKit.Below w.heap.size w w' := by
  have HM := Lib.hid (Mem.start w)
  have HX := Lib.hid hx
  have HXw := Lib.hid hxw
  have HU := Lib.hid hu
  obtain ⟨u, hu⟩ : ∃ u, x.check = u := ⟨_, rfl⟩
  have HCk := Lib.hid (show ∀ W g t, RowKit.Below w.heap.size w W → (Res.box g t cx).holds w.heap.size W → Calls Tryz.prog 34 #[.slice (some ⟨g, 0, none⟩) 1 1] W fun e w' => e = .returned (.int .i64 u) ∧ RowKit.Below W.heap.size W w' from fun W g t hb hbox => by
    rw [← hu, ← chk1]
    obtain ⟨h1, h2⟩ := sl_one hbox (VD.at.below hb HX.out)
    exact vchecks_any _ _ [x] _ W h1 h2 (by simp only [VD.wfL]; exact ⟨HXw.out, trivial⟩) (by simp) (U8.below HU.out hb))
  obtain ⟨r, hr⟩ : ∃ r, notT x.truth = r := ⟨_, rfl⟩
  obtain ⟨o, ho⟩ : ∃ o, (if u = 0 then r else none) = o := ⟨_, rfl⟩
  rw [hu, hr, ho]
  have HRr := Lib.hid hr
  obtain ⟨k1, y1, ⟨ng1, hi1, lo1, sc1⟩, t1, d1, l1, ns1⟩ := x
  simp only [VD.at, vcs] at hx
  obtain ⟨lp1, np1, lc1, nc1, ls1, rfl, -⟩ := hx
  have HT1 := Lib.hid (show ∀ W, Calls Tryz.prog 49 #[vlit k1 y1 ng1 hi1 lo1 sc1 t1 d1 lp1 l1.length lc1 np1 ns1.length nc1] W fun e w' => e = .returned (truV r) ∧ RowKit.Below W.heap.size W w' from fun W => by
    rw [← HRr.out]; exact turned_any _ _ _ _ _ _ _ _ _ _ _ _ _ _ W)
  clear hu hr
  by_cases h0 : u = 0
  · subst h0
    obtain rfl : r = o := by simpa using ho
    clear ho
    go_enter Tryz.func24, Tryz.ntmps24
    go_wp2_with (first | refine mP ?_ | (refine mS ?_; clear HM; intro W1 HM) | (refine mL ?_; clear HM; intro g1 W1 HM) | ((with_reducible refine iat 1 ?_); refine mB ?_; clear HM; intro g1 W1 HM) | (refine hal (dst := some 2) HM rfl ?_; clear HM; intro g2 W1 HM) | (go_at_call 34; (with_reducible refine cB HM (HCk.out _ _ _ HM.out.below (HM.out.get (k := 0) rfl)) ?_); clear HM; intro W1 HM) | (go_at_call 49; (with_reducible refine cB HM (HT1.out _) ?_); clear HM; intro W1 HM))
    exact bodyPost_ret (res_box_tmp rfl HM.out 1 rfl rfl rfl rfl) rfl ⟨rfl, HM.out.below⟩
  · have q : (u != 0) = true := by simp [h0]
    obtain rfl : none = o := by simpa [h0] using ho
    go_enter Tryz.func24, Tryz.ntmps24
    go_wp2_with (first | refine mP ?_ | (refine mS ?_; clear HM; intro W1 HM) | (refine mL ?_; clear HM; intro g1 W1 HM) | ((with_reducible refine iat 1 ?_); refine mB ?_; clear HM; intro g1 W1 HM) | (refine hal (dst := some 2) HM rfl ?_; clear HM; intro g2 W1 HM) | (go_at_call 34; (with_reducible refine cB HM (HCk.out _ _ _ HM.out.below (HM.out.get (k := 0) rfl)) ?_); clear HM; intro W1 HM))
    exact bodyPost_ret (res_box_tmp rfl HM.out 1 rfl rfl rfl rfl) rfl ⟨rfl, HM.out.below⟩

/-- The law's own same, of two truths. -/
theorem same_truth (o e : Option Bool) : VD.same (tvD o) (tvD e) = decide (o = e) := by
  rcases o with _ | _ | _ <;> rcases e with _ | _ | _ <;> decide +kernel
set_option maxHeartbeats 8000000 in
theorem lsame_any (o e : Option Bool) (w : World) : Calls Tryz.prog 14 #[truV o, truV e] w fun e' w' => e' = .returned (.bool (decide (o = e))) ∧ RowKit.Below w.heap.size w w' := by
  have HM := Lib.hid (Mem.start w)
  have HC1 := Lib.hid (fun W => (show Calls Tryz.prog 39 #[truV o, .int .i64 1000] W fun e w' => e = .returned (.int .i64 1) ∧ RowKit.Below W.heap.size W w' from by
    have h := rcount_any (tvD o) (tvc o) 1000 W (tvD_at o W) (tvD_wf o) (by omega)
    rw [tvD_parts] at h
    exact h))
  have HC2 := Lib.hid (fun W => (show Calls Tryz.prog 39 #[truV e, .int .i64 1000] W fun e w' => e = .returned (.int .i64 1) ∧ RowKit.Below W.heap.size W w' from by
    have h := rcount_any (tvD e) (tvc e) 1000 W (tvD_at e W) (tvD_wf e) (by omega)
    rw [tvD_parts] at h
    exact h))
  have HS := Lib.hid (fun W => (show Calls Tryz.prog 40 #[truV o, truV e] W fun e' w' => e' = .returned (.bool (decide (o = e))) ∧ RowKit.Below W.heap.size W w' from by
    have h := rSame_any _ (tvD o) (tvD e) (Nat.le_refl _) (tvc o) (tvc e) W (tvD_at o W) (tvD_at e W) (tvD_wf o) (tvD_wf e)
    rw [same_truth] at h
    exact h))
  obtain ⟨r, hr⟩ : ∃ r, decide (o = e) = r := ⟨_, rfl⟩
  rw [hr] at HS ⊢
  clear hr
  go_enter Tryz.func14, Tryz.ntmps14
  go_wp2_with (first | ((with_reducible refine skip_op ?_ ?_); exact rfl) | refine mP ?_ | ((with_reducible refine iat 2 ?_); refine mB ?_; clear HM; intro g2 W1 HM) | ((with_reducible refine iat 3 ?_); refine mB ?_; clear HM; intro g3 W1 HM) | (go_at_call 39; first | ((with_reducible refine cB HM (HC1.out _) ?_); clear HM; intro W1 HM) | ((with_reducible refine cB HM (HC2.out _) ?_); clear HM; intro W1 HM)) | (go_at_call 40; (with_reducible refine cB HM (HS.out _) ?_); clear HM; intro W1 HM))
  all_goals (go_ret; exact ⟨rfl, HM.out.below⟩)

/-- The numbers and the text of the fixed fact. -/
def knD (n : Nat) : VD := .mk 2 false ⟨false, 0, n, 0⟩ ⟨#[]⟩ 0 [] []
def knC (n : Nat) : List Value := [.int .i64 2, .bool false, .bool false, .int .u64 0, .int .u64 n, .int .i64 0, .string ⟨#[]⟩, .int .i64 0, .slice none 0 0, .slice none 0 0]
def ktD : VD := .mk 3 false ⟨false, 0, 0, 0⟩ ⟨#[49]⟩ 0 [] []
def ktC : List Value := [.int .i64 3, .bool false, .bool false, .int .u64 0, .int .u64 0, .int .i64 0, .string ⟨#[49]⟩, .int .i64 0, .slice none 0 0, .slice none 0 0]
theorem knD_at (n : Nat) (W : World) : (knD n).at W (knC n) := by
  unfold knD
  simp only [VD.at]
  exact ⟨none, none, 0, 0, [], rfl, ⟨Nat.le_refl _, Nat.le_refl _⟩, ⟨fun _ => rfl, fun a e => by cases e⟩, ⟨fun _ => rfl, fun a e => by cases e⟩, by simp only [VD.ats]⟩
theorem ktD_at (W : World) : ktD.at W ktC := by
  unfold ktD
  simp only [VD.at]
  exact ⟨none, none, 0, 0, [], rfl, ⟨Nat.le_refl _, Nat.le_refl _⟩, ⟨fun _ => rfl, fun a e => by cases e⟩, ⟨fun _ => rfl, fun a e => by cases e⟩, by simp only [VD.ats]⟩
theorem knD_wf {n : Nat} (h : n < 2 ^ 64) : (knD n).wf 1048576 := by
  unfold knD
  simp only [VD.wf, VD.wfL]
  exact ⟨by decide, h, by decide, by decide, by decide, by simp, trivial⟩
theorem ktD_wf : ktD.wf 1048576 := by
  unfold ktD
  simp only [VD.wf, VD.wfL]
  exact ⟨by decide, by decide, by decide, by decide, by decide, by simp, trivial⟩
theorem kn1 : (knD 1).check = 0 := by decide +kernel
theorem kn2 : (knD 2).check = 0 := by decide +kernel
theorem kn12 : (knD 12).check = 0 := by decide +kernel
theorem kt1 : ktD.check = 0 := by decide +kernel
theorem k_eq : VD.eq (knD 1) ktD = none := by decide +kernel
theorem k_less : VD.less (knD 1) (knD 2) = some true := by decide +kernel
theorem k_ok : (DcD.mk false 0 12 0).ok = true := by decide +kernel
theorem k_txt : txt (DcD.mk false 0 12 0).n = [49, 50] := by
  rw [txt_big (by decide), txt_small (by decide)]
  rfl

set_option maxHeartbeats 4000000 in
theorem num_any (n : Nat) (w : World) : Calls Tryz.prog 31 #[.int .u64 n] w fun e w' => e = .returned (.agg (knC n).toArray) ∧ RowKit.Below w.heap.size w w' := by
  have HM := Lib.hid (Mem.start w)
  go_enter Tryz.func31, Tryz.ntmps31
  go_wp2_with (first | (refine mS ?_; clear HM; intro W1 HM) | (refine hal (dst := some 2) HM rfl ?_; clear HM; intro g2 W1 HM))
  exact bodyPost_ret (res_box rfl HM.out 0 rfl rfl rfl) rfl ⟨rfl, HM.out.below⟩
end Go.Proofs.YtgobdcmoelcckaaGreatDoor
