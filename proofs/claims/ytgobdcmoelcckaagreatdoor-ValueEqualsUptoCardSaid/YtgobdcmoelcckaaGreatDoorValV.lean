/- And, Or, Not of the reference and their calls; ValueTruths: the law's walk. (short) -/
import Derived.Test.YtgobdcmoelcckaaGreatDoorValU
import Derived.Test.YtgobdcmoelcckaaGreatDoorValJ
namespace Go.Proofs.YtgobdcmoelcckaaGreatDoor
open Go.RowKit
set_option linter.unusedVariables false
set_option linter.unusedSimpArgs false
set_option maxRecDepth 100000

set_option maxHeartbeats 8000000 in
theorem rtwo_any (x y : VD) (cx cy : List Value) (w : World) (hx : x.at w cx) (hy : y.at w cy) (hxw : x.wf 1048576) (hyw : y.wf 1048576) : Calls Tryz.prog 32 #[.agg cx.toArray, .agg cy.toArray] w fun e w' => e = .returned (.int .i64 (chkL [x, y])) ∧ RowKit.Below w.heap.size w w' := by
  have HM := Lib.hid (Mem.start w)
  have HX := Lib.hid hx
  have HY := Lib.hid hy
  have HXw := Lib.hid hxw
  have HYw := Lib.hid hyw
  obtain ⟨u, hu⟩ : ∃ u, x.check = u := ⟨_, rfl⟩
  obtain ⟨v, hv⟩ : ∃ u, y.check = u := ⟨_, rfl⟩
  rw [chk2, hu, hv]
  have HC1 := Lib.hid (show ∀ W, RowKit.Below w.heap.size w W → Calls Tryz.prog 16 #[.agg cx.toArray] W fun e w' => e = .returned (.int .i64 u) ∧ RowKit.Below W.heap.size W w' from fun W hb => by
    rw [← hu]; exact rvCheck_any x _ W (VD.at.below hb HX.out) HXw.out)
  have HC2 := Lib.hid (show ∀ W, RowKit.Below w.heap.size w W → Calls Tryz.prog 16 #[.agg cy.toArray] W fun e w' => e = .returned (.int .i64 v) ∧ RowKit.Below W.heap.size W w' from fun W hb => by
    rw [← hv]; exact rvCheck_any y _ W (VD.at.below hb HY.out) HYw.out)
  clear hu hv
  obtain ⟨k1, y1, ⟨ng1, hi1, lo1, sc1⟩, t1, d1, l1, ns1⟩ := x
  obtain ⟨k2, y2, ⟨ng2, hi2, lo2, sc2⟩, t2, d2, l2, ns2⟩ := y
  simp only [VD.at, vcs] at hx hy
  obtain ⟨lp1, np1, lc1, nc1, ls1, rfl, -⟩ := hx
  obtain ⟨lp2, np2, lc2, nc2, ls2, rfl, -⟩ := hy
  by_cases h0 : u = 0
  · subst h0
    go_enter Tryz.func32, Tryz.ntmps32
    go_wp2_with (first | refine mP ?_ | ((with_reducible refine iat 2 ?_); refine mB ?_; clear HM; intro g2 W1 HM) | ((with_reducible refine iat 3 ?_); refine mB ?_; clear HM; intro g3 W1 HM) | (go_at_call 16; first | ((with_reducible refine cB HM (HC1.out _ HM.out.below) ?_); clear HM; intro W1 HM) | ((with_reducible refine cB HM (HC2.out _ HM.out.below) ?_); clear HM; intro W1 HM)))
    go_ret
    exact ⟨by simp, HM.out.below⟩
  · have q : (u == 0) = false := by simp [h0]
    go_enter Tryz.func32, Tryz.ntmps32
    go_wp2_with (first | refine mP ?_ | ((with_reducible refine iat 2 ?_); refine mB ?_; clear HM; intro g2 W1 HM) | ((with_reducible refine iat 3 ?_); refine mB ?_; clear HM; intro g3 W1 HM) | (go_at_call 16; first | ((with_reducible refine cB HM (HC1.out _ HM.out.below) ?_); clear HM; intro W1 HM) | ((with_reducible refine cB HM (HC2.out _ HM.out.below) ?_); clear HM; intro W1 HM)))
    go_ret
    exact ⟨by simp [h0], HM.out.below⟩

set_option maxHeartbeats 8000000 in
theorem rAnd_any (x y : VD) (cx cy : List Value) (w : World) (hx : x.at w cx) (hy : y.at w cy) : Calls Tryz.prog 46 #[.agg cx.toArray, .agg cy.toArray] w fun e w' => e = .returned (truV (bothT x.truth y.truth)) ∧ RowKit.Below w.heap.size w w' := by
  have HM := Lib.hid (Mem.start w)
  have HX := Lib.hid hx
  have HY := Lib.hid hy
  obtain ⟨r, hr⟩ : ∃ r, bothT x.truth y.truth = r := ⟨_, rfl⟩
  rw [hr]
  have HA := Lib.hid (show ∀ W g t, RowKit.Below w.heap.size w W → (Res.box g t (cx ++ cy)).holds w.heap.size W → Calls Tryz.prog 59 #[.slice (some ⟨g, 0, none⟩) 2 2] W fun e w' => e = .returned (truV r) ∧ RowKit.Below W.heap.size W w' from fun W g t hb hbox => by
    obtain ⟨h1, h2⟩ := two_at hbox (VD.at.below hb HX.out) (VD.at.below hb HY.out)
    have h := rall_any _ 2 [x, y] _ W h1 h2 (by simp)
    have e : allT ([x, y].map VD.truth) = r := by rw [← hr]; simp [allT, bothT_true']
    rw [e] at h
    exact h)
  clear hr
  obtain ⟨k1, y1, ⟨ng1, hi1, lo1, sc1⟩, t1, d1, l1, ns1⟩ := x
  obtain ⟨k2, y2, ⟨ng2, hi2, lo2, sc2⟩, t2, d2, l2, ns2⟩ := y
  simp only [VD.at, vcs] at hx hy
  obtain ⟨lp1, np1, lc1, nc1, ls1, rfl, -⟩ := hx
  obtain ⟨lp2, np2, lc2, nc2, ls2, rfl, -⟩ := hy
  simp only [List.cons_append, List.nil_append] at HA
  go_enter Tryz.func46, Tryz.ntmps46
  go_wp2_with (first | refine mP ?_ | (refine mS ?_; clear HM; intro W1 HM) | (refine mL ?_; clear HM; intro g1 W1 HM) | ((with_reducible refine iat 2 ?_); refine mB ?_; clear HM; intro g2 W1 HM) | ((with_reducible refine iat 3 ?_); refine mB ?_; clear HM; intro g3 W1 HM) | (refine hal (dst := some 4) HM rfl ?_; clear HM; intro g4 W1 HM) | (refine bs2V HM rfl rfl rfl ?_; clear HM; intro g7 W1 HM) | (go_at_call 59; (with_reducible refine cB HM (HA.out _ _ _ HM.out.below (HM.out.get (k := 0) rfl)) ?_); clear HM; intro W1 HM))
  exact bodyPost_ret (res_box rfl HM.out 1 rfl rfl rfl) rfl ⟨rfl, HM.out.below⟩

theorem rNot_tru (o : Option Bool) (W : World) : Calls Tryz.prog 50 #[truV o] W fun e w' => e = .returned (truV (notT o)) ∧ RowKit.Below W.heap.size W w' := by
  have h := rNot_any (if o.isSome then 1 else 0) (o.getD false) false 0 0 0 ⟨#[]⟩ 0 none 0 0 none 0 0 W
  rw [tOf_tru] at h
  exact h
theorem rAnd_tru (o e : Option Bool) (W : World) : Calls Tryz.prog 46 #[truV o, truV e] W fun e' w' => e' = .returned (truV (bothT o e)) ∧ RowKit.Below W.heap.size W w' := by
  have h := rAnd_any (tvD o) (tvD e) (tvc o) (tvc e) W (tvD_at o W) (tvD_at e W)
  rw [tvD_truth, tvD_truth] at h
  exact h

set_option maxHeartbeats 8000000 in
theorem rOr_any (x y : VD) (cx cy : List Value) (w : World) (hx : x.at w cx) (hy : y.at w cy) : Calls Tryz.prog 48 #[.agg cx.toArray, .agg cy.toArray] w fun e w' => e = .returned (truV (notT (bothT (notT x.truth) (notT y.truth)))) ∧ RowKit.Below w.heap.size w w' := by
  have HM := Lib.hid (Mem.start w)
  obtain ⟨k1, y1, ⟨ng1, hi1, lo1, sc1⟩, t1, d1, l1, ns1⟩ := x
  obtain ⟨k2, y2, ⟨ng2, hi2, lo2, sc2⟩, t2, d2, l2, ns2⟩ := y
  simp only [VD.at, vcs] at hx hy
  obtain ⟨lp1, np1, lc1, nc1, ls1, rfl, -⟩ := hx
  obtain ⟨lp2, np2, lc2, nc2, ls2, rfl, -⟩ := hy
  rw [truth_tOf, truth_tOf]
  simp only [VD.k, VD.yes]
  obtain ⟨o1, ho1⟩ : ∃ o, notT (tOf k1 y1) = o := ⟨_, rfl⟩
  obtain ⟨o2, ho2⟩ : ∃ o, notT (tOf k2 y2) = o := ⟨_, rfl⟩
  obtain ⟨o3, ho3⟩ : ∃ o, bothT o1 o2 = o := ⟨_, rfl⟩
  obtain ⟨r, ho4⟩ : ∃ r, notT o3 = r := ⟨_, rfl⟩
  rw [ho1, ho2, ho3, ho4]
  have HT1 := Lib.hid (show ∀ W, Calls Tryz.prog 50 #[vlit k1 y1 ng1 hi1 lo1 sc1 t1 d1 lp1 l1.length lc1 np1 ns1.length nc1] W fun e w' => e = .returned (truV o1) ∧ RowKit.Below W.heap.size W w' from fun W => by
    rw [← ho1]; exact rNot_any _ _ _ _ _ _ _ _ _ _ _ _ _ _ W)
  have HT2 := Lib.hid (show ∀ W, Calls Tryz.prog 50 #[vlit k2 y2 ng2 hi2 lo2 sc2 t2 d2 lp2 l2.length lc2 np2 ns2.length nc2] W fun e w' => e = .returned (truV o2) ∧ RowKit.Below W.heap.size W w' from fun W => by
    rw [← ho2]; exact rNot_any _ _ _ _ _ _ _ _ _ _ _ _ _ _ W)
  have HBo := Lib.hid (fun W => ho3 ▸ rAnd_tru o1 o2 W)
  have HT3 := Lib.hid (fun W => ho4 ▸ rNot_tru o3 W)
  clear ho1 ho2 ho3 ho4
  go_enter Tryz.func48, Tryz.ntmps48
  go_wp2_with (first | refine mP ?_ | (refine mS ?_; clear HM; intro W1 HM) | ((with_reducible refine iat 2 ?_); refine mB ?_; clear HM; intro g2 W1 HM) | ((with_reducible refine iat 3 ?_); refine mB ?_; clear HM; intro g3 W1 HM) | (refine hal (dst := some 4) HM rfl ?_; clear HM; intro g4 W1 HM))
  refine wp_region_steps2 [(true, 0), (true, 2), (false, 1), (false, 3), (false, 4), (false, 5), (false, 6)] (by kernel_rfl) (by kernel_rfl) rfl (by kernel_rfl) (fun _ _ _ _ _ h => h) HM.out _ (.cons _ (.cons_cons _ (.cons_cons _ .slnil))) ?_
  intro hNE W1 HM1; replace HM := Lib.hid HM1; clear HM1
  have HS0 := Lib.hid (HM.out.sub (.cons _ (.cons_cons _ (.cons_cons _ .slnil))))
  simp only [wpSteps, List.getElem?_cons_succ, List.getElem?_cons_zero]
  (repeat (first | ((with_reducible refine wpQuiet_nil ?_); (try dsimp only)) | refine mQ ?_ | go_big_quiet_step (fail) | quiet_step (fail)))
  go_wp2_with (first | (go_at_call 50; first | ((with_reducible refine cB HM (HT1.out _) ?_); clear HM; intro W1 HM) | ((with_reducible refine cB HM (HT2.out _) ?_); clear HM; intro W1 HM) | ((with_reducible refine cB HM (HT3.out _) ?_); clear HM; intro W1 HM)))
  refine ⟨⟨⟨_, HM.out.sub (by repeat (first | exact List.nil_sublist _ | with_reducible refine List.Sublist.cons_cons _ ?_ | refine List.Sublist.cons _ ?_))⟩, rfl⟩, ?_⟩
  (try dsimp only)
  go_wp2_with (first | (go_at_call 50; first | ((with_reducible refine cB HM (HT1.out _) ?_); clear HM; intro W1 HM) | ((with_reducible refine cB HM (HT2.out _) ?_); clear HM; intro W1 HM) | ((with_reducible refine cB HM (HT3.out _) ?_); clear HM; intro W1 HM)))
  refine ⟨⟨⟨_, HM.out.sub (by repeat (first | exact List.nil_sublist _ | with_reducible refine List.Sublist.cons_cons _ ?_ | refine List.Sublist.cons _ ?_))⟩, rfl⟩, ?_⟩
  (try dsimp only)
  go_wp2_with (first | (go_at_call 46; (with_reducible refine cB HM (HBo.out _) ?_); clear HM; intro W1 HM))
  refine ⟨⟨⟨_, HM.out.sub (by repeat (first | exact List.nil_sublist _ | with_reducible refine List.Sublist.cons_cons _ ?_ | refine List.Sublist.cons _ ?_))⟩, rfl⟩, ?_⟩
  (try dsimp only)
  go_wp2_with (first | (go_at_call 50; first | ((with_reducible refine cB HM (HT1.out _) ?_); clear HM; intro W1 HM) | ((with_reducible refine cB HM (HT2.out _) ?_); clear HM; intro W1 HM) | ((with_reducible refine cB HM (HT3.out _) ?_); clear HM; intro W1 HM)))
  refine ⟨⟨⟨_, HM.out.sub (by repeat (first | exact List.nil_sublist _ | with_reducible refine List.Sublist.cons_cons _ ?_ | refine List.Sublist.cons _ ?_))⟩, rfl⟩, ?_⟩
  (try dsimp only)
  go_wp2_with (first | (refine mS ?_; clear HM; intro W1 HM))
  refine ⟨⟨⟨_, HM.out.sub (by repeat (first | exact List.nil_sublist _ | with_reducible refine List.Sublist.cons_cons _ ?_ | refine List.Sublist.cons _ ?_))⟩, rfl⟩, ?_⟩
  (try dsimp only)
  clear HS0 hNE
  go_wp2_with fail
  exact bodyPost_ret (res_box rfl HM.out 0 rfl rfl rfl) rfl ⟨rfl, HM.out.below⟩

set_option maxHeartbeats 8000000 in
theorem rDocAnd_any (x y : VD) (cx cy : List Value) (w : World) (hx : x.at w cx) (hy : y.at w cy) (hxw : x.wf 1048576) (hyw : y.wf 1048576) : Calls Tryz.prog 19 #[.agg cx.toArray, .agg cy.toArray] w fun e w' => e = .returned (.tuple #[truV (if chkL [x, y] = 0 then bothT x.truth y.truth else none), .int .i64 (chkL [x, y])]) ∧ RowKit.Below w.heap.size w w' := by
  have HM := Lib.hid (Mem.start w)
  have HX := Lib.hid hx
  have HY := Lib.hid hy
  obtain ⟨u, hu⟩ : ∃ u, chkL [x, y] = u := ⟨_, rfl⟩
  have HCk := Lib.hid (show ∀ W, RowKit.Below w.heap.size w W → Calls Tryz.prog 32 #[.agg cx.toArray, .agg cy.toArray] W fun e w' => e = .returned (.int .i64 u) ∧ RowKit.Below W.heap.size W w' from fun W hb => by
    rw [← hu]; exact rtwo_any x y _ _ W (VD.at.below hb HX.out) (VD.at.below hb HY.out) hxw hyw)
  obtain ⟨r, hr⟩ : ∃ r, bothT x.truth y.truth = r := ⟨_, rfl⟩
  have HF := Lib.hid (show ∀ W, RowKit.Below w.heap.size w W → Calls Tryz.prog 46 #[.agg cx.toArray, .agg cy.toArray] W fun e w' => e = .returned (truV r) ∧ RowKit.Below W.heap.size W w' from fun W hb => by
    rw [← hr]; exact rAnd_any x y _ _ W (VD.at.below hb HX.out) (VD.at.below hb HY.out))
  obtain ⟨o, ho⟩ : ∃ o, (if u = 0 then r else none) = o := ⟨_, rfl⟩
  rw [hu, hr, ho]
  clear hu hr hxw hyw
  obtain ⟨k1, y1, ⟨ng1, hi1, lo1, sc1⟩, t1, d1, l1, ns1⟩ := x
  obtain ⟨k2, y2, ⟨ng2, hi2, lo2, sc2⟩, t2, d2, l2, ns2⟩ := y
  simp only [VD.at, vcs] at hx hy
  obtain ⟨lp1, np1, lc1, nc1, ls1, rfl, -⟩ := hx
  obtain ⟨lp2, np2, lc2, nc2, ls2, rfl, -⟩ := hy
  by_cases h0 : u = 0
  · subst h0
    obtain rfl : r = o := by simpa using ho
    clear ho
    go_enter Tryz.func19, Tryz.ntmps19
    go_wp2_with (first | refine mP ?_ | (refine mS ?_; clear HM; intro W1 HM) | ((with_reducible refine iat 2 ?_); refine mB ?_; clear HM; intro g2 W1 HM) | ((with_reducible refine iat 3 ?_); refine mB ?_; clear HM; intro g3 W1 HM) | (refine hal (dst := some 4) HM rfl ?_; clear HM; intro g4 W1 HM) | (go_at_call 32; (with_reducible refine cB HM (HCk.out _ HM.out.below) ?_); clear HM; intro W1 HM) | (go_at_call 46; (with_reducible refine cB HM (HF.out _ HM.out.below) ?_); clear HM; intro W1 HM))
    exact bodyPost_ret (res_box_tmp rfl HM.out 0 rfl rfl rfl rfl) rfl ⟨rfl, HM.out.below⟩
  · have q : (u != 0) = true := by simp [h0]
    obtain rfl : none = o := by simpa [h0] using ho
    go_enter Tryz.func19, Tryz.ntmps19
    go_wp2_with (first | refine mP ?_ | (refine mS ?_; clear HM; intro W1 HM) | ((with_reducible refine iat 2 ?_); refine mB ?_; clear HM; intro g2 W1 HM) | ((with_reducible refine iat 3 ?_); refine mB ?_; clear HM; intro g3 W1 HM) | (refine hal (dst := some 4) HM rfl ?_; clear HM; intro g4 W1 HM) | (go_at_call 32; (with_reducible refine cB HM (HCk.out _ HM.out.below) ?_); clear HM; intro W1 HM))
    exact bodyPost_ret (res_box_tmp rfl HM.out 0 rfl rfl rfl rfl) rfl ⟨rfl, HM.out.below⟩

set_option maxHeartbeats 8000000 in
theorem rDocOr_any (x y : VD) (cx cy : List Value) (w : World) (hx : x.at w cx) (hy : y.at w cy) (hxw : x.wf 1048576) (hyw : y.wf 1048576) : Calls Tryz.prog 21 #[.agg cx.toArray, .agg cy.toArray] w fun e w' => e = .returned (.tuple #[truV (if chkL [x, y] = 0 then notT (bothT (notT x.truth) (notT y.truth)) else none), .int .i64 (chkL [x, y])]) ∧ RowKit.Below w.heap.size w w' := by
  have HM := Lib.hid (Mem.start w)
  have HX := Lib.hid hx
  have HY := Lib.hid hy
  obtain ⟨u, hu⟩ : ∃ u, chkL [x, y] = u := ⟨_, rfl⟩
  have HCk := Lib.hid (show ∀ W, RowKit.Below w.heap.size w W → Calls Tryz.prog 32 #[.agg cx.toArray, .agg cy.toArray] W fun e w' => e = .returned (.int .i64 u) ∧ RowKit.Below W.heap.size W w' from fun W hb => by
    rw [← hu]; exact rtwo_any x y _ _ W (VD.at.below hb HX.out) (VD.at.below hb HY.out) hxw hyw)
  obtain ⟨r, hr⟩ : ∃ r, notT (bothT (notT x.truth) (notT y.truth)) = r := ⟨_, rfl⟩
  have HF := Lib.hid (show ∀ W, RowKit.Below w.heap.size w W → Calls Tryz.prog 48 #[.agg cx.toArray, .agg cy.toArray] W fun e w' => e = .returned (truV r) ∧ RowKit.Below W.heap.size W w' from fun W hb => by
    rw [← hr]; exact rOr_any x y _ _ W (VD.at.below hb HX.out) (VD.at.below hb HY.out))
  obtain ⟨o, ho⟩ : ∃ o, (if u = 0 then r else none) = o := ⟨_, rfl⟩
  rw [hu, hr, ho]
  clear hu hr hxw hyw
  obtain ⟨k1, y1, ⟨ng1, hi1, lo1, sc1⟩, t1, d1, l1, ns1⟩ := x
  obtain ⟨k2, y2, ⟨ng2, hi2, lo2, sc2⟩, t2, d2, l2, ns2⟩ := y
  simp only [VD.at, vcs] at hx hy
  obtain ⟨lp1, np1, lc1, nc1, ls1, rfl, -⟩ := hx
  obtain ⟨lp2, np2, lc2, nc2, ls2, rfl, -⟩ := hy
  by_cases h0 : u = 0
  · subst h0
    obtain rfl : r = o := by simpa using ho
    clear ho
    go_enter Tryz.func21, Tryz.ntmps21
    go_wp2_with (first | refine mP ?_ | (refine mS ?_; clear HM; intro W1 HM) | ((with_reducible refine iat 2 ?_); refine mB ?_; clear HM; intro g2 W1 HM) | ((with_reducible refine iat 3 ?_); refine mB ?_; clear HM; intro g3 W1 HM) | (refine hal (dst := some 4) HM rfl ?_; clear HM; intro g4 W1 HM) | (go_at_call 32; (with_reducible refine cB HM (HCk.out _ HM.out.below) ?_); clear HM; intro W1 HM) | (go_at_call 48; (with_reducible refine cB HM (HF.out _ HM.out.below) ?_); clear HM; intro W1 HM))
    exact bodyPost_ret (res_box_tmp rfl HM.out 0 rfl rfl rfl rfl) rfl ⟨rfl, HM.out.below⟩
  · have q : (u != 0) = true := by simp [h0]
    obtain rfl : none = o := by simpa [h0] using ho
    go_enter Tryz.func21, Tryz.ntmps21
    go_wp2_with (first | refine mP ?_ | (refine mS ?_; clear HM; intro W1 HM) | ((with_reducible refine iat 2 ?_); refine mB ?_; clear HM; intro g2 W1 HM) | ((with_reducible refine iat 3 ?_); refine mB ?_; clear HM; intro g3 W1 HM) | (refine hal (dst := some 4) HM rfl ?_; clear HM; intro g4 W1 HM) | (go_at_call 32; (with_reducible refine cB HM (HCk.out _ HM.out.below) ?_); clear HM; intro W1 HM))
    exact bodyPost_ret (res_box_tmp rfl HM.out 0 rfl rfl rfl rfl) rfl ⟨rfl, HM.out.below⟩

set_option maxHeartbeats 8000000 in
theorem rDocNot_any (x : VD) (cx : List Value) (w : World) (hx : x.at w cx) (hxw : x.wf 1048576) : Calls Tryz.prog 23 #[.agg cx.toArray] w fun e w' => e = .returned (.tuple #[truV (if x.check = 0 then notT x.truth else none), .int .i64 x.check]) ∧ RowKit.Below w.heap.size w w' := by
  have HM := Lib.hid (Mem.start w)
  have HX := Lib.hid hx
  obtain ⟨u, hu⟩ : ∃ u, x.check = u := ⟨_, rfl⟩
  have HCk := Lib.hid (show ∀ W, RowKit.Below w.heap.size w W → Calls Tryz.prog 16 #[.agg cx.toArray] W fun e w' => e = .returned (.int .i64 u) ∧ RowKit.Below W.heap.size W w' from fun W hb => by
    rw [← hu]; exact rvCheck_any x _ W (VD.at.below hb HX.out) hxw)
  obtain ⟨r, hr⟩ : ∃ r, notT x.truth = r := ⟨_, rfl⟩
  obtain ⟨o, ho⟩ : ∃ o, (if u = 0 then r else none) = o := ⟨_, rfl⟩
  rw [hu, hr, ho]
  have HRr := Lib.hid hr
  clear hu hr hxw
  obtain ⟨k1, y1, ⟨ng1, hi1, lo1, sc1⟩, t1, d1, l1, ns1⟩ := x
  simp only [VD.at, vcs] at hx
  obtain ⟨lp1, np1, lc1, nc1, ls1, rfl, -⟩ := hx
  have HF := Lib.hid (show ∀ W, Calls Tryz.prog 50 #[vlit k1 y1 ng1 hi1 lo1 sc1 t1 d1 lp1 l1.length lc1 np1 ns1.length nc1] W fun e w' => e = .returned (truV r) ∧ RowKit.Below W.heap.size W w' from fun W => by
    rw [← HRr.out]; exact rNot_any _ _ _ _ _ _ _ _ _ _ _ _ _ _ W)
  by_cases h0 : u = 0
  · subst h0
    obtain rfl : r = o := by simpa using ho
    clear ho
    go_enter Tryz.func23, Tryz.ntmps23
    go_wp2_with (first | refine mP ?_ | (refine mS ?_; clear HM; intro W1 HM) | ((with_reducible refine iat 1 ?_); refine mB ?_; clear HM; intro g1 W1 HM) | (refine hal (dst := some 2) HM rfl ?_; clear HM; intro g2 W1 HM) | (go_at_call 16; (with_reducible refine cB HM (HCk.out _ HM.out.below) ?_); clear HM; intro W1 HM) | (go_at_call 50; (with_reducible refine cB HM (HF.out _) ?_); clear HM; intro W1 HM))
    exact bodyPost_ret (res_box_tmp rfl HM.out 0 rfl rfl rfl rfl) rfl ⟨rfl, HM.out.below⟩
  · have q : (u != 0) = true := by simp [h0]
    obtain rfl : none = o := by simpa [h0] using ho
    go_enter Tryz.func23, Tryz.ntmps23
    go_wp2_with (first | refine mP ?_ | (refine mS ?_; clear HM; intro W1 HM) | ((with_reducible refine iat 1 ?_); refine mB ?_; clear HM; intro g1 W1 HM) | (refine hal (dst := some 2) HM rfl ?_; clear HM; intro g2 W1 HM) | (go_at_call 16; (with_reducible refine cB HM (HCk.out _ HM.out.below) ?_); clear HM; intro W1 HM))
    exact bodyPost_ret (res_box_tmp rfl HM.out 0 rfl rfl rfl rfl) rfl ⟨rfl, HM.out.below⟩

/-- A truth, its two parts by name. -/
abbrev vtv (k : Int) (y : Bool) : Value := vlit k y false 0 0 0 ⟨#[]⟩ 0 none 0 0 none 0 0
theorem tru_vtv (o : Option Bool) : ∃ k y, truV o = vtv k y := ⟨_, _, rfl⟩

set_option maxHeartbeats 16000000 in
theorem valueTruths_walk (x y : VD) (cx cy : List Value) (w : World) (hx : x.at w cx) (hy : y.at w cy) (hxw : x.wf 1048576) (hyw : y.wf 1048576) (hu : U8 w) :
    Calls Tryz.prog 5 #[.agg cx.toArray, .agg cy.toArray] w fun e w' => e = .returned (.bool true) ∧ RowKit.Below w.heap.size w w' := by
  have HM := Lib.hid (Mem.start w)
  have HX := Lib.hid hx
  have HY := Lib.hid hy
  have HU := Lib.hid hu
  obtain ⟨u, hu⟩ : ∃ u, chkL [x, y] = u := ⟨_, rfl⟩
  obtain ⟨v, hv⟩ : ∃ u, x.check = u := ⟨_, rfl⟩
  obtain ⟨oa, hoa⟩ : ∃ o, (if chkL [x, y] = 0 then bothT x.truth y.truth else none) = o := ⟨_, rfl⟩
  obtain ⟨ob, hob⟩ : ∃ o, (if chkL [x, y] = 0 then notT (bothT (notT x.truth) (notT y.truth)) else none) = o := ⟨_, rfl⟩
  obtain ⟨oc, hoc⟩ : ∃ o, (if x.check = 0 then notT x.truth else none) = o := ⟨_, rfl⟩
  obtain ⟨ka, ya, hva⟩ := tru_vtv oa
  obtain ⟨kb, yb, hvb⟩ := tru_vtv ob
  obtain ⟨kc, yc, hvc⟩ := tru_vtv oc
  have HPA := Lib.hid (show ∀ W, RowKit.Below w.heap.size w W → Calls Tryz.prog 20 #[.agg cx.toArray, .agg cy.toArray] W fun e w' => e = .returned (.tuple #[vtv ka ya, .int .i64 u]) ∧ RowKit.Below W.heap.size W w' from fun W hb => by
    have h := vAnd_any x y _ _ W (VD.at.below hb HX.out) (VD.at.below hb HY.out) hxw hyw (U8.below HU.out hb)
    rw [hoa, hva, hu] at h
    exact h)
  have HRA := Lib.hid (show ∀ W, RowKit.Below w.heap.size w W → Calls Tryz.prog 19 #[.agg cx.toArray, .agg cy.toArray] W fun e w' => e = .returned (.tuple #[vtv ka ya, .int .i64 u]) ∧ RowKit.Below W.heap.size W w' from fun W hb => by
    have h := rDocAnd_any x y _ _ W (VD.at.below hb HX.out) (VD.at.below hb HY.out) hxw hyw
    rw [hoa, hva, hu] at h
    exact h)
  have HPB := Lib.hid (show ∀ W, RowKit.Below w.heap.size w W → Calls Tryz.prog 22 #[.agg cx.toArray, .agg cy.toArray] W fun e w' => e = .returned (.tuple #[vtv kb yb, .int .i64 u]) ∧ RowKit.Below W.heap.size W w' from fun W hb => by
    have h := vOr_any x y _ _ W (VD.at.below hb HX.out) (VD.at.below hb HY.out) hxw hyw (U8.below HU.out hb)
    rw [hob, hvb, hu] at h
    exact h)
  have HRB := Lib.hid (show ∀ W, RowKit.Below w.heap.size w W → Calls Tryz.prog 21 #[.agg cx.toArray, .agg cy.toArray] W fun e w' => e = .returned (.tuple #[vtv kb yb, .int .i64 u]) ∧ RowKit.Below W.heap.size W w' from fun W hb => by
    have h := rDocOr_any x y _ _ W (VD.at.below hb HX.out) (VD.at.below hb HY.out) hxw hyw
    rw [hob, hvb, hu] at h
    exact h)
  have HPC := Lib.hid (show ∀ W, RowKit.Below w.heap.size w W → Calls Tryz.prog 24 #[.agg cx.toArray] W fun e w' => e = .returned (.tuple #[vtv kc yc, .int .i64 v]) ∧ RowKit.Below W.heap.size W w' from fun W hb => by
    have h := vNot_any x _ W (VD.at.below hb HX.out) hxw (U8.below HU.out hb)
    rw [hoc, hvc, hv] at h
    exact h)
  have HRC := Lib.hid (show ∀ W, RowKit.Below w.heap.size w W → Calls Tryz.prog 23 #[.agg cx.toArray] W fun e w' => e = .returned (.tuple #[vtv kc yc, .int .i64 v]) ∧ RowKit.Below W.heap.size W w' from fun W hb => by
    have h := rDocNot_any x _ W (VD.at.below hb HX.out) hxw
    rw [hoc, hvc, hv] at h
    exact h)
  have HSa := Lib.hid (fun W => (show Calls Tryz.prog 14 #[vtv ka ya, vtv ka ya] W fun e w' => e = .returned (.bool true) ∧ RowKit.Below W.heap.size W w' from by
    have h := lsame_any oa oa W
    rw [hva, decide_eq_true rfl] at h
    exact h))
  have HSb := Lib.hid (fun W => (show Calls Tryz.prog 14 #[vtv kb yb, vtv kb yb] W fun e w' => e = .returned (.bool true) ∧ RowKit.Below W.heap.size W w' from by
    have h := lsame_any ob ob W
    rw [hvb, decide_eq_true rfl] at h
    exact h))
  have HSc := Lib.hid (fun W => (show Calls Tryz.prog 14 #[vtv kc yc, vtv kc yc] W fun e w' => e = .returned (.bool true) ∧ RowKit.Below W.heap.size W w' from by
    have h := lsame_any oc oc W
    rw [hvc, decide_eq_true rfl] at h
    exact h))
  clear hu hv hoa hob hoc hva hvb hvc hxw hyw
  obtain ⟨k1, y1, ⟨ng1, hi1, lo1, sc1⟩, t1, d1, l1, ns1⟩ := x
  obtain ⟨k2, y2, ⟨ng2, hi2, lo2, sc2⟩, t2, d2, l2, ns2⟩ := y
  simp only [VD.at, vcs] at hx hy
  obtain ⟨lp1, np1, lc1, nc1, ls1, rfl, -⟩ := hx
  obtain ⟨lp2, np2, lc2, nc2, ls2, rfl, -⟩ := hy
  have q1 : (u != u) = false := by simp
  have q2 : (v == v) = true := by simp
  go_enter Tryz.func5, Tryz.ntmps5
  go_wp2_with (first | ((with_reducible refine skip_op ?_ ?_); exact rfl) | refine mP ?_ | (refine mS ?_; clear HM; intro W1 HM) | ((with_reducible refine iat 2 ?_); refine mB ?_; clear HM; intro g2 W1 HM) | ((with_reducible refine iat 3 ?_); refine mB ?_; clear HM; intro g3 W1 HM) | (refine hal (dst := some 5) HM rfl ?_; clear HM; intro g5 W1 HM) | (refine hal (dst := some 7) HM rfl ?_; clear HM; intro g7 W1 HM) | (go_at_call 9; (with_reducible refine cB HM (vknown_any _ (U8.below HU.out HM.out.below)) ?_); clear HM; intro W1 HM) | (go_at_call 20; (with_reducible refine cB HM (HPA.out _ HM.out.below) ?_); clear HM; intro W1 HM) | (go_at_call 22; (with_reducible refine cB HM (HPB.out _ HM.out.below) ?_); clear HM; intro W1 HM) | (go_at_call 24; (with_reducible refine cB HM (HPC.out _ HM.out.below) ?_); clear HM; intro W1 HM) | (go_at_call 19; (with_reducible refine cB HM (HRA.out _ HM.out.below) ?_); clear HM; intro W1 HM) | (go_at_call 21; (with_reducible refine cB HM (HRB.out _ HM.out.below) ?_); clear HM; intro W1 HM) | (go_at_call 23; (with_reducible refine cB HM (HRC.out _ HM.out.below) ?_); clear HM; intro W1 HM) | (go_at_call 14; first | ((with_reducible refine cB HM (HSa.out _) ?_); clear HM; intro W1 HM) | ((with_reducible refine cB HM (HSb.out _) ?_); clear HM; intro W1 HM) | ((with_reducible refine cB HM (HSc.out _) ?_); clear HM; intro W1 HM)))
  go_ret
  exact ⟨rfl, HM.out.below⟩
end Go.Proofs.YtgobdcmoelcckaaGreatDoor
