/- Equal, And, Or, Not, Less of the program. (short) -/
import Derived.Test.YtgobdcmoelcckaaGreatDoorValI
namespace Go.Proofs.YtgobdcmoelcckaaGreatDoor
open Go.RowKit
set_option linter.unusedVariables false
set_option linter.unusedSimpArgs false
set_option maxRecDepth 100000

set_option maxHeartbeats 8000000 in
theorem vAnd_any (x y : VD) (cx cy : List Value) (w : World) (hx : x.at w cx) (hy : y.at w cy) (hxw : x.wf 1048576) (hyw : y.wf 1048576) (hu : U8 w) : Calls Tryz.prog 20 #[.agg cx.toArray, .agg cy.toArray] w fun e w' => e = .returned (.tuple #[truV (if chkL [x, y] = 0 then bothT x.truth y.truth else none), .int .i64 (chkL [x, y])]) ∧ RowKit.Below w.heap.size w w' := by
  have HM := Lib.hid (Mem.start w)
  have HX := Lib.hid hx
  have HY := Lib.hid hy
  have HXw := Lib.hid hxw
  have HYw := Lib.hid hyw
  have HU := Lib.hid hu
  obtain ⟨u, hu⟩ : ∃ u, chkL [x, y] = u := ⟨_, rfl⟩
  have HCk := Lib.hid (show ∀ W g t, RowKit.Below w.heap.size w W → (Res.box g t (cx ++ cy)).holds w.heap.size W → Calls Tryz.prog 34 #[.slice (some ⟨g, 0, none⟩) 2 2] W fun e w' => e = .returned (.int .i64 u) ∧ RowKit.Below W.heap.size W w' from fun W g t hb hbox => by
    rw [← hu]
    obtain ⟨h1, h2⟩ := two_at hbox (VD.at.below hb HX.out) (VD.at.below hb HY.out)
    exact vchecks_any _ _ [x, y] _ W h1 h2 (by simp only [VD.wfL]; exact ⟨HXw.out, HYw.out, trivial⟩) (by simp) (U8.below HU.out hb))
  obtain ⟨r, hr⟩ : ∃ r, bothT x.truth y.truth = r := ⟨_, rfl⟩
  obtain ⟨o, ho⟩ : ∃ o, (if u = 0 then r else none) = o := ⟨_, rfl⟩
  rw [hu, hr, ho]
  have HRr := Lib.hid hr
  obtain ⟨k1, y1, ⟨ng1, hi1, lo1, sc1⟩, t1, d1, l1, ns1⟩ := x
  obtain ⟨k2, y2, ⟨ng2, hi2, lo2, sc2⟩, t2, d2, l2, ns2⟩ := y
  simp only [VD.at, vcs] at hx hy
  obtain ⟨lp1, np1, lc1, nc1, ls1, rfl, -⟩ := hx
  obtain ⟨lp2, np2, lc2, nc2, ls2, rfl, -⟩ := hy
  simp only [List.cons_append, List.nil_append] at HCk
  have HBo := Lib.hid (show ∀ W, Calls Tryz.prog 47 #[vlit k1 y1 ng1 hi1 lo1 sc1 t1 d1 lp1 l1.length lc1 np1 ns1.length nc1, vlit k2 y2 ng2 hi2 lo2 sc2 t2 d2 lp2 l2.length lc2 np2 ns2.length nc2] W fun e w' => e = .returned (truV r) ∧ RowKit.Below W.heap.size W w' from fun W => by
    rw [← HRr.out]; exact both_any _ _ _ _ _ _ _ _ _ _ _ _ _ _ _ _ _ _ _ _ _ _ _ _ _ _ _ _ W)
  clear hu hr
  by_cases h0 : u = 0
  · subst h0
    obtain rfl : r = o := by simpa using ho
    clear ho
    go_enter Tryz.func20, Tryz.ntmps20
    go_wp2_with (first | refine mP ?_ | (refine mS ?_; clear HM; intro W1 HM) | (refine mL ?_; clear HM; intro g1 W1 HM) | ((with_reducible refine iat 2 ?_); refine mB ?_; clear HM; intro g2 W1 HM) | ((with_reducible refine iat 3 ?_); refine mB ?_; clear HM; intro g3 W1 HM) | (refine hal (dst := some 4) HM rfl ?_; clear HM; intro g4 W1 HM) | (refine bs2V HM rfl rfl rfl ?_; clear HM; intro g7 W1 HM) | (go_at_call 34; (with_reducible refine cB HM (HCk.out _ _ _ HM.out.below (HM.out.get (k := 0) rfl)) ?_); clear HM; intro W1 HM) | (go_at_call 47; (with_reducible refine cB HM (HBo.out _) ?_); clear HM; intro W1 HM))
    exact bodyPost_ret (res_box_tmp rfl HM.out 1 rfl rfl rfl rfl) rfl ⟨rfl, HM.out.below⟩
  · have q : (u != 0) = true := by simp [h0]
    obtain rfl : none = o := by simpa [h0] using ho
    go_enter Tryz.func20, Tryz.ntmps20
    go_wp2_with (first | refine mP ?_ | (refine mS ?_; clear HM; intro W1 HM) | (refine mL ?_; clear HM; intro g1 W1 HM) | ((with_reducible refine iat 2 ?_); refine mB ?_; clear HM; intro g2 W1 HM) | ((with_reducible refine iat 3 ?_); refine mB ?_; clear HM; intro g3 W1 HM) | (refine hal (dst := some 4) HM rfl ?_; clear HM; intro g4 W1 HM) | (refine bs2V HM rfl rfl rfl ?_; clear HM; intro g7 W1 HM) | (go_at_call 34; (with_reducible refine cB HM (HCk.out _ _ _ HM.out.below (HM.out.get (k := 0) rfl)) ?_); clear HM; intro W1 HM))
    exact bodyPost_ret (res_box_tmp rfl HM.out 1 rfl rfl rfl rfl) rfl ⟨rfl, HM.out.below⟩

set_option maxHeartbeats 8000000 in
theorem vOr_any (x y : VD) (cx cy : List Value) (w : World) (hx : x.at w cx) (hy : y.at w cy) (hxw : x.wf 1048576) (hyw : y.wf 1048576) (hu : U8 w) : Calls Tryz.prog 22 #[.agg cx.toArray, .agg cy.toArray] w fun e w' => e = .returned (.tuple #[truV (if chkL [x, y] = 0 then notT (bothT (notT x.truth) (notT y.truth)) else none), .int .i64 (chkL [x, y])]) ∧ RowKit.Below w.heap.size w w' := by
  have HM := Lib.hid (Mem.start w)
  have HX := Lib.hid hx
  have HY := Lib.hid hy
  have HXw := Lib.hid hxw
  have HYw := Lib.hid hyw
  have HU := Lib.hid hu
  obtain ⟨u, hu⟩ : ∃ u, chkL [x, y] = u := ⟨_, rfl⟩
  have HCk := Lib.hid (show ∀ W g t, RowKit.Below w.heap.size w W → (Res.box g t (cx ++ cy)).holds w.heap.size W → Calls Tryz.prog 34 #[.slice (some ⟨g, 0, none⟩) 2 2] W fun e w' => e = .returned (.int .i64 u) ∧ RowKit.Below W.heap.size W w' from fun W g t hb hbox => by
    rw [← hu]
    obtain ⟨h1, h2⟩ := two_at hbox (VD.at.below hb HX.out) (VD.at.below hb HY.out)
    exact vchecks_any _ _ [x, y] _ W h1 h2 (by simp only [VD.wfL]; exact ⟨HXw.out, HYw.out, trivial⟩) (by simp) (U8.below HU.out hb))
  obtain ⟨r, hr⟩ : ∃ r, notT (bothT (notT x.truth) (notT y.truth)) = r := ⟨_, rfl⟩
  obtain ⟨o, ho⟩ : ∃ o, (if u = 0 then r else none) = o := ⟨_, rfl⟩
  rw [hu, hr, ho]
  have HRr := Lib.hid hr
  obtain ⟨k1, y1, ⟨ng1, hi1, lo1, sc1⟩, t1, d1, l1, ns1⟩ := x
  obtain ⟨k2, y2, ⟨ng2, hi2, lo2, sc2⟩, t2, d2, l2, ns2⟩ := y
  simp only [VD.at, vcs] at hx hy
  obtain ⟨lp1, np1, lc1, nc1, ls1, rfl, -⟩ := hx
  obtain ⟨lp2, np2, lc2, nc2, ls2, rfl, -⟩ := hy
  simp only [List.cons_append, List.nil_append] at HCk
  obtain ⟨o1, ho1⟩ : ∃ o, notT (tOf k1 y1) = o := ⟨_, rfl⟩
  obtain ⟨o2, ho2⟩ : ∃ o, notT (tOf k2 y2) = o := ⟨_, rfl⟩
  obtain ⟨o3, ho3⟩ : ∃ o, bothT o1 o2 = o := ⟨_, rfl⟩
  have ho4 : notT o3 = r := by rw [← ho3, ← ho1, ← ho2]; exact HRr.out
  have HT1 := Lib.hid (show ∀ W, Calls Tryz.prog 49 #[vlit k1 y1 ng1 hi1 lo1 sc1 t1 d1 lp1 l1.length lc1 np1 ns1.length nc1] W fun e w' => e = .returned (truV o1) ∧ RowKit.Below W.heap.size W w' from fun W => by
    rw [← ho1]; exact turned_any _ _ _ _ _ _ _ _ _ _ _ _ _ _ W)
  have HT2 := Lib.hid (show ∀ W, Calls Tryz.prog 49 #[vlit k2 y2 ng2 hi2 lo2 sc2 t2 d2 lp2 l2.length lc2 np2 ns2.length nc2] W fun e w' => e = .returned (truV o2) ∧ RowKit.Below W.heap.size W w' from fun W => by
    rw [← ho2]; exact turned_any _ _ _ _ _ _ _ _ _ _ _ _ _ _ W)
  have HBo := Lib.hid (show ∀ W, Calls Tryz.prog 47 #[truV o1, truV o2] W fun e w' => e = .returned (truV o3) ∧ RowKit.Below W.heap.size W w' from fun W => by
    have h := both_any (if o1.isSome then 1 else 0) (o1.getD false) false 0 0 0 ⟨#[]⟩ 0 none 0 0 none 0 0 (if o2.isSome then 1 else 0) (o2.getD false) false 0 0 0 ⟨#[]⟩ 0 none 0 0 none 0 0 W
    rw [tOf_tru, tOf_tru, ho3] at h
    exact h)
  have HT3 := Lib.hid (show ∀ W, Calls Tryz.prog 49 #[truV o3] W fun e w' => e = .returned (truV r) ∧ RowKit.Below W.heap.size W w' from fun W => by
    have h := turned_any (if o3.isSome then 1 else 0) (o3.getD false) false 0 0 0 ⟨#[]⟩ 0 none 0 0 none 0 0 W
    rw [tOf_tru, ho4] at h
    exact h)
  clear ho1 ho2 ho3 ho4
  clear hu hr
  by_cases h0 : u = 0
  · subst h0
    obtain rfl : r = o := by simpa using ho
    clear ho
    go_enter Tryz.func22, Tryz.ntmps22
    go_wp2_with (first | refine mP ?_ | (refine mS ?_; clear HM; intro W1 HM) | (refine mL ?_; clear HM; intro g1 W1 HM) | ((with_reducible refine iat 2 ?_); refine mB ?_; clear HM; intro g2 W1 HM) | ((with_reducible refine iat 3 ?_); refine mB ?_; clear HM; intro g3 W1 HM) | (refine hal (dst := some 4) HM rfl ?_; clear HM; intro g4 W1 HM) | (refine bs2V HM rfl rfl rfl ?_; clear HM; intro g7 W1 HM) | (go_at_call 34; (with_reducible refine cB HM (HCk.out _ _ _ HM.out.below (HM.out.get (k := 0) rfl)) ?_); clear HM; intro W1 HM))
    refine wp_region_steps2 [(true, 0), (true, 2), (false, 1), (false, 3), (false, 4), (false, 5), (false, 6), (true, 7)] (by kernel_rfl) (by kernel_rfl) rfl (by kernel_rfl) (fun _ _ _ _ _ h => h) HM.out _ (.cons _ (.cons _ (.cons_cons _ (.cons_cons _ .slnil)))) ?_
    intro hNE W1 HM1; replace HM := Lib.hid HM1; clear HM1
    have HS0 := Lib.hid (HM.out.sub (.cons _ (.cons _ (.cons_cons _ (.cons_cons _ .slnil)))))
    simp only [wpSteps, List.getElem?_cons_succ, List.getElem?_cons_zero]
    (repeat (first | ((with_reducible refine wpQuiet_nil ?_); (try dsimp only)) | refine mQ ?_ | go_big_quiet_step (fail) | quiet_step (fail)))
    go_wp2_with (first | (go_at_call 49; first | ((with_reducible refine cB HM (HT1.out _) ?_); clear HM; intro W1 HM) | ((with_reducible refine cB HM (HT2.out _) ?_); clear HM; intro W1 HM) | ((with_reducible refine cB HM (HT3.out _) ?_); clear HM; intro W1 HM)))
    refine ⟨⟨⟨_, HM.out.sub (by repeat (first | exact List.nil_sublist _ | with_reducible refine List.Sublist.cons_cons _ ?_ | refine List.Sublist.cons _ ?_))⟩, rfl⟩, ?_⟩
    (try dsimp only)
    go_wp2_with (first | (go_at_call 49; first | ((with_reducible refine cB HM (HT1.out _) ?_); clear HM; intro W1 HM) | ((with_reducible refine cB HM (HT2.out _) ?_); clear HM; intro W1 HM) | ((with_reducible refine cB HM (HT3.out _) ?_); clear HM; intro W1 HM)))
    refine ⟨⟨⟨_, HM.out.sub (by repeat (first | exact List.nil_sublist _ | with_reducible refine List.Sublist.cons_cons _ ?_ | refine List.Sublist.cons _ ?_))⟩, rfl⟩, ?_⟩
    (try dsimp only)
    go_wp2_with (first | (go_at_call 47; (with_reducible refine cB HM (HBo.out _) ?_); clear HM; intro W1 HM))
    refine ⟨⟨⟨_, HM.out.sub (by repeat (first | exact List.nil_sublist _ | with_reducible refine List.Sublist.cons_cons _ ?_ | refine List.Sublist.cons _ ?_))⟩, rfl⟩, ?_⟩
    (try dsimp only)
    go_wp2_with (first | (go_at_call 49; first | ((with_reducible refine cB HM (HT1.out _) ?_); clear HM; intro W1 HM) | ((with_reducible refine cB HM (HT2.out _) ?_); clear HM; intro W1 HM) | ((with_reducible refine cB HM (HT3.out _) ?_); clear HM; intro W1 HM)))
    refine ⟨⟨⟨_, HM.out.sub (by repeat (first | exact List.nil_sublist _ | with_reducible refine List.Sublist.cons_cons _ ?_ | refine List.Sublist.cons _ ?_))⟩, rfl⟩, ?_⟩
    (try dsimp only)
    go_wp2_with (first | (refine mS ?_; clear HM; intro W1 HM))
    refine ⟨⟨⟨_, HM.out.sub (by repeat (first | exact List.nil_sublist _ | with_reducible refine List.Sublist.cons_cons _ ?_ | refine List.Sublist.cons _ ?_))⟩, rfl⟩, ?_⟩
    (try dsimp only)
    (repeat (first | ((with_reducible refine wpQuiet_nil ?_); (try dsimp only)) | refine mQ ?_ | go_big_quiet_step (fail) | quiet_step (fail)))
    clear HS0 hNE
    go_wp2_with fail
    exact bodyPost_ret (res_box_tmp rfl HM.out 1 rfl rfl rfl rfl) rfl ⟨rfl, HM.out.below⟩
  · have q : (u != 0) = true := by simp [h0]
    obtain rfl : none = o := by simpa [h0] using ho
    go_enter Tryz.func22, Tryz.ntmps22
    go_wp2_with (first | refine mP ?_ | (refine mS ?_; clear HM; intro W1 HM) | (refine mL ?_; clear HM; intro g1 W1 HM) | ((with_reducible refine iat 2 ?_); refine mB ?_; clear HM; intro g2 W1 HM) | ((with_reducible refine iat 3 ?_); refine mB ?_; clear HM; intro g3 W1 HM) | (refine hal (dst := some 4) HM rfl ?_; clear HM; intro g4 W1 HM) | (refine bs2V HM rfl rfl rfl ?_; clear HM; intro g7 W1 HM) | (go_at_call 34; (with_reducible refine cB HM (HCk.out _ _ _ HM.out.below (HM.out.get (k := 0) rfl)) ?_); clear HM; intro W1 HM))
    exact bodyPost_ret (res_box_tmp rfl HM.out 1 rfl rfl rfl rfl) rfl ⟨rfl, HM.out.below⟩
end Go.Proofs.YtgobdcmoelcckaaGreatDoor
