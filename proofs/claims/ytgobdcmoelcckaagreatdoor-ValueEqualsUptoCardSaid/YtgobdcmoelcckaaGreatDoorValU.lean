/- ValueForms, ValueTruths: the laws' walks. (short) -/
import Derived.Test.YtgobdcmoelcckaaGreatDoorValT
namespace Go.Proofs.YtgobdcmoelcckaaGreatDoor
open Go.RowKit
set_option linter.unusedVariables false
set_option linter.unusedSimpArgs false
set_option maxRecDepth 100000

theorem self_chk (x : VD) : (decide (chkL [x, x] = 0) && VD.same x x) = (x.check == 0) := by
  rw [chk2, VD.same_self]
  by_cases h : x.check = 0
  · simp [h]
  · simp [h]

set_option maxHeartbeats 16000000 in
theorem valueForms_walk (x y : VD) (cx cy : List Value) (w : World) (hx : x.at w cx) (hy : y.at w cy) (hxw : x.wf 1048576) (hyw : y.wf 1048576) (hu : U8 w) :
    Calls Tryz.prog 4 #[.agg cx.toArray, .agg cy.toArray] w fun e w' => e = .returned (.bool true) ∧ RowKit.Below w.heap.size w w' := by
  have HM := Lib.hid (Mem.start w)
  have HX := Lib.hid hx
  have HY := Lib.hid hy
  have HU := Lib.hid hu
  obtain ⟨u, hu⟩ : ∃ u, x.check = u := ⟨_, rfl⟩
  obtain ⟨s, hs⟩ : ∃ s, (decide (chkL [x, y] = 0) && VD.same x y) = s := ⟨_, rfl⟩
  have HC1 := Lib.hid (show ∀ W, RowKit.Below w.heap.size w W → Calls Tryz.prog 15 #[.agg cx.toArray] W fun e w' => e = .returned (.int .i64 u) ∧ RowKit.Below W.heap.size W w' from fun W hb => by
    rw [← hu]; exact vcheck_any x _ W (VD.at.below hb HX.out) hxw (U8.below HU.out hb))
  have HC2 := Lib.hid (show ∀ W, RowKit.Below w.heap.size w W → Calls Tryz.prog 16 #[.agg cx.toArray] W fun e w' => e = .returned (.int .i64 u) ∧ RowKit.Below W.heap.size W w' from fun W hb => by
    rw [← hu]; exact rvCheck_any x _ W (VD.at.below hb HX.out) hxw)
  have HS1 := Lib.hid (show ∀ W, RowKit.Below w.heap.size w W → Calls Tryz.prog 17 #[.agg cx.toArray, .agg cy.toArray] W fun e w' => e = .returned (.bool s) ∧ RowKit.Below W.heap.size W w' from fun W hb => by
    rw [← hs]; exact vSame_any x y _ _ W (VD.at.below hb HX.out) (VD.at.below hb HY.out) hxw hyw (U8.below HU.out hb))
  have HS2 := Lib.hid (show ∀ W, RowKit.Below w.heap.size w W → Calls Tryz.prog 18 #[.agg cx.toArray, .agg cy.toArray] W fun e w' => e = .returned (.bool s) ∧ RowKit.Below W.heap.size W w' from fun W hb => by
    rw [← hs]; exact rDocSame_any x y _ _ W (VD.at.below hb HX.out) (VD.at.below hb HY.out) hxw hyw)
  have HS3 := Lib.hid (show ∀ W, RowKit.Below w.heap.size w W → Calls Tryz.prog 17 #[.agg cx.toArray, .agg cx.toArray] W fun e w' => e = .returned (.bool (u == 0)) ∧ RowKit.Below W.heap.size W w' from fun W hb => by
    have h := vSame_any x x _ _ W (VD.at.below hb HX.out) (VD.at.below hb HX.out) hxw hxw (U8.below HU.out hb)
    rw [self_chk, hu] at h
    exact h)
  obtain ⟨z, hz⟩ : ∃ z, (u == 0) = z := ⟨_, rfl⟩
  rw [hz] at HS3
  clear hs hu
  obtain ⟨k1, y1, ⟨ng1, hi1, lo1, sc1⟩, t1, d1, l1, ns1⟩ := x
  obtain ⟨k2, y2, ⟨ng2, hi2, lo2, sc2⟩, t2, d2, l2, ns2⟩ := y
  simp only [VD.at, vcs] at hx hy
  obtain ⟨lp1, np1, lc1, nc1, ls1, rfl, -⟩ := hx
  obtain ⟨lp2, np2, lc2, nc2, ls2, rfl, -⟩ := hy
  have q1 : (u == u) = true := by simp
  have q2 : (s == s) = true := by simp
  have q3 : (z == z) = true := by simp
  clear hxw hyw
  go_enter Tryz.func4, Tryz.ntmps4
  go_wp2_with (first | ((with_reducible refine skip_op ?_ ?_); exact rfl) | refine mP ?_ | ((with_reducible refine iat 2 ?_); refine mB ?_; clear HM; intro g2 W1 HM) | ((with_reducible refine iat 3 ?_); refine mB ?_; clear HM; intro g3 W1 HM))
  refine wp_region_steps2 [(false, 0), (true, 1), (true, 2), (true, 4), (false, 3), (false, 5), (true, 6), (true, 7), (true, 8), (true, 9), (true, 10), (true, 12), (true, 13), (false, 11), (false, 14), (true, 15), (true, 16), (true, 17), (true, 18), (true, 19), (true, 21), (false, 20), (false, 22), (true, 23), (true, 24), (true, 25), (true, 26)] (by kernel_rfl) (by kernel_rfl) rfl (by kernel_rfl) (fun _ _ _ _ _ h => h) HM.out _ (.cons_cons _ (.cons_cons _ .slnil)) ?_
  intro hNE W1 HM1; replace HM := Lib.hid HM1; clear HM1
  have HS0 := Lib.hid (HM.out.sub (.cons_cons _ (.cons_cons _ .slnil)))
  simp only [wpSteps, List.getElem?_cons_succ, List.getElem?_cons_zero]
  go_wp2_with (first | (go_at_call 9; (with_reducible refine cB HM (vknown_any _ (U8.below HU.out HM.out.below)) ?_); clear HM; intro W1 HM))
  refine ⟨⟨⟨_, HM.out.sub (by repeat (first | exact List.nil_sublist _ | with_reducible refine List.Sublist.cons_cons _ ?_ | refine List.Sublist.cons _ ?_))⟩, rfl⟩, ?_⟩
  (try dsimp only)
  (repeat (first | ((with_reducible refine wpQuiet_nil ?_); (try dsimp only)) | ((with_reducible refine qgd ?_); (with_reducible refine skip_q ?_ ?_ ?_); (exact rfl); (rotate_left; (exact (hNE.elim fun p => ⟨p.W, p, rfl⟩)))) | refine mQ ?_ | go_big_quiet_step (fail) | quiet_step (fail)))
  go_wp2_with (first | ((with_reducible refine igd ?_); (with_reducible refine skip_op ?_ ?_); (exact rfl)) | (go_at_call 15; (with_reducible refine cB HM (HC1.out _ HM.out.below) ?_); clear HM; intro W1 HM))
  refine ⟨⟨⟨_, HM.out.sub (by repeat (first | exact List.nil_sublist _ | with_reducible refine List.Sublist.cons_cons _ ?_ | refine List.Sublist.cons _ ?_))⟩, rfl⟩, ?_⟩
  (try dsimp only)
  go_wp2_with (first | ((with_reducible refine igd ?_); (with_reducible refine skip_op ?_ ?_); (exact rfl)) | (go_at_call 16; (with_reducible refine cB HM (HC2.out _ HM.out.below) ?_); clear HM; intro W1 HM))
  refine ⟨⟨⟨_, HM.out.sub (by repeat (first | exact List.nil_sublist _ | with_reducible refine List.Sublist.cons_cons _ ?_ | refine List.Sublist.cons _ ?_))⟩, rfl⟩, ?_⟩
  (try dsimp only)
  (repeat (first | ((with_reducible refine wpQuiet_nil ?_); (try dsimp only)) | ((with_reducible refine qgd ?_); (with_reducible refine skip_q ?_ ?_ ?_); (exact rfl); (rotate_left; (exact (hNE.elim fun p => ⟨p.W, p, rfl⟩)))) | refine mQ ?_ | go_big_quiet_step (fail) | quiet_step (fail)))
  go_wp2_with (first | ((with_reducible refine igd ?_); (with_reducible refine skip_op ?_ ?_); (exact rfl)) | (go_at_call 17; first | ((with_reducible refine cB HM (HS1.out _ HM.out.below) ?_); clear HM; intro W1 HM) | ((with_reducible refine cB HM (HS3.out _ HM.out.below) ?_); clear HM; intro W1 HM)))
  refine ⟨⟨⟨_, HM.out.sub (by repeat (first | exact List.nil_sublist _ | with_reducible refine List.Sublist.cons_cons _ ?_ | refine List.Sublist.cons _ ?_))⟩, rfl⟩, ?_⟩
  (try dsimp only)
  go_wp2_with (first | ((with_reducible refine igd ?_); (with_reducible refine skip_op ?_ ?_); (exact rfl)) | (go_at_call 18; (with_reducible refine cB HM (HS2.out _ HM.out.below) ?_); clear HM; intro W1 HM))
  refine ⟨⟨⟨_, HM.out.sub (by repeat (first | exact List.nil_sublist _ | with_reducible refine List.Sublist.cons_cons _ ?_ | refine List.Sublist.cons _ ?_))⟩, rfl⟩, ?_⟩
  (try dsimp only)
  (repeat (first | ((with_reducible refine wpQuiet_nil ?_); (try dsimp only)) | ((with_reducible refine qgd ?_); (with_reducible refine skip_q ?_ ?_ ?_); (exact rfl); (rotate_left; (exact (hNE.elim fun p => ⟨p.W, p, rfl⟩)))) | refine mQ ?_ | go_big_quiet_step (fail) | quiet_step (fail)))
  go_wp2_with (first | ((with_reducible refine igd ?_); (with_reducible refine skip_op ?_ ?_); (exact rfl)) | (go_at_call 17; first | ((with_reducible refine cB HM (HS1.out _ HM.out.below) ?_); clear HM; intro W1 HM) | ((with_reducible refine cB HM (HS3.out _ HM.out.below) ?_); clear HM; intro W1 HM)))
  refine ⟨⟨⟨_, HM.out.sub (by repeat (first | exact List.nil_sublist _ | with_reducible refine List.Sublist.cons_cons _ ?_ | refine List.Sublist.cons _ ?_))⟩, rfl⟩, ?_⟩
  (try dsimp only)
  go_wp2_with (first | ((with_reducible refine igd ?_); (with_reducible refine skip_op ?_ ?_); (exact rfl)) | (go_at_call 16; (with_reducible refine cB HM (HC2.out _ HM.out.below) ?_); clear HM; intro W1 HM))
  refine ⟨⟨⟨_, HM.out.sub (by repeat (first | exact List.nil_sublist _ | with_reducible refine List.Sublist.cons_cons _ ?_ | refine List.Sublist.cons _ ?_))⟩, rfl⟩, ?_⟩
  (try dsimp only)
  (repeat (first | ((with_reducible refine wpQuiet_nil ?_); (try dsimp only)) | ((with_reducible refine qgd ?_); (with_reducible refine skip_q ?_ ?_ ?_); (exact rfl); (rotate_left; (exact (hNE.elim fun p => ⟨p.W, p, rfl⟩)))) | refine mQ ?_ | go_big_quiet_step (fail) | quiet_step (fail)))
  clear HS0 hNE
  go_wp2_with fail
  go_ret
  exact ⟨rfl, HM.out.below⟩
end Go.Proofs.YtgobdcmoelcckaaGreatDoor
