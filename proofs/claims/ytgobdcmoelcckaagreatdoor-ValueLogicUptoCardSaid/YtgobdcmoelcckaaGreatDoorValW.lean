/- ValueLogic: the law's walk. (short) -/
import Derived.Test.YtgobdcmoelcckaaGreatDoorValV
import Derived.Test.YtgobdcmoelcckaaGreatDoorValLess
namespace Go.Proofs.YtgobdcmoelcckaaGreatDoor
open Go.RowKit
set_option linter.unusedVariables false
set_option linter.unusedSimpArgs false
set_option maxRecDepth 100000

theorem tvD_chk (o : Option Bool) : (tvD o).check = 0 := by
  rcases o with _ | _ | _ <;> decide +kernel
theorem chk2_bad {x y : VD} (h : chkL [x, y] ≠ 0) : x.check ≠ 0 ∨ (x.check = 0 ∧ y.check ≠ 0) := by
  rw [chk2] at h
  by_cases h0 : x.check = 0
  · rw [if_pos h0] at h; exact Or.inr ⟨h0, h⟩
  · exact Or.inl h0
theorem chk2_good {x y : VD} (h : chkL [x, y] = 0) : x.check = 0 ∧ y.check = 0 := by
  rw [chk2] at h
  by_cases h0 : x.check = 0
  · rw [if_pos h0] at h; exact ⟨h0, h⟩
  · rw [if_neg h0] at h; exact absurd h h0
theorem chk2_of {x y : VD} (hx : x.check = 0) (hy : y.check = 0) : chkL [x, y] = 0 := by rw [chk2, if_pos hx, hy]

set_option maxHeartbeats 16000000 in
theorem valueLogic_bad (x y : VD) (cx cy : List Value) (w : World) (hx : x.at w cx) (hy : y.at w cy) (hxw : x.wf 1048576) (hyw : y.wf 1048576) (hu : U8 w) (hbad : chkL [x, y] ≠ 0) :
    Calls Tryz.prog 6 #[.agg cx.toArray, .agg cy.toArray] w fun e w' => e = .returned (.bool true) ∧ RowKit.Below w.heap.size w w' := by
  have HM := Lib.hid (Mem.start w)
  have HX := Lib.hid hx
  have HY := Lib.hid hy
  have HU := Lib.hid hu
  obtain ⟨u, hu⟩ : ∃ u, chkL [x, y] = u := ⟨_, rfl⟩
  obtain ⟨a, ha⟩ : ∃ u, x.check = u := ⟨_, rfl⟩
  obtain ⟨b, hb⟩ : ∃ u, y.check = u := ⟨_, rfl⟩
  have hc := chk2_bad hbad
  rw [hu] at hbad
  rw [ha, hb] at hc
  have HE := Lib.hid (show ∀ W, RowKit.Below w.heap.size w W → Calls Tryz.prog 11 #[.agg cx.toArray, .agg cy.toArray] W fun e w' => e = .returned (.tuple #[truV none, .int .i64 u]) ∧ RowKit.Below W.heap.size W w' from fun W hb => by
    have h := vEqual_any x y _ _ W (VD.at.below hb HX.out) (VD.at.below hb HY.out) hxw hyw (U8.below HU.out hb)
    rw [hu, if_neg hbad] at h
    exact h)
  have HC1 := Lib.hid (show ∀ W, RowKit.Below w.heap.size w W → Calls Tryz.prog 16 #[.agg cx.toArray] W fun e w' => e = .returned (.int .i64 a) ∧ RowKit.Below W.heap.size W w' from fun W hb => by
    rw [← ha]; exact rvCheck_any x _ W (VD.at.below hb HX.out) hxw)
  have HC2 := Lib.hid (show ∀ W, RowKit.Below w.heap.size w W → Calls Tryz.prog 16 #[.agg cy.toArray] W fun e w' => e = .returned (.int .i64 b) ∧ RowKit.Below W.heap.size W w' from fun W hb' => by
    rw [← hb]; exact rvCheck_any y _ W (VD.at.below hb' HY.out) hyw)
  clear hu ha hb hxw hyw
  obtain ⟨k1, y1, ⟨ng1, hi1, lo1, sc1⟩, t1, d1, l1, ns1⟩ := x
  obtain ⟨k2, y2, ⟨ng2, hi2, lo2, sc2⟩, t2, d2, l2, ns2⟩ := y
  simp only [VD.at, vcs] at hx hy
  obtain ⟨lp1, np1, lc1, nc1, ls1, rfl, -⟩ := hx
  obtain ⟨lp2, np2, lc2, nc2, ls2, rfl, -⟩ := hy
  have q0 : (u != 0) = true := by simp [hbad]
  clear hbad
  rcases hc with h | ⟨rfl, h⟩
  · have q1 : (a != 0) = true := by simp [h]
    clear h
    go_enter Tryz.func6, Tryz.ntmps6
    go_wp2_with (first | ((with_reducible refine skip_op ?_ ?_); exact rfl) | refine mP ?_ | (refine mS ?_; clear HM; intro W1 HM) | ((with_reducible refine iat 2 ?_); refine mB ?_; clear HM; intro g2 W1 HM) | ((with_reducible refine iat 3 ?_); refine mB ?_; clear HM; intro g3 W1 HM) | (refine hal (dst := some 5) HM rfl ?_; clear HM; intro g5 W1 HM) | (refine hal HM rfl ?_; clear HM; intro g1 W1 HM) | (go_at_call 9; (with_reducible refine cB HM (vknown_any _ (U8.below HU.out HM.out.below)) ?_); clear HM; intro W1 HM) | (go_at_call 16; first | ((with_reducible refine cB HM (HC1.out _ HM.out.below) ?_); clear HM; intro W1 HM) | ((with_reducible refine cB HM (HC2.out _ HM.out.below) ?_); clear HM; intro W1 HM)) | (go_at_call 11; (with_reducible refine cB HM (HE.out _ HM.out.below) ?_); clear HM; intro W1 HM))
    go_ret
    exact ⟨rfl, HM.out.below⟩
  · have q1 : (b != 0) = true := by simp [h]
    clear h
    go_enter Tryz.func6, Tryz.ntmps6
    go_wp2_with (first | ((with_reducible refine skip_op ?_ ?_); exact rfl) | refine mP ?_ | (refine mS ?_; clear HM; intro W1 HM) | ((with_reducible refine iat 2 ?_); refine mB ?_; clear HM; intro g2 W1 HM) | ((with_reducible refine iat 3 ?_); refine mB ?_; clear HM; intro g3 W1 HM) | (refine hal (dst := some 5) HM rfl ?_; clear HM; intro g5 W1 HM) | (refine hal HM rfl ?_; clear HM; intro g1 W1 HM) | (go_at_call 9; (with_reducible refine cB HM (vknown_any _ (U8.below HU.out HM.out.below)) ?_); clear HM; intro W1 HM) | (go_at_call 16; first | ((with_reducible refine cB HM (HC1.out _ HM.out.below) ?_); clear HM; intro W1 HM) | ((with_reducible refine cB HM (HC2.out _ HM.out.below) ?_); clear HM; intro W1 HM)) | (go_at_call 11; (with_reducible refine cB HM (HE.out _ HM.out.below) ?_); clear HM; intro W1 HM))
    go_ret
    exact ⟨rfl, HM.out.below⟩

set_option maxHeartbeats 32000000 in
theorem valueLogic_none (x y : VD) (cx cy : List Value) (w : World) (hx : x.at w cx) (hy : y.at w cy) (hxw : x.wf 1048576) (hyw : y.wf 1048576) (hu : U8 w) (hgood : chkL [x, y] = 0) (hl : VD.less x y = none) (hm : VD.less y x = none) :
    Calls Tryz.prog 6 #[.agg cx.toArray, .agg cy.toArray] w fun e w' => e = .returned (.bool true) ∧ RowKit.Below w.heap.size w w' := by
  have HM := Lib.hid (Mem.start w)
  have HX := Lib.hid hx
  have HY := Lib.hid hy
  have HU := Lib.hid hu
  obtain ⟨ha, hb⟩ := chk2_good hgood
  obtain ⟨fx, fy⟩ := chk2_form hgood
  have hgx := chk2_of ha ha
  have hgb := chk2_of hb ha
  obtain ⟨oE, hoE⟩ : ∃ o, VD.eq x y = o := ⟨_, rfl⟩
  have hoE2 : VD.eq y x = oE := by rw [← hoE]; exact (VD.eq_symm _ x y (Nat.le_refl _) fx fy).symm
  have hself : VD.eq x x = some true := VD.eq_self _ x (Nat.le_refl _) fx
  obtain ⟨oA, hoA⟩ : ∃ o, bothT x.truth y.truth = o := ⟨_, rfl⟩
  obtain ⟨oN, hoN⟩ : ∃ o, notT x.truth = o := ⟨_, rfl⟩
  obtain ⟨oM, hoM⟩ : ∃ o, notT y.truth = o := ⟨_, rfl⟩
  obtain ⟨oR, hoR⟩ : ∃ o, notT oA = o := ⟨_, rfl⟩
  have hoO : notT (bothT (notT oN) (notT oM)) = oR := by
    rw [← hoR, ← hoA, ← hoN, ← hoM]
    rcases x.truth with _ | _ | _ <;> rcases y.truth with _ | _ | _ <;> rfl
  obtain ⟨kE, yE, hvE⟩ := tru_vtv oE
  obtain ⟨kA, yA, hvA⟩ := tru_vtv oA
  obtain ⟨kN, yN, hvN⟩ := tru_vtv oN
  obtain ⟨kM, yM, hvM⟩ := tru_vtv oM
  obtain ⟨kR, yR, hvR⟩ := tru_vtv oR
  have HC1 := Lib.hid (show ∀ W, RowKit.Below w.heap.size w W → Calls Tryz.prog 16 #[.agg cx.toArray] W fun e w' => e = .returned (.int .i64 0) ∧ RowKit.Below W.heap.size W w' from fun W hb => by
    rw [← ha]; exact rvCheck_any x _ W (VD.at.below hb HX.out) hxw)
  have HC2 := Lib.hid (show ∀ W, RowKit.Below w.heap.size w W → Calls Tryz.prog 16 #[.agg cy.toArray] W fun e w' => e = .returned (.int .i64 0) ∧ RowKit.Below W.heap.size W w' from fun W hb' => by
    rw [← hb]; exact rvCheck_any y _ W (VD.at.below hb' HY.out) hyw)
  have HE1 := Lib.hid (show ∀ W, RowKit.Below w.heap.size w W → Calls Tryz.prog 11 #[.agg cx.toArray, .agg cy.toArray] W fun e w' => e = .returned (.tuple #[vtv kE yE, .int .i64 0]) ∧ RowKit.Below W.heap.size W w' from fun W hb => by
    have h := vEqual_any x y _ _ W (VD.at.below hb HX.out) (VD.at.below hb HY.out) hxw hyw (U8.below HU.out hb)
    rw [hgood, if_pos rfl, hoE, hvE] at h
    exact h)
  have HE2 := Lib.hid (show ∀ W, RowKit.Below w.heap.size w W → Calls Tryz.prog 11 #[.agg cy.toArray, .agg cx.toArray] W fun e w' => e = .returned (.tuple #[vtv kE yE, .int .i64 0]) ∧ RowKit.Below W.heap.size W w' from fun W hb => by
    have h := vEqual_any y x _ _ W (VD.at.below hb HY.out) (VD.at.below hb HX.out) hyw hxw (U8.below HU.out hb)
    rw [hgb, if_pos rfl, hoE2, hvE] at h
    exact h)
  have HE3 := Lib.hid (show ∀ W, RowKit.Below w.heap.size w W → Calls Tryz.prog 11 #[.agg cx.toArray, .agg cx.toArray] W fun e w' => e = .returned (.tuple #[vtv 1 true, .int .i64 0]) ∧ RowKit.Below W.heap.size W w' from fun W hb => by
    have h := vEqual_any x x _ _ W (VD.at.below hb HX.out) (VD.at.below hb HX.out) hxw hxw (U8.below HU.out hb)
    rw [hgx, if_pos rfl, hself] at h
    exact h)
  have HL1 := Lib.hid (show ∀ W, RowKit.Below w.heap.size w W → Calls Tryz.prog 13 #[.agg cx.toArray, .agg cy.toArray] W fun e w' => e = .returned (.tuple #[vtv 0 false, .int .i64 0]) ∧ RowKit.Below W.heap.size W w' from fun W hb => by
    have h := vLess_any x y _ _ W (VD.at.below hb HX.out) (VD.at.below hb HY.out) hxw hyw (U8.below HU.out hb)
    rw [hgood, if_pos rfl, hl] at h
    exact h)
  have HL2 := Lib.hid (show ∀ W, RowKit.Below w.heap.size w W → Calls Tryz.prog 13 #[.agg cy.toArray, .agg cx.toArray] W fun e w' => e = .returned (.tuple #[vtv 0 false, .int .i64 0]) ∧ RowKit.Below W.heap.size W w' from fun W hb => by
    have h := vLess_any y x _ _ W (VD.at.below hb HY.out) (VD.at.below hb HX.out) hyw hxw (U8.below HU.out hb)
    rw [hgb, if_pos rfl, hm] at h
    exact h)
  have HA := Lib.hid (show ∀ W, RowKit.Below w.heap.size w W → Calls Tryz.prog 20 #[.agg cx.toArray, .agg cy.toArray] W fun e w' => e = .returned (.tuple #[vtv kA yA, .int .i64 0]) ∧ RowKit.Below W.heap.size W w' from fun W hb => by
    have h := vAnd_any x y _ _ W (VD.at.below hb HX.out) (VD.at.below hb HY.out) hxw hyw (U8.below HU.out hb)
    rw [hgood, if_pos rfl, hoA, hvA] at h
    exact h)
  have HN1 := Lib.hid (show ∀ W, RowKit.Below w.heap.size w W → Calls Tryz.prog 24 #[.agg cx.toArray] W fun e w' => e = .returned (.tuple #[vtv kN yN, .int .i64 0]) ∧ RowKit.Below W.heap.size W w' from fun W hb' => by
    have h := vNot_any x _ W (VD.at.below hb' HX.out) hxw (U8.below HU.out hb')
    rw [ha, if_pos rfl, hoN, hvN] at h
    exact h)
  have HN2 := Lib.hid (show ∀ W, RowKit.Below w.heap.size w W → Calls Tryz.prog 24 #[.agg cy.toArray] W fun e w' => e = .returned (.tuple #[vtv kM yM, .int .i64 0]) ∧ RowKit.Below W.heap.size W w' from fun W hb' => by
    have h := vNot_any y _ W (VD.at.below hb' HY.out) hyw (U8.below HU.out hb')
    rw [hb, if_pos rfl, hoM, hvM] at h
    exact h)
  have HN3 := Lib.hid (show ∀ W, RowKit.Below w.heap.size w W → Calls Tryz.prog 24 #[vtv kA yA] W fun e w' => e = .returned (.tuple #[vtv kR yR, .int .i64 0]) ∧ RowKit.Below W.heap.size W w' from fun W hb' => by
    have h := vNot_any (tvD oA) (tvc oA) W (tvD_at oA W) (tvD_wf oA) (U8.below HU.out hb')
    rw [tvD_chk, if_pos rfl, tvD_truth, hoR, hvR] at h
    rw [← hvA]
    exact h)
  have HO := Lib.hid (show ∀ W, RowKit.Below w.heap.size w W → Calls Tryz.prog 22 #[vtv kN yN, vtv kM yM] W fun e w' => e = .returned (.tuple #[vtv kR yR, .int .i64 0]) ∧ RowKit.Below W.heap.size W w' from fun W hb' => by
    have h := vOr_any (tvD oN) (tvD oM) (tvc oN) (tvc oM) W (tvD_at oN W) (tvD_at oM W) (tvD_wf oN) (tvD_wf oM) (U8.below HU.out hb')
    rw [chk2_of (tvD_chk oN) (tvD_chk oM), if_pos rfl, tvD_truth, tvD_truth, hoO, hvR] at h
    rw [← hvN, ← hvM]
    exact h)
  have HS1 := Lib.hid (fun W => (show Calls Tryz.prog 14 #[vtv kE yE, vtv kE yE] W fun e w' => e = .returned (.bool true) ∧ RowKit.Below W.heap.size W w' from by
    have h := lsame_any oE oE W
    rw [hvE, decide_eq_true rfl] at h
    exact h))
  have HS2 := Lib.hid (fun W => (show Calls Tryz.prog 14 #[vtv kR yR, vtv kR yR] W fun e w' => e = .returned (.bool true) ∧ RowKit.Below W.heap.size W w' from by
    have h := lsame_any oR oR W
    rw [hvR, decide_eq_true rfl] at h
    exact h))
  have HIs := Lib.hid (fun W => (show Calls Tryz.prog 25 #[vtv 1 true, .bool true] W fun e w' => e = .returned (.bool true) ∧ RowKit.Below W.heap.size W w' from by
    have h := rIs_any 1 true false 0 0 0 ⟨#[]⟩ 0 none 0 0 none 0 0 true W
    exact h))
  clear ha hb fx fy hgx hgb hoE hoE2 hself hoA hoN hoM hoR hoO hvE hvA hvN hvM hvR hxw hyw hl hm hgood
  obtain ⟨k1, y1, ⟨ng1, hi1, lo1, sc1⟩, t1, d1, l1, ns1⟩ := x
  obtain ⟨k2, y2, ⟨ng2, hi2, lo2, sc2⟩, t2, d2, l2, ns2⟩ := y
  simp only [VD.at, vcs] at hx hy
  obtain ⟨lp1, np1, lc1, nc1, ls1, rfl, -⟩ := hx
  obtain ⟨lp2, np2, lc2, nc2, ls2, rfl, -⟩ := hy
  go_enter Tryz.func6, Tryz.ntmps6
  go_wp2_with (first | ((with_reducible refine skip_op ?_ ?_); exact rfl) | refine mP ?_ | (refine mS ?_; clear HM; intro W1 HM) | ((with_reducible refine iat 2 ?_); refine mB ?_; clear HM; intro g2 W1 HM) | ((with_reducible refine iat 3 ?_); refine mB ?_; clear HM; intro g3 W1 HM) | (refine hal (dst := some 5) HM rfl ?_; clear HM; intro g5 W1 HM) | (refine hal (dst := some 7) HM rfl ?_; clear HM; intro g7 W1 HM) | (refine hal (dst := some 9) HM rfl ?_; clear HM; intro g9 W1 HM) | (refine hal (dst := some 11) HM rfl ?_; clear HM; intro g11 W1 HM) | (refine hal (dst := some 13) HM rfl ?_; clear HM; intro g13 W1 HM) | (refine hal (dst := some 15) HM rfl ?_; clear HM; intro g15 W1 HM) | (refine hal (dst := some 18) HM rfl ?_; clear HM; intro g18 W1 HM) | (refine hal (dst := some 19) HM rfl ?_; clear HM; intro g19 W1 HM) | (refine hal (dst := some 20) HM rfl ?_; clear HM; intro g20 W1 HM) | (refine hal (dst := some 21) HM rfl ?_; clear HM; intro g21 W1 HM) | (refine hal (dst := some 22) HM rfl ?_; clear HM; intro g22 W1 HM) | (go_at_call 9; (with_reducible refine cB HM (vknown_any _ (U8.below HU.out HM.out.below)) ?_); clear HM; intro W1 HM) | (go_at_call 16; first | ((with_reducible refine cB HM (HC1.out _ HM.out.below) ?_); clear HM; intro W1 HM) | ((with_reducible refine cB HM (HC2.out _ HM.out.below) ?_); clear HM; intro W1 HM)) | (go_at_call 11; first | ((with_reducible refine cB HM (HE1.out _ HM.out.below) ?_); clear HM; intro W1 HM) | ((with_reducible refine cB HM (HE2.out _ HM.out.below) ?_); clear HM; intro W1 HM) | ((with_reducible refine cB HM (HE3.out _ HM.out.below) ?_); clear HM; intro W1 HM)) | (go_at_call 13; first | ((with_reducible refine cB HM (HL1.out _ HM.out.below) ?_); clear HM; intro W1 HM) | ((with_reducible refine cB HM (HL2.out _ HM.out.below) ?_); clear HM; intro W1 HM)) | (go_at_call 20; (with_reducible refine cB HM (HA.out _ HM.out.below) ?_); clear HM; intro W1 HM) | (go_at_call 24; first | ((with_reducible refine cB HM (HN1.out _ HM.out.below) ?_); clear HM; intro W1 HM) | ((with_reducible refine cB HM (HN2.out _ HM.out.below) ?_); clear HM; intro W1 HM) | ((with_reducible refine cB HM (HN3.out _ HM.out.below) ?_); clear HM; intro W1 HM)) | (go_at_call 22; (with_reducible refine cB HM (HO.out _ HM.out.below) ?_); clear HM; intro W1 HM) | (go_at_call 14; first | ((with_reducible refine cB HM (HS1.out _) ?_); clear HM; intro W1 HM) | ((with_reducible refine cB HM (HS2.out _) ?_); clear HM; intro W1 HM)) | (go_at_call 25; (with_reducible refine cB HM (HIs.out _) ?_); clear HM; intro W1 HM))
  go_ret
  exact ⟨rfl, HM.out.below⟩

set_option maxHeartbeats 32000000 in
theorem valueLogic_l (x y : VD) (cx cy : List Value) (w : World) (hx : x.at w cx) (hy : y.at w cy) (hxw : x.wf 1048576) (hyw : y.wf 1048576) (hu : U8 w) (hgood : chkL [x, y] = 0) (hl : VD.less x y = (some true)) (hm : VD.less y x = (some false)) (he : VD.eq x y = some false) :
    Calls Tryz.prog 6 #[.agg cx.toArray, .agg cy.toArray] w fun e w' => e = .returned (.bool true) ∧ RowKit.Below w.heap.size w w' := by
  have HM := Lib.hid (Mem.start w)
  have HX := Lib.hid hx
  have HY := Lib.hid hy
  have HU := Lib.hid hu
  obtain ⟨ha, hb⟩ := chk2_good hgood
  obtain ⟨fx, fy⟩ := chk2_form hgood
  have hgx := chk2_of ha ha
  have hgb := chk2_of hb ha
  obtain ⟨oE, hoE⟩ : ∃ o, VD.eq x y = o := ⟨_, rfl⟩
  have hoE2 : VD.eq y x = oE := by rw [← hoE]; exact (VD.eq_symm _ x y (Nat.le_refl _) fx fy).symm
  have hself : VD.eq x x = some true := VD.eq_self _ x (Nat.le_refl _) fx
  obtain ⟨oA, hoA⟩ : ∃ o, bothT x.truth y.truth = o := ⟨_, rfl⟩
  obtain ⟨oN, hoN⟩ : ∃ o, notT x.truth = o := ⟨_, rfl⟩
  obtain ⟨oM, hoM⟩ : ∃ o, notT y.truth = o := ⟨_, rfl⟩
  obtain ⟨oR, hoR⟩ : ∃ o, notT oA = o := ⟨_, rfl⟩
  have hoO : notT (bothT (notT oN) (notT oM)) = oR := by
    rw [← hoR, ← hoA, ← hoN, ← hoM]
    rcases x.truth with _ | _ | _ <;> rcases y.truth with _ | _ | _ <;> rfl
  have hvE : truV oE = vtv 1 false := by rw [← hoE, he]; rfl
  obtain ⟨kA, yA, hvA⟩ := tru_vtv oA
  obtain ⟨kN, yN, hvN⟩ := tru_vtv oN
  obtain ⟨kM, yM, hvM⟩ := tru_vtv oM
  obtain ⟨kR, yR, hvR⟩ := tru_vtv oR
  have HC1 := Lib.hid (show ∀ W, RowKit.Below w.heap.size w W → Calls Tryz.prog 16 #[.agg cx.toArray] W fun e w' => e = .returned (.int .i64 0) ∧ RowKit.Below W.heap.size W w' from fun W hb => by
    rw [← ha]; exact rvCheck_any x _ W (VD.at.below hb HX.out) hxw)
  have HC2 := Lib.hid (show ∀ W, RowKit.Below w.heap.size w W → Calls Tryz.prog 16 #[.agg cy.toArray] W fun e w' => e = .returned (.int .i64 0) ∧ RowKit.Below W.heap.size W w' from fun W hb' => by
    rw [← hb]; exact rvCheck_any y _ W (VD.at.below hb' HY.out) hyw)
  have HE1 := Lib.hid (show ∀ W, RowKit.Below w.heap.size w W → Calls Tryz.prog 11 #[.agg cx.toArray, .agg cy.toArray] W fun e w' => e = .returned (.tuple #[vtv 1 false, .int .i64 0]) ∧ RowKit.Below W.heap.size W w' from fun W hb => by
    have h := vEqual_any x y _ _ W (VD.at.below hb HX.out) (VD.at.below hb HY.out) hxw hyw (U8.below HU.out hb)
    rw [hgood, if_pos rfl, hoE, hvE] at h
    exact h)
  have HE2 := Lib.hid (show ∀ W, RowKit.Below w.heap.size w W → Calls Tryz.prog 11 #[.agg cy.toArray, .agg cx.toArray] W fun e w' => e = .returned (.tuple #[vtv 1 false, .int .i64 0]) ∧ RowKit.Below W.heap.size W w' from fun W hb => by
    have h := vEqual_any y x _ _ W (VD.at.below hb HY.out) (VD.at.below hb HX.out) hyw hxw (U8.below HU.out hb)
    rw [hgb, if_pos rfl, hoE2, hvE] at h
    exact h)
  have HE3 := Lib.hid (show ∀ W, RowKit.Below w.heap.size w W → Calls Tryz.prog 11 #[.agg cx.toArray, .agg cx.toArray] W fun e w' => e = .returned (.tuple #[vtv 1 true, .int .i64 0]) ∧ RowKit.Below W.heap.size W w' from fun W hb => by
    have h := vEqual_any x x _ _ W (VD.at.below hb HX.out) (VD.at.below hb HX.out) hxw hxw (U8.below HU.out hb)
    rw [hgx, if_pos rfl, hself] at h
    exact h)
  have HL1 := Lib.hid (show ∀ W, RowKit.Below w.heap.size w W → Calls Tryz.prog 13 #[.agg cx.toArray, .agg cy.toArray] W fun e w' => e = .returned (.tuple #[vtv 1 true, .int .i64 0]) ∧ RowKit.Below W.heap.size W w' from fun W hb => by
    have h := vLess_any x y _ _ W (VD.at.below hb HX.out) (VD.at.below hb HY.out) hxw hyw (U8.below HU.out hb)
    rw [hgood, if_pos rfl, hl] at h
    exact h)
  have HL2 := Lib.hid (show ∀ W, RowKit.Below w.heap.size w W → Calls Tryz.prog 13 #[.agg cy.toArray, .agg cx.toArray] W fun e w' => e = .returned (.tuple #[vtv 1 false, .int .i64 0]) ∧ RowKit.Below W.heap.size W w' from fun W hb => by
    have h := vLess_any y x _ _ W (VD.at.below hb HY.out) (VD.at.below hb HX.out) hyw hxw (U8.below HU.out hb)
    rw [hgb, if_pos rfl, hm] at h
    exact h)
  have HA := Lib.hid (show ∀ W, RowKit.Below w.heap.size w W → Calls Tryz.prog 20 #[.agg cx.toArray, .agg cy.toArray] W fun e w' => e = .returned (.tuple #[vtv kA yA, .int .i64 0]) ∧ RowKit.Below W.heap.size W w' from fun W hb => by
    have h := vAnd_any x y _ _ W (VD.at.below hb HX.out) (VD.at.below hb HY.out) hxw hyw (U8.below HU.out hb)
    rw [hgood, if_pos rfl, hoA, hvA] at h
    exact h)
  have HN1 := Lib.hid (show ∀ W, RowKit.Below w.heap.size w W → Calls Tryz.prog 24 #[.agg cx.toArray] W fun e w' => e = .returned (.tuple #[vtv kN yN, .int .i64 0]) ∧ RowKit.Below W.heap.size W w' from fun W hb' => by
    have h := vNot_any x _ W (VD.at.below hb' HX.out) hxw (U8.below HU.out hb')
    rw [ha, if_pos rfl, hoN, hvN] at h
    exact h)
  have HN2 := Lib.hid (show ∀ W, RowKit.Below w.heap.size w W → Calls Tryz.prog 24 #[.agg cy.toArray] W fun e w' => e = .returned (.tuple #[vtv kM yM, .int .i64 0]) ∧ RowKit.Below W.heap.size W w' from fun W hb' => by
    have h := vNot_any y _ W (VD.at.below hb' HY.out) hyw (U8.below HU.out hb')
    rw [hb, if_pos rfl, hoM, hvM] at h
    exact h)
  have HN3 := Lib.hid (show ∀ W, RowKit.Below w.heap.size w W → Calls Tryz.prog 24 #[vtv kA yA] W fun e w' => e = .returned (.tuple #[vtv kR yR, .int .i64 0]) ∧ RowKit.Below W.heap.size W w' from fun W hb' => by
    have h := vNot_any (tvD oA) (tvc oA) W (tvD_at oA W) (tvD_wf oA) (U8.below HU.out hb')
    rw [tvD_chk, if_pos rfl, tvD_truth, hoR, hvR] at h
    rw [← hvA]
    exact h)
  have HO := Lib.hid (show ∀ W, RowKit.Below w.heap.size w W → Calls Tryz.prog 22 #[vtv kN yN, vtv kM yM] W fun e w' => e = .returned (.tuple #[vtv kR yR, .int .i64 0]) ∧ RowKit.Below W.heap.size W w' from fun W hb' => by
    have h := vOr_any (tvD oN) (tvD oM) (tvc oN) (tvc oM) W (tvD_at oN W) (tvD_at oM W) (tvD_wf oN) (tvD_wf oM) (U8.below HU.out hb')
    rw [chk2_of (tvD_chk oN) (tvD_chk oM), if_pos rfl, tvD_truth, tvD_truth, hoO, hvR] at h
    rw [← hvN, ← hvM]
    exact h)
  have HS1 := Lib.hid (fun W => (show Calls Tryz.prog 14 #[vtv 1 false, vtv 1 false] W fun e w' => e = .returned (.bool true) ∧ RowKit.Below W.heap.size W w' from by
    have h := lsame_any oE oE W
    rw [hvE, decide_eq_true rfl] at h
    exact h))
  have HS2 := Lib.hid (fun W => (show Calls Tryz.prog 14 #[vtv kR yR, vtv kR yR] W fun e w' => e = .returned (.bool true) ∧ RowKit.Below W.heap.size W w' from by
    have h := lsame_any oR oR W
    rw [hvR, decide_eq_true rfl] at h
    exact h))
  have HIs := Lib.hid (fun W => (show Calls Tryz.prog 25 #[vtv 1 true, .bool true] W fun e w' => e = .returned (.bool true) ∧ RowKit.Below W.heap.size W w' from by
    have h := rIs_any 1 true false 0 0 0 ⟨#[]⟩ 0 none 0 0 none 0 0 true W
    exact h))
  clear ha hb fx fy hgx hgb hoE hoE2 hself hoA hoN hoM hoR hoO hvE hvA hvN hvM hvR hxw hyw hl hm he hgood
  obtain ⟨k1, y1, ⟨ng1, hi1, lo1, sc1⟩, t1, d1, l1, ns1⟩ := x
  obtain ⟨k2, y2, ⟨ng2, hi2, lo2, sc2⟩, t2, d2, l2, ns2⟩ := y
  simp only [VD.at, vcs] at hx hy
  obtain ⟨lp1, np1, lc1, nc1, ls1, rfl, -⟩ := hx
  obtain ⟨lp2, np2, lc2, nc2, ls2, rfl, -⟩ := hy
  go_enter Tryz.func6, Tryz.ntmps6
  go_wp2_with (first | ((with_reducible refine skip_op ?_ ?_); exact rfl) | refine mP ?_ | (refine mS ?_; clear HM; intro W1 HM) | ((with_reducible refine iat 2 ?_); refine mB ?_; clear HM; intro g2 W1 HM) | ((with_reducible refine iat 3 ?_); refine mB ?_; clear HM; intro g3 W1 HM) | (refine hal (dst := some 5) HM rfl ?_; clear HM; intro g5 W1 HM) | (refine hal (dst := some 7) HM rfl ?_; clear HM; intro g7 W1 HM) | (refine hal (dst := some 9) HM rfl ?_; clear HM; intro g9 W1 HM) | (refine hal (dst := some 11) HM rfl ?_; clear HM; intro g11 W1 HM) | (refine hal (dst := some 13) HM rfl ?_; clear HM; intro g13 W1 HM) | (refine hal (dst := some 15) HM rfl ?_; clear HM; intro g15 W1 HM) | (refine hal (dst := some 18) HM rfl ?_; clear HM; intro g18 W1 HM) | (refine hal (dst := some 19) HM rfl ?_; clear HM; intro g19 W1 HM) | (refine hal (dst := some 20) HM rfl ?_; clear HM; intro g20 W1 HM) | (refine hal (dst := some 21) HM rfl ?_; clear HM; intro g21 W1 HM) | (refine hal (dst := some 22) HM rfl ?_; clear HM; intro g22 W1 HM) | (go_at_call 9; (with_reducible refine cB HM (vknown_any _ (U8.below HU.out HM.out.below)) ?_); clear HM; intro W1 HM) | (go_at_call 16; first | ((with_reducible refine cB HM (HC1.out _ HM.out.below) ?_); clear HM; intro W1 HM) | ((with_reducible refine cB HM (HC2.out _ HM.out.below) ?_); clear HM; intro W1 HM)) | (go_at_call 11; first | ((with_reducible refine cB HM (HE1.out _ HM.out.below) ?_); clear HM; intro W1 HM) | ((with_reducible refine cB HM (HE2.out _ HM.out.below) ?_); clear HM; intro W1 HM) | ((with_reducible refine cB HM (HE3.out _ HM.out.below) ?_); clear HM; intro W1 HM)) | (go_at_call 13; first | ((with_reducible refine cB HM (HL1.out _ HM.out.below) ?_); clear HM; intro W1 HM) | ((with_reducible refine cB HM (HL2.out _ HM.out.below) ?_); clear HM; intro W1 HM)) | (go_at_call 20; (with_reducible refine cB HM (HA.out _ HM.out.below) ?_); clear HM; intro W1 HM) | (go_at_call 24; first | ((with_reducible refine cB HM (HN1.out _ HM.out.below) ?_); clear HM; intro W1 HM) | ((with_reducible refine cB HM (HN2.out _ HM.out.below) ?_); clear HM; intro W1 HM) | ((with_reducible refine cB HM (HN3.out _ HM.out.below) ?_); clear HM; intro W1 HM)) | (go_at_call 22; (with_reducible refine cB HM (HO.out _ HM.out.below) ?_); clear HM; intro W1 HM) | (go_at_call 14; first | ((with_reducible refine cB HM (HS1.out _) ?_); clear HM; intro W1 HM) | ((with_reducible refine cB HM (HS2.out _) ?_); clear HM; intro W1 HM)) | (go_at_call 25; (with_reducible refine cB HM (HIs.out _) ?_); clear HM; intro W1 HM))
  go_ret
  exact ⟨rfl, HM.out.below⟩

set_option maxHeartbeats 32000000 in
theorem valueLogic_m (x y : VD) (cx cy : List Value) (w : World) (hx : x.at w cx) (hy : y.at w cy) (hxw : x.wf 1048576) (hyw : y.wf 1048576) (hu : U8 w) (hgood : chkL [x, y] = 0) (hl : VD.less x y = (some false)) (hm : VD.less y x = (some true)) (he : VD.eq x y = some false) :
    Calls Tryz.prog 6 #[.agg cx.toArray, .agg cy.toArray] w fun e w' => e = .returned (.bool true) ∧ RowKit.Below w.heap.size w w' := by
  have HM := Lib.hid (Mem.start w)
  have HX := Lib.hid hx
  have HY := Lib.hid hy
  have HU := Lib.hid hu
  obtain ⟨ha, hb⟩ := chk2_good hgood
  obtain ⟨fx, fy⟩ := chk2_form hgood
  have hgx := chk2_of ha ha
  have hgb := chk2_of hb ha
  obtain ⟨oE, hoE⟩ : ∃ o, VD.eq x y = o := ⟨_, rfl⟩
  have hoE2 : VD.eq y x = oE := by rw [← hoE]; exact (VD.eq_symm _ x y (Nat.le_refl _) fx fy).symm
  have hself : VD.eq x x = some true := VD.eq_self _ x (Nat.le_refl _) fx
  obtain ⟨oA, hoA⟩ : ∃ o, bothT x.truth y.truth = o := ⟨_, rfl⟩
  obtain ⟨oN, hoN⟩ : ∃ o, notT x.truth = o := ⟨_, rfl⟩
  obtain ⟨oM, hoM⟩ : ∃ o, notT y.truth = o := ⟨_, rfl⟩
  obtain ⟨oR, hoR⟩ : ∃ o, notT oA = o := ⟨_, rfl⟩
  have hoO : notT (bothT (notT oN) (notT oM)) = oR := by
    rw [← hoR, ← hoA, ← hoN, ← hoM]
    rcases x.truth with _ | _ | _ <;> rcases y.truth with _ | _ | _ <;> rfl
  have hvE : truV oE = vtv 1 false := by rw [← hoE, he]; rfl
  obtain ⟨kA, yA, hvA⟩ := tru_vtv oA
  obtain ⟨kN, yN, hvN⟩ := tru_vtv oN
  obtain ⟨kM, yM, hvM⟩ := tru_vtv oM
  obtain ⟨kR, yR, hvR⟩ := tru_vtv oR
  have HC1 := Lib.hid (show ∀ W, RowKit.Below w.heap.size w W → Calls Tryz.prog 16 #[.agg cx.toArray] W fun e w' => e = .returned (.int .i64 0) ∧ RowKit.Below W.heap.size W w' from fun W hb => by
    rw [← ha]; exact rvCheck_any x _ W (VD.at.below hb HX.out) hxw)
  have HC2 := Lib.hid (show ∀ W, RowKit.Below w.heap.size w W → Calls Tryz.prog 16 #[.agg cy.toArray] W fun e w' => e = .returned (.int .i64 0) ∧ RowKit.Below W.heap.size W w' from fun W hb' => by
    rw [← hb]; exact rvCheck_any y _ W (VD.at.below hb' HY.out) hyw)
  have HE1 := Lib.hid (show ∀ W, RowKit.Below w.heap.size w W → Calls Tryz.prog 11 #[.agg cx.toArray, .agg cy.toArray] W fun e w' => e = .returned (.tuple #[vtv 1 false, .int .i64 0]) ∧ RowKit.Below W.heap.size W w' from fun W hb => by
    have h := vEqual_any x y _ _ W (VD.at.below hb HX.out) (VD.at.below hb HY.out) hxw hyw (U8.below HU.out hb)
    rw [hgood, if_pos rfl, hoE, hvE] at h
    exact h)
  have HE2 := Lib.hid (show ∀ W, RowKit.Below w.heap.size w W → Calls Tryz.prog 11 #[.agg cy.toArray, .agg cx.toArray] W fun e w' => e = .returned (.tuple #[vtv 1 false, .int .i64 0]) ∧ RowKit.Below W.heap.size W w' from fun W hb => by
    have h := vEqual_any y x _ _ W (VD.at.below hb HY.out) (VD.at.below hb HX.out) hyw hxw (U8.below HU.out hb)
    rw [hgb, if_pos rfl, hoE2, hvE] at h
    exact h)
  have HE3 := Lib.hid (show ∀ W, RowKit.Below w.heap.size w W → Calls Tryz.prog 11 #[.agg cx.toArray, .agg cx.toArray] W fun e w' => e = .returned (.tuple #[vtv 1 true, .int .i64 0]) ∧ RowKit.Below W.heap.size W w' from fun W hb => by
    have h := vEqual_any x x _ _ W (VD.at.below hb HX.out) (VD.at.below hb HX.out) hxw hxw (U8.below HU.out hb)
    rw [hgx, if_pos rfl, hself] at h
    exact h)
  have HL1 := Lib.hid (show ∀ W, RowKit.Below w.heap.size w W → Calls Tryz.prog 13 #[.agg cx.toArray, .agg cy.toArray] W fun e w' => e = .returned (.tuple #[vtv 1 false, .int .i64 0]) ∧ RowKit.Below W.heap.size W w' from fun W hb => by
    have h := vLess_any x y _ _ W (VD.at.below hb HX.out) (VD.at.below hb HY.out) hxw hyw (U8.below HU.out hb)
    rw [hgood, if_pos rfl, hl] at h
    exact h)
  have HL2 := Lib.hid (show ∀ W, RowKit.Below w.heap.size w W → Calls Tryz.prog 13 #[.agg cy.toArray, .agg cx.toArray] W fun e w' => e = .returned (.tuple #[vtv 1 true, .int .i64 0]) ∧ RowKit.Below W.heap.size W w' from fun W hb => by
    have h := vLess_any y x _ _ W (VD.at.below hb HY.out) (VD.at.below hb HX.out) hyw hxw (U8.below HU.out hb)
    rw [hgb, if_pos rfl, hm] at h
    exact h)
  have HA := Lib.hid (show ∀ W, RowKit.Below w.heap.size w W → Calls Tryz.prog 20 #[.agg cx.toArray, .agg cy.toArray] W fun e w' => e = .returned (.tuple #[vtv kA yA, .int .i64 0]) ∧ RowKit.Below W.heap.size W w' from fun W hb => by
    have h := vAnd_any x y _ _ W (VD.at.below hb HX.out) (VD.at.below hb HY.out) hxw hyw (U8.below HU.out hb)
    rw [hgood, if_pos rfl, hoA, hvA] at h
    exact h)
  have HN1 := Lib.hid (show ∀ W, RowKit.Below w.heap.size w W → Calls Tryz.prog 24 #[.agg cx.toArray] W fun e w' => e = .returned (.tuple #[vtv kN yN, .int .i64 0]) ∧ RowKit.Below W.heap.size W w' from fun W hb' => by
    have h := vNot_any x _ W (VD.at.below hb' HX.out) hxw (U8.below HU.out hb')
    rw [ha, if_pos rfl, hoN, hvN] at h
    exact h)
  have HN2 := Lib.hid (show ∀ W, RowKit.Below w.heap.size w W → Calls Tryz.prog 24 #[.agg cy.toArray] W fun e w' => e = .returned (.tuple #[vtv kM yM, .int .i64 0]) ∧ RowKit.Below W.heap.size W w' from fun W hb' => by
    have h := vNot_any y _ W (VD.at.below hb' HY.out) hyw (U8.below HU.out hb')
    rw [hb, if_pos rfl, hoM, hvM] at h
    exact h)
  have HN3 := Lib.hid (show ∀ W, RowKit.Below w.heap.size w W → Calls Tryz.prog 24 #[vtv kA yA] W fun e w' => e = .returned (.tuple #[vtv kR yR, .int .i64 0]) ∧ RowKit.Below W.heap.size W w' from fun W hb' => by
    have h := vNot_any (tvD oA) (tvc oA) W (tvD_at oA W) (tvD_wf oA) (U8.below HU.out hb')
    rw [tvD_chk, if_pos rfl, tvD_truth, hoR, hvR] at h
    rw [← hvA]
    exact h)
  have HO := Lib.hid (show ∀ W, RowKit.Below w.heap.size w W → Calls Tryz.prog 22 #[vtv kN yN, vtv kM yM] W fun e w' => e = .returned (.tuple #[vtv kR yR, .int .i64 0]) ∧ RowKit.Below W.heap.size W w' from fun W hb' => by
    have h := vOr_any (tvD oN) (tvD oM) (tvc oN) (tvc oM) W (tvD_at oN W) (tvD_at oM W) (tvD_wf oN) (tvD_wf oM) (U8.below HU.out hb')
    rw [chk2_of (tvD_chk oN) (tvD_chk oM), if_pos rfl, tvD_truth, tvD_truth, hoO, hvR] at h
    rw [← hvN, ← hvM]
    exact h)
  have HS1 := Lib.hid (fun W => (show Calls Tryz.prog 14 #[vtv 1 false, vtv 1 false] W fun e w' => e = .returned (.bool true) ∧ RowKit.Below W.heap.size W w' from by
    have h := lsame_any oE oE W
    rw [hvE, decide_eq_true rfl] at h
    exact h))
  have HS2 := Lib.hid (fun W => (show Calls Tryz.prog 14 #[vtv kR yR, vtv kR yR] W fun e w' => e = .returned (.bool true) ∧ RowKit.Below W.heap.size W w' from by
    have h := lsame_any oR oR W
    rw [hvR, decide_eq_true rfl] at h
    exact h))
  have HIs := Lib.hid (fun W => (show Calls Tryz.prog 25 #[vtv 1 true, .bool true] W fun e w' => e = .returned (.bool true) ∧ RowKit.Below W.heap.size W w' from by
    have h := rIs_any 1 true false 0 0 0 ⟨#[]⟩ 0 none 0 0 none 0 0 true W
    exact h))
  clear ha hb fx fy hgx hgb hoE hoE2 hself hoA hoN hoM hoR hoO hvE hvA hvN hvM hvR hxw hyw hl hm he hgood
  obtain ⟨k1, y1, ⟨ng1, hi1, lo1, sc1⟩, t1, d1, l1, ns1⟩ := x
  obtain ⟨k2, y2, ⟨ng2, hi2, lo2, sc2⟩, t2, d2, l2, ns2⟩ := y
  simp only [VD.at, vcs] at hx hy
  obtain ⟨lp1, np1, lc1, nc1, ls1, rfl, -⟩ := hx
  obtain ⟨lp2, np2, lc2, nc2, ls2, rfl, -⟩ := hy
  go_enter Tryz.func6, Tryz.ntmps6
  go_wp2_with (first | ((with_reducible refine skip_op ?_ ?_); exact rfl) | refine mP ?_ | (refine mS ?_; clear HM; intro W1 HM) | ((with_reducible refine iat 2 ?_); refine mB ?_; clear HM; intro g2 W1 HM) | ((with_reducible refine iat 3 ?_); refine mB ?_; clear HM; intro g3 W1 HM) | (refine hal (dst := some 5) HM rfl ?_; clear HM; intro g5 W1 HM) | (refine hal (dst := some 7) HM rfl ?_; clear HM; intro g7 W1 HM) | (refine hal (dst := some 9) HM rfl ?_; clear HM; intro g9 W1 HM) | (refine hal (dst := some 11) HM rfl ?_; clear HM; intro g11 W1 HM) | (refine hal (dst := some 13) HM rfl ?_; clear HM; intro g13 W1 HM) | (refine hal (dst := some 15) HM rfl ?_; clear HM; intro g15 W1 HM) | (refine hal (dst := some 18) HM rfl ?_; clear HM; intro g18 W1 HM) | (refine hal (dst := some 19) HM rfl ?_; clear HM; intro g19 W1 HM) | (refine hal (dst := some 20) HM rfl ?_; clear HM; intro g20 W1 HM) | (refine hal (dst := some 21) HM rfl ?_; clear HM; intro g21 W1 HM) | (refine hal (dst := some 22) HM rfl ?_; clear HM; intro g22 W1 HM) | (go_at_call 9; (with_reducible refine cB HM (vknown_any _ (U8.below HU.out HM.out.below)) ?_); clear HM; intro W1 HM) | (go_at_call 16; first | ((with_reducible refine cB HM (HC1.out _ HM.out.below) ?_); clear HM; intro W1 HM) | ((with_reducible refine cB HM (HC2.out _ HM.out.below) ?_); clear HM; intro W1 HM)) | (go_at_call 11; first | ((with_reducible refine cB HM (HE1.out _ HM.out.below) ?_); clear HM; intro W1 HM) | ((with_reducible refine cB HM (HE2.out _ HM.out.below) ?_); clear HM; intro W1 HM) | ((with_reducible refine cB HM (HE3.out _ HM.out.below) ?_); clear HM; intro W1 HM)) | (go_at_call 13; first | ((with_reducible refine cB HM (HL1.out _ HM.out.below) ?_); clear HM; intro W1 HM) | ((with_reducible refine cB HM (HL2.out _ HM.out.below) ?_); clear HM; intro W1 HM)) | (go_at_call 20; (with_reducible refine cB HM (HA.out _ HM.out.below) ?_); clear HM; intro W1 HM) | (go_at_call 24; first | ((with_reducible refine cB HM (HN1.out _ HM.out.below) ?_); clear HM; intro W1 HM) | ((with_reducible refine cB HM (HN2.out _ HM.out.below) ?_); clear HM; intro W1 HM) | ((with_reducible refine cB HM (HN3.out _ HM.out.below) ?_); clear HM; intro W1 HM)) | (go_at_call 22; (with_reducible refine cB HM (HO.out _ HM.out.below) ?_); clear HM; intro W1 HM) | (go_at_call 14; first | ((with_reducible refine cB HM (HS1.out _) ?_); clear HM; intro W1 HM) | ((with_reducible refine cB HM (HS2.out _) ?_); clear HM; intro W1 HM)) | (go_at_call 25; (with_reducible refine cB HM (HIs.out _) ?_); clear HM; intro W1 HM))
  go_ret
  exact ⟨rfl, HM.out.below⟩

set_option maxHeartbeats 32000000 in
theorem valueLogic_e (x y : VD) (cx cy : List Value) (w : World) (hx : x.at w cx) (hy : y.at w cy) (hxw : x.wf 1048576) (hyw : y.wf 1048576) (hu : U8 w) (hgood : chkL [x, y] = 0) (hl : VD.less x y = (some false)) (hm : VD.less y x = (some false)) (he : VD.eq x y = some true) :
    Calls Tryz.prog 6 #[.agg cx.toArray, .agg cy.toArray] w fun e w' => e = .returned (.bool true) ∧ RowKit.Below w.heap.size w w' := by
  have HM := Lib.hid (Mem.start w)
  have HX := Lib.hid hx
  have HY := Lib.hid hy
  have HU := Lib.hid hu
  obtain ⟨ha, hb⟩ := chk2_good hgood
  obtain ⟨fx, fy⟩ := chk2_form hgood
  have hgx := chk2_of ha ha
  have hgb := chk2_of hb ha
  obtain ⟨oE, hoE⟩ : ∃ o, VD.eq x y = o := ⟨_, rfl⟩
  have hoE2 : VD.eq y x = oE := by rw [← hoE]; exact (VD.eq_symm _ x y (Nat.le_refl _) fx fy).symm
  have hself : VD.eq x x = some true := VD.eq_self _ x (Nat.le_refl _) fx
  obtain ⟨oA, hoA⟩ : ∃ o, bothT x.truth y.truth = o := ⟨_, rfl⟩
  obtain ⟨oN, hoN⟩ : ∃ o, notT x.truth = o := ⟨_, rfl⟩
  obtain ⟨oM, hoM⟩ : ∃ o, notT y.truth = o := ⟨_, rfl⟩
  obtain ⟨oR, hoR⟩ : ∃ o, notT oA = o := ⟨_, rfl⟩
  have hoO : notT (bothT (notT oN) (notT oM)) = oR := by
    rw [← hoR, ← hoA, ← hoN, ← hoM]
    rcases x.truth with _ | _ | _ <;> rcases y.truth with _ | _ | _ <;> rfl
  have hvE : truV oE = vtv 1 true := by rw [← hoE, he]; rfl
  obtain ⟨kA, yA, hvA⟩ := tru_vtv oA
  obtain ⟨kN, yN, hvN⟩ := tru_vtv oN
  obtain ⟨kM, yM, hvM⟩ := tru_vtv oM
  obtain ⟨kR, yR, hvR⟩ := tru_vtv oR
  have HC1 := Lib.hid (show ∀ W, RowKit.Below w.heap.size w W → Calls Tryz.prog 16 #[.agg cx.toArray] W fun e w' => e = .returned (.int .i64 0) ∧ RowKit.Below W.heap.size W w' from fun W hb => by
    rw [← ha]; exact rvCheck_any x _ W (VD.at.below hb HX.out) hxw)
  have HC2 := Lib.hid (show ∀ W, RowKit.Below w.heap.size w W → Calls Tryz.prog 16 #[.agg cy.toArray] W fun e w' => e = .returned (.int .i64 0) ∧ RowKit.Below W.heap.size W w' from fun W hb' => by
    rw [← hb]; exact rvCheck_any y _ W (VD.at.below hb' HY.out) hyw)
  have HE1 := Lib.hid (show ∀ W, RowKit.Below w.heap.size w W → Calls Tryz.prog 11 #[.agg cx.toArray, .agg cy.toArray] W fun e w' => e = .returned (.tuple #[vtv 1 true, .int .i64 0]) ∧ RowKit.Below W.heap.size W w' from fun W hb => by
    have h := vEqual_any x y _ _ W (VD.at.below hb HX.out) (VD.at.below hb HY.out) hxw hyw (U8.below HU.out hb)
    rw [hgood, if_pos rfl, hoE, hvE] at h
    exact h)
  have HE2 := Lib.hid (show ∀ W, RowKit.Below w.heap.size w W → Calls Tryz.prog 11 #[.agg cy.toArray, .agg cx.toArray] W fun e w' => e = .returned (.tuple #[vtv 1 true, .int .i64 0]) ∧ RowKit.Below W.heap.size W w' from fun W hb => by
    have h := vEqual_any y x _ _ W (VD.at.below hb HY.out) (VD.at.below hb HX.out) hyw hxw (U8.below HU.out hb)
    rw [hgb, if_pos rfl, hoE2, hvE] at h
    exact h)
  have HE3 := Lib.hid (show ∀ W, RowKit.Below w.heap.size w W → Calls Tryz.prog 11 #[.agg cx.toArray, .agg cx.toArray] W fun e w' => e = .returned (.tuple #[vtv 1 true, .int .i64 0]) ∧ RowKit.Below W.heap.size W w' from fun W hb => by
    have h := vEqual_any x x _ _ W (VD.at.below hb HX.out) (VD.at.below hb HX.out) hxw hxw (U8.below HU.out hb)
    rw [hgx, if_pos rfl, hself] at h
    exact h)
  have HL1 := Lib.hid (show ∀ W, RowKit.Below w.heap.size w W → Calls Tryz.prog 13 #[.agg cx.toArray, .agg cy.toArray] W fun e w' => e = .returned (.tuple #[vtv 1 false, .int .i64 0]) ∧ RowKit.Below W.heap.size W w' from fun W hb => by
    have h := vLess_any x y _ _ W (VD.at.below hb HX.out) (VD.at.below hb HY.out) hxw hyw (U8.below HU.out hb)
    rw [hgood, if_pos rfl, hl] at h
    exact h)
  have HL2 := Lib.hid (show ∀ W, RowKit.Below w.heap.size w W → Calls Tryz.prog 13 #[.agg cy.toArray, .agg cx.toArray] W fun e w' => e = .returned (.tuple #[vtv 1 false, .int .i64 0]) ∧ RowKit.Below W.heap.size W w' from fun W hb => by
    have h := vLess_any y x _ _ W (VD.at.below hb HY.out) (VD.at.below hb HX.out) hyw hxw (U8.below HU.out hb)
    rw [hgb, if_pos rfl, hm] at h
    exact h)
  have HA := Lib.hid (show ∀ W, RowKit.Below w.heap.size w W → Calls Tryz.prog 20 #[.agg cx.toArray, .agg cy.toArray] W fun e w' => e = .returned (.tuple #[vtv kA yA, .int .i64 0]) ∧ RowKit.Below W.heap.size W w' from fun W hb => by
    have h := vAnd_any x y _ _ W (VD.at.below hb HX.out) (VD.at.below hb HY.out) hxw hyw (U8.below HU.out hb)
    rw [hgood, if_pos rfl, hoA, hvA] at h
    exact h)
  have HN1 := Lib.hid (show ∀ W, RowKit.Below w.heap.size w W → Calls Tryz.prog 24 #[.agg cx.toArray] W fun e w' => e = .returned (.tuple #[vtv kN yN, .int .i64 0]) ∧ RowKit.Below W.heap.size W w' from fun W hb' => by
    have h := vNot_any x _ W (VD.at.below hb' HX.out) hxw (U8.below HU.out hb')
    rw [ha, if_pos rfl, hoN, hvN] at h
    exact h)
  have HN2 := Lib.hid (show ∀ W, RowKit.Below w.heap.size w W → Calls Tryz.prog 24 #[.agg cy.toArray] W fun e w' => e = .returned (.tuple #[vtv kM yM, .int .i64 0]) ∧ RowKit.Below W.heap.size W w' from fun W hb' => by
    have h := vNot_any y _ W (VD.at.below hb' HY.out) hyw (U8.below HU.out hb')
    rw [hb, if_pos rfl, hoM, hvM] at h
    exact h)
  have HN3 := Lib.hid (show ∀ W, RowKit.Below w.heap.size w W → Calls Tryz.prog 24 #[vtv kA yA] W fun e w' => e = .returned (.tuple #[vtv kR yR, .int .i64 0]) ∧ RowKit.Below W.heap.size W w' from fun W hb' => by
    have h := vNot_any (tvD oA) (tvc oA) W (tvD_at oA W) (tvD_wf oA) (U8.below HU.out hb')
    rw [tvD_chk, if_pos rfl, tvD_truth, hoR, hvR] at h
    rw [← hvA]
    exact h)
  have HO := Lib.hid (show ∀ W, RowKit.Below w.heap.size w W → Calls Tryz.prog 22 #[vtv kN yN, vtv kM yM] W fun e w' => e = .returned (.tuple #[vtv kR yR, .int .i64 0]) ∧ RowKit.Below W.heap.size W w' from fun W hb' => by
    have h := vOr_any (tvD oN) (tvD oM) (tvc oN) (tvc oM) W (tvD_at oN W) (tvD_at oM W) (tvD_wf oN) (tvD_wf oM) (U8.below HU.out hb')
    rw [chk2_of (tvD_chk oN) (tvD_chk oM), if_pos rfl, tvD_truth, tvD_truth, hoO, hvR] at h
    rw [← hvN, ← hvM]
    exact h)
  have HS1 := Lib.hid (fun W => (show Calls Tryz.prog 14 #[vtv 1 true, vtv 1 true] W fun e w' => e = .returned (.bool true) ∧ RowKit.Below W.heap.size W w' from by
    have h := lsame_any oE oE W
    rw [hvE, decide_eq_true rfl] at h
    exact h))
  have HS2 := Lib.hid (fun W => (show Calls Tryz.prog 14 #[vtv kR yR, vtv kR yR] W fun e w' => e = .returned (.bool true) ∧ RowKit.Below W.heap.size W w' from by
    have h := lsame_any oR oR W
    rw [hvR, decide_eq_true rfl] at h
    exact h))
  have HIs := Lib.hid (fun W => (show Calls Tryz.prog 25 #[vtv 1 true, .bool true] W fun e w' => e = .returned (.bool true) ∧ RowKit.Below W.heap.size W w' from by
    have h := rIs_any 1 true false 0 0 0 ⟨#[]⟩ 0 none 0 0 none 0 0 true W
    exact h))
  clear ha hb fx fy hgx hgb hoE hoE2 hself hoA hoN hoM hoR hoO hvE hvA hvN hvM hvR hxw hyw hl hm he hgood
  obtain ⟨k1, y1, ⟨ng1, hi1, lo1, sc1⟩, t1, d1, l1, ns1⟩ := x
  obtain ⟨k2, y2, ⟨ng2, hi2, lo2, sc2⟩, t2, d2, l2, ns2⟩ := y
  simp only [VD.at, vcs] at hx hy
  obtain ⟨lp1, np1, lc1, nc1, ls1, rfl, -⟩ := hx
  obtain ⟨lp2, np2, lc2, nc2, ls2, rfl, -⟩ := hy
  go_enter Tryz.func6, Tryz.ntmps6
  go_wp2_with (first | ((with_reducible refine skip_op ?_ ?_); exact rfl) | refine mP ?_ | (refine mS ?_; clear HM; intro W1 HM) | ((with_reducible refine iat 2 ?_); refine mB ?_; clear HM; intro g2 W1 HM) | ((with_reducible refine iat 3 ?_); refine mB ?_; clear HM; intro g3 W1 HM) | (refine hal (dst := some 5) HM rfl ?_; clear HM; intro g5 W1 HM) | (refine hal (dst := some 7) HM rfl ?_; clear HM; intro g7 W1 HM) | (refine hal (dst := some 9) HM rfl ?_; clear HM; intro g9 W1 HM) | (refine hal (dst := some 11) HM rfl ?_; clear HM; intro g11 W1 HM) | (refine hal (dst := some 13) HM rfl ?_; clear HM; intro g13 W1 HM) | (refine hal (dst := some 15) HM rfl ?_; clear HM; intro g15 W1 HM) | (refine hal (dst := some 18) HM rfl ?_; clear HM; intro g18 W1 HM) | (refine hal (dst := some 19) HM rfl ?_; clear HM; intro g19 W1 HM) | (refine hal (dst := some 20) HM rfl ?_; clear HM; intro g20 W1 HM) | (refine hal (dst := some 21) HM rfl ?_; clear HM; intro g21 W1 HM) | (refine hal (dst := some 22) HM rfl ?_; clear HM; intro g22 W1 HM) | (go_at_call 9; (with_reducible refine cB HM (vknown_any _ (U8.below HU.out HM.out.below)) ?_); clear HM; intro W1 HM) | (go_at_call 16; first | ((with_reducible refine cB HM (HC1.out _ HM.out.below) ?_); clear HM; intro W1 HM) | ((with_reducible refine cB HM (HC2.out _ HM.out.below) ?_); clear HM; intro W1 HM)) | (go_at_call 11; first | ((with_reducible refine cB HM (HE1.out _ HM.out.below) ?_); clear HM; intro W1 HM) | ((with_reducible refine cB HM (HE2.out _ HM.out.below) ?_); clear HM; intro W1 HM) | ((with_reducible refine cB HM (HE3.out _ HM.out.below) ?_); clear HM; intro W1 HM)) | (go_at_call 13; first | ((with_reducible refine cB HM (HL1.out _ HM.out.below) ?_); clear HM; intro W1 HM) | ((with_reducible refine cB HM (HL2.out _ HM.out.below) ?_); clear HM; intro W1 HM)) | (go_at_call 20; (with_reducible refine cB HM (HA.out _ HM.out.below) ?_); clear HM; intro W1 HM) | (go_at_call 24; first | ((with_reducible refine cB HM (HN1.out _ HM.out.below) ?_); clear HM; intro W1 HM) | ((with_reducible refine cB HM (HN2.out _ HM.out.below) ?_); clear HM; intro W1 HM) | ((with_reducible refine cB HM (HN3.out _ HM.out.below) ?_); clear HM; intro W1 HM)) | (go_at_call 22; (with_reducible refine cB HM (HO.out _ HM.out.below) ?_); clear HM; intro W1 HM) | (go_at_call 14; first | ((with_reducible refine cB HM (HS1.out _) ?_); clear HM; intro W1 HM) | ((with_reducible refine cB HM (HS2.out _) ?_); clear HM; intro W1 HM)) | (go_at_call 25; (with_reducible refine cB HM (HIs.out _) ?_); clear HM; intro W1 HM))
  go_ret
  exact ⟨rfl, HM.out.below⟩

theorem valueLogic_walk (x y : VD) (cx cy : List Value) (w : World) (hx : x.at w cx) (hy : y.at w cy) (hxw : x.wf 1048576) (hyw : y.wf 1048576) (hu : U8 w) :
    Calls Tryz.prog 6 #[.agg cx.toArray, .agg cy.toArray] w fun e w' => e = .returned (.bool true) ∧ RowKit.Below w.heap.size w w' := by
  by_cases hc : chkL [x, y] = 0
  · obtain ⟨fx, fy⟩ := chk2_form hc
    rcases less_law fx fy hxw hyw with ⟨h1, h2⟩ | ⟨h1, h2, h3⟩ | ⟨h1, h2, h3⟩ | ⟨h1, h2, h3⟩
    · exact valueLogic_none x y cx cy w hx hy hxw hyw hu hc h1 h2
    · exact valueLogic_l x y cx cy w hx hy hxw hyw hu hc h1 h2 h3
    · exact valueLogic_m x y cx cy w hx hy hxw hyw hu hc h1 h2 h3
    · exact valueLogic_e x y cx cy w hx hy hxw hyw hu hc h1 h2 h3
  · exact valueLogic_bad x y cx cy w hx hy hxw hyw hu hc
end Go.Proofs.YtgobdcmoelcckaaGreatDoor
