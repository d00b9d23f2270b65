/- Check, checks, Same: the program. (short) -/
import Derived.Test.YtgobdcmoelcckaaGreatDoorValE
import Derived.Test.YtgobdcmoelcckaaGreatDoorValG
namespace Go.Proofs.YtgobdcmoelcckaaGreatDoor
open Go.RowKit
set_option linter.unusedVariables false
set_option linter.unusedSimpArgs false
set_option maxRecDepth 100000

theorem VD.form_parts_depth (v : VD) : v.depth ≤ v.parts := VD.depth_le v
set_option maxHeartbeats 8000000 in
theorem vcheck_any (v : VD) (cs : List Value) (w : World) (hv : v.at w cs) (hwf : v.wf 1048576) (hu : U8 w) : Calls Tryz.prog 15 #[.agg cs.toArray] w fun e w' => e = .returned (.int .i64 v.check) ∧ RowKit.Below w.heap.size w w' := by
  have HM := Lib.hid (Mem.start w)
  obtain ⟨n, hn⟩ : ∃ n, cntI v.parts 1000 = n := ⟨_, rfl⟩
  obtain ⟨dp, hdp⟩ : ∃ n, v.depth = n := ⟨_, rfl⟩
  obtain ⟨f, hf⟩ : ∃ n, v.form = n := ⟨_, rfl⟩
  obtain ⟨r, hr⟩ : ∃ r, v.check = r := ⟨_, rfl⟩
  rw [hr]
  have HV := Lib.hid hv
  have hdl := VD.depth_le v
  have HC := Lib.hid (show ∀ W, RowKit.Below w.heap.size w W → Calls Tryz.prog 41 #[.agg cs.toArray, .int .i64 1000] W fun e w' => e = .returned (.int .i64 n) ∧ RowKit.Below W.heap.size W w' from fun W hb => by
    rw [← hn]; exact vcount_any _ v (Nat.le_refl _) cs 1000 W (VD.at.below hb HV.out) hwf (by omega) (by omega))
  have HS := Lib.hid (show v.parts ≤ 1000 → ∀ W, RowKit.Below w.heap.size w W → Calls Tryz.prog 42 #[.agg cs.toArray] W fun e w' => e = .returned (.tuple #[.int .i64 (dp : Nat), .bool f]) ∧ RowKit.Below W.heap.size W w' from fun hp W hb => by
    rw [← hdp, ← hf]; exact vshape_any _ v (Nat.le_refl _) cs W (VD.at.below hb HV.out) hwf hp (U8.below hu hb))
  have HR := Lib.hid (show r = if 1000 < v.parts then 6 else if 16 < dp then 7 else if f then 0 else 2 by rw [← hr, ← hdp, ← hf]; rfl)
  have hnn : n = min (v.parts : Int) 1001 := by rw [← hn]; rfl
  rcases Nat.lt_or_ge 1000 v.parts with hp | hp
  · have HD := Lib.hid (show r = 6 by rw [HR.out, if_pos hp])
    have hn1 : n = 1001 := by omega
    subst hn1
    obtain ⟨k, y, ⟨ng, hi, lo, sc⟩, t, d, l, ns⟩ := v
    simp only [VD.at, vcs] at hv
    obtain ⟨lp, np, lc, nc, ls, rfl, -⟩ := hv
    clear hn hnn hdp hf hr hdl hp
    go_enter Tryz.func15, Tryz.ntmps15
    go_wp2_with (first | refine mP ?_ | ((with_reducible refine iat 1 ?_); refine mB ?_; clear HM; intro g1 W1 HM) | (go_at_call 41; (with_reducible refine cB HM (HC.out _ HM.out.below) ?_); clear HM; intro W1 HM))
    go_ret
    exact ⟨by rw [HD.out]; rfl, HM.out.below⟩
  · have HSh := Lib.hid (HS.out hp)
    clear HS
    have hn1 : n ≤ 1000 := by omega
    have hdp2 : dp ≤ 1000 := by omega
    have HR2 := Lib.hid (show r = if 16 < dp then 7 else if f then 0 else 2 by rw [HR.out, if_neg (show ¬ 1000 < v.parts by omega)])
    clear HR
    have hq : decide (1000 < n) = false := decide_eq_false (by omega)
    obtain ⟨k, y, ⟨ng, hi, lo, sc⟩, t, d, l, ns⟩ := v
    simp only [VD.at, vcs] at hv
    obtain ⟨lp, np, lc, nc, ls, rfl, -⟩ := hv
    clear hn hnn hdp hf hr hdl hp
    rcases Nat.lt_or_ge 16 dp with h16 | h16
    · have HD := Lib.hid (show r = 7 by rw [HR2.out, if_pos h16])
      have hq2 : decide (16 < (dp : Int)) = true := decide_eq_true (by omega)
      go_enter Tryz.func15, Tryz.ntmps15
      go_wp2_with (first | refine mP ?_ | ((with_reducible refine iat 1 ?_); refine mB ?_; clear HM; intro g1 W1 HM) | (go_at_call 41; (with_reducible refine cB HM (HC.out _ HM.out.below) ?_); clear HM; intro W1 HM) | (go_at_call 42; (with_reducible refine cB HM (HSh.out _ HM.out.below) ?_); clear HM; intro W1 HM))
      go_ret
      exact ⟨by rw [HD.out]; rfl, HM.out.below⟩
    · have HR := Lib.hid (show r = if f then 0 else 2 by rw [HR2.out, if_neg (show ¬ 16 < dp by omega)])
      clear HR2
      have hq2 : decide (16 < (dp : Int)) = false := decide_eq_false (by omega)
      cases f
      all_goals
        go_enter Tryz.func15, Tryz.ntmps15
        go_wp2_with (first | refine mP ?_ | ((with_reducible refine iat 1 ?_); refine mB ?_; clear HM; intro g1 W1 HM) | (go_at_call 41; (with_reducible refine cB HM (HC.out _ HM.out.below) ?_); clear HM; intro W1 HM) | (go_at_call 42; (with_reducible refine cB HM (HSh.out _ HM.out.below) ?_); clear HM; intro W1 HM))
        go_ret
        exact ⟨by rw [HR.out]; rfl, HM.out.below⟩

/-- The first error of values. -/
def chkL : List VD → Int
  | [] => 0
  | v :: r => if v.check = 0 then chkL r else v.check
theorem chkL_app : ∀ (l m : List VD), chkL l = 0 → chkL (l ++ m) = chkL m
  | [], m, _ => rfl
  | v :: r, m, h => by
    simp only [List.cons_append, chkL] at h ⊢
    by_cases hv : v.check = 0
    · rw [if_pos hv] at h ⊢; exact chkL_app r m h
    · rw [if_neg hv] at h; exact absurd h hv
theorem chkL_at {l : List VD} {i : Nat} {x : VD} (hx : l[i]? = some x) (h : chkL (l.take i) = 0) (hc : x.check ≠ 0) : chkL l = x.check := by
  rw [← List.take_append_drop i l, chkL_app _ _ h]
  have : l.drop i = x :: l.drop (i + 1) := by
    obtain ⟨hi, e⟩ := List.getElem?_eq_some_iff.1 hx
    rw [← e]; exact List.drop_eq_getElem_cons hi
  rw [this, chkL, if_neg hc]
theorem chkL_step {l : List VD} {i : Nat} {x : VD} (hx : l[i]? = some x) (h : chkL (l.take i) = 0) (hc : x.check = 0) : chkL (l.take (i + 1)) = 0 := by
  rw [take_get hx, chkL_app _ _ h, chkL, if_pos hc]; rfl
theorem VD.check_bd (v : VD) : 0 ≤ v.check ∧ v.check ≤ 7 := by
  unfold VD.check
  split
  · omega
  · split
    · omega
    · split <;> omega

set_option maxHeartbeats 8000000 in
theorem vchecks_any (p : Option Addr) (c : Nat) (l : List VD) (ls : List Value) (w : World) (hS : Sl w p ls) (ha : VD.ats w l ls) (hw : VD.wfL 1048576 l) (hl : l.length ≤ 1048576) (hu : U8 w) : Calls Tryz.prog 34 #[.slice p l.length c] w fun e w' => e = .returned (.int .i64 (chkL l)) ∧ RowKit.Below w.heap.size w w' := by
  have HM := Lib.hid (Mem.start w)
  have HS := Lib.hid hS
  have HA := Lib.hid ha
  have HW := Lib.hid hw
  have HU := Lib.hid hu
  obtain ⟨r, hr⟩ : ∃ r, chkL l = r := ⟨_, rfl⟩
  rw [hr]
  have HR := Lib.hid hr
  clear hS hr ha hw hu
  go_enter Tryz.func34, Tryz.ntmps34
  go_wp2_with fail
  go_loopw [8] (fun iv wr => ∃ i : Nat, iv = .int .i64 i ∧ i ≤ l.length ∧ Hid (chkL (l.take i) = 0) ∧ Hid (Mem w wr [])) (fun iv _ => l.length - (intOf iv).toNat)
  case atStart => exact ⟨0, rfl, by omega, Lib.hid rfl, HM⟩
  case round =>
    clear HM
    obtain ⟨i, rfl, hi0, HI, HM⟩ := hrel
    by_cases hlt : i < l.length
    · obtain ⟨x, hx⟩ : ∃ x, l[i]? = some x := ⟨_, List.getElem?_eq_getElem hlt⟩
      obtain ⟨b, cx, rfl, hxa, hxc⟩ := vrow HS.out HA.out hx
      have HC := Lib.hid hxc
      have HX := Lib.hid hxa
      have HXw := Lib.hid (VD.wfL_get HW.out hx)
      have HX2 := Lib.hid hx
      obtain ⟨u, hu⟩ : ∃ u, x.check = u := ⟨_, rfl⟩
      have HUu := Lib.hid hu
      have hbd := x.check_bd
      rw [hu] at hbd
      have HCl := Lib.hid (show ∀ W, RowKit.Below w.heap.size w W → Calls Tryz.prog 15 #[.agg cx.toArray] W fun e w' => e = .returned (.int .i64 u) ∧ RowKit.Below W.heap.size W w' from fun W hb => by
        rw [← HUu.out]
        exact vcheck_any x _ _ (VD.at.below hb HX.out) HXw.out (U8.below HU.out hb))
      have q1 : decide ((i : Int) < l.length) = true := decide_eq_true (by omega)
      have HD1 := Lib.hid (fun (h : u = 0) => chkL_step HX2.out HI.out (HUu.out.trans h))
      have HD2 := Lib.hid (fun (h : u ≠ 0) => (chkL_at HX2.out HI.out (by rw [HUu.out]; exact h)).symm.trans HR.out)
      obtain ⟨k1, y1, ⟨ng1, hi1, lo1, sc1⟩, t1, d1, l1, ns1⟩ := x
      simp only [VD.at, vcs] at hxa
      obtain ⟨lp1, np1, lc1, nc1, ls1, rfl, -⟩ := hxa
      clear hx hxc hu
      by_cases h0 : u = 0
      · have HD := Lib.hid (HD1.out h0)
        subst h0
        go_wp2_with (first | refine mP ?_ | (refine mS ?_; clear HM; intro W1 HM) | (refine hal (dst := some 4) HM rfl ?_; clear HM; intro g4 W1 HM) | (refine ixa rfl rfl rfl hlt ?_) | (refine ldxW (HM.out.olds HC.out) rfl rfl ?_) | (go_at_call 15; (with_reducible refine cB HM (HCl.out _ HM.out.below) ?_); clear HM; intro W1 HM))
        go_roundw
        case rel => exact ⟨i + 1, by go_num, by omega, HD, Lib.hid (HM.out.sub (List.nil_sublist _))⟩
        case measure => simp [intOf]; omega
      · have HD := Lib.hid (show u = r from HUu.out.symm.trans (HD2.out h0))
        have q2 : (u != 0) = true := by simp [h0]
        go_wp2_with (first | refine mP ?_ | (refine mS ?_; clear HM; intro W1 HM) | (refine hal (dst := some 4) HM rfl ?_; clear HM; intro g4 W1 HM) | (refine ixa rfl rfl rfl hlt ?_) | (refine ldxW (HM.out.olds HC.out) rfl rfl ?_) | (go_at_call 15; (with_reducible refine cB HM (HCl.out _ HM.out.below) ?_); clear HM; intro W1 HM))
        go_ret
        exact ⟨by rw [HD.out]; rfl, HM.out.below⟩
    · obtain rfl : i = l.length := by omega
      have HD := Lib.hid (show (0 : Int) = r by have := HI.out; rw [List.take_length, HR.out] at this; exact this.symm)
      go_wp2
      go_ret
      exact ⟨by rw [← HD.out]; rfl, HM.out.below⟩
end Go.Proofs.YtgobdcmoelcckaaGreatDoor
