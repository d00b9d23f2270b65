/- Equal of the program. (short) -/
import Derived.Test.YtgobdcmoelcckaaGreatDoorValO
import Derived.Test.YtgobdcmoelcckaaGreatDoorValP
import Derived.Test.YtgobdcmoelcckaaGreatDoorValLogic
namespace Go.Proofs.YtgobdcmoelcckaaGreatDoor
open Go.RowKit
set_option linter.unusedVariables false
set_option linter.unusedSimpArgs false
set_option maxRecDepth 100000

abbrev tvl (o : Option Bool) : List Value := [.int .i64 (if o.isSome then 1 else 0), .bool (o.getD false), .bool false, .int .u64 0, .int .u64 0, .int .i64 0, .string ⟨#[]⟩, .int .i64 0, .slice none 0 0, .slice none 0 0]
theorem both_tru (o e : Option Bool) (W : World) : Calls Tryz.prog 47 #[truV o, truV e] W fun e' w' => e' = .returned (truV (bothT o e)) ∧ RowKit.Below W.heap.size W w' := by
  have h := both_any (if o.isSome then 1 else 0) (o.getD false) false 0 0 0 ⟨#[]⟩ 0 none 0 0 none 0 0 (if e.isSome then 1 else 0) (e.getD false) false 0 0 0 ⟨#[]⟩ 0 none 0 0 none 0 0 W
  rw [tOf_tru, tOf_tru] at h
  exact h
theorem eqL_at {ctx : Bool} {ns : List ByteArray} {b : VD} {l : List VD} {i : Nat} {x : VD} {o : Option Bool} (hx : l[i]? = some x) : VD.eqL ctx ns b (l.drop i) i o = match (place ctx ns b.ns i).bind (fun j => b.l[j]?) with
    | none => some false
    | some z => VD.eqL ctx ns b (l.drop (i + 1)) (i + 1) (bothT o (VD.eq x z)) := by
  obtain ⟨hi, e⟩ := List.getElem?_eq_some_iff.1 hx
  rw [List.drop_eq_getElem_cons hi, e]
  simp only [VD.eqL]
  cases (place ctx ns b.ns i).bind (fun j => b.l[j]?) <;> rfl
theorem eqL_next {ctx : Bool} {ns : List ByteArray} {b : VD} {l : List VD} {i : Nat} {x z : VD} {o e r : Option Bool} (hx : l[i]? = some x) (hp : (place ctx ns b.ns i).bind (fun j => b.l[j]?) = some z) (he : VD.eq x z = e) (h : VD.eqL ctx ns b (l.drop i) i o = r) : VD.eqL ctx ns b (l.drop (i + 1)) (i + 1) (bothT o e) = r := by
  rw [eqL_at hx, hp] at h
  rw [← he]
  exact h
theorem eqL_stop {ctx : Bool} {ns : List ByteArray} {b : VD} {l : List VD} {i : Nat} {x : VD} {o r : Option Bool} (hx : l[i]? = some x) (hp : (place ctx ns b.ns i).bind (fun j => b.l[j]?) = none) (h : VD.eqL ctx ns b (l.drop i) i o = r) : r = some false := by
  rw [eqL_at hx, hp] at h
  exact h.symm
theorem eq_loop {v u : VD} (h0 : v.k ≠ 0) (h1 : u.k ≠ 0) (h2 : v.k = u.k) (h3 : ¬ (v.k ≠ 5 ∧ v.k ≠ 6)) (h4 : v.l.length = u.l.length) : VD.eq v u = VD.eqL (decide (v.k = 6)) v.ns u v.l 0 (some true) := by
  rw [VD.eq_def', if_neg (fun h => h.elim h0 h1), if_neg (fun h => h h2), if_neg h3, if_neg (fun h => h h4), eqL_ans]
theorem idx_some {l : List ByteArray} {s : ByteArray} {j : Nat} (h : findS l s = some j) : idxI l s = (j : Int) := by unfold idxI; rw [h]
theorem idx_none {l : List ByteArray} {s : ByteArray} (h : findS l s = none) : idxI l s = -1 := by unfold idxI; rw [h]

set_option maxHeartbeats 16000000 in
theorem vequal_flat (v u : VD) (cv cu : List Value) (w : World) (hv : v.at w cv) (hu : u.at w cu) (hvw : v.wf 1048576) (huw : u.wf 1048576) (hk : v.k = 0 ∨ u.k = 0 ∨ v.k ≠ u.k ∨ (v.k ≠ 5 ∧ v.k ≠ 6) ∨ v.l.length ≠ u.l.length) : Calls Tryz.prog 35 #[.agg cv.toArray, .agg cu.toArray] w fun e w' => e = .returned (truV (VD.eq v u)) ∧ RowKit.Below w.heap.size w w' := by
  have HM := Lib.hid (Mem.start w)
  have HV := Lib.hid hv
  have HU := Lib.hid hu
  have HT := Lib.hid (fun b W => truth_any b W)
  obtain ⟨s, hs⟩ : ∃ s, VD.same v u = s := ⟨_, rfl⟩
  have HAl := Lib.hid (show ∀ W, RowKit.Below w.heap.size w W → Calls Tryz.prog 45 #[.agg cv.toArray, .agg cu.toArray] W fun e w' => e = .returned (.bool s) ∧ RowKit.Below W.heap.size W w' from fun W hb => by
    rw [← hs]; exact valike_any _ v u (Nat.le_refl _) _ _ W (VD.at.below hb HV.out) (VD.at.below hb HU.out) hvw huw)
  obtain ⟨r, hr⟩ : ∃ r, VD.eq v u = r := ⟨_, rfl⟩
  rw [hr]
  rw [VD.eq_def', hs] at hr
  obtain ⟨k1, y1, ⟨ng1, hi1, lo1, sc1⟩, t1, d1, l1, ns1⟩ := v
  obtain ⟨k2, y2, ⟨ng2, hi2, lo2, sc2⟩, t2, d2, l2, ns2⟩ := u
  simp only [VD.at, vcs] at hv hu
  obtain ⟨lp1, np1, lc1, nc1, ls1, rfl, -⟩ := hv
  obtain ⟨lp2, np2, lc2, nc2, ls2, rfl, -⟩ := hu
  simp only [VD.k, VD.l] at hk
  replace hr : (if k1 = 0 ∨ k2 = 0 then some (decide (k1 = k2)) else if k1 ≠ k2 then none else if k1 ≠ 5 ∧ k1 ≠ 6 then some s else if l1.length ≠ l2.length then some false else sumT (some true) (ansL (decide (k1 = 6)) ns1 (VD.mk k2 y2 ⟨ng2, hi2, lo2, sc2⟩ t2 d2 l2 ns2) l1 0)) = r := hr
  clear hs hvw huw
  by_cases h0 : k1 = 0
  · subst h0
    rw [if_pos (Or.inl rfl)] at hr
    have HR := Lib.hid hr
    clear hr hk
    by_cases h2 : k2 = 0
    · subst h2
      go_enter Tryz.func35, Tryz.ntmps35
      go_wp2_with (first | ((with_reducible refine skip_op ?_ ?_); exact rfl) | refine mP ?_ | (refine mS ?_; clear HM; intro W1 HM) | ((with_reducible refine iat 2 ?_); refine mB ?_; clear HM; intro g2 W1 HM) | ((with_reducible refine iat 3 ?_); refine mB ?_; clear HM; intro g3 W1 HM) | (refine hal (dst := some 4) HM rfl ?_; clear HM; intro g4 W1 HM) | (refine hal HM rfl ?_; clear HM; intro g1 W1 HM) | (go_at_call 38; (with_reducible refine cB HM (HT.out _ _) ?_); clear HM; intro W1 HM))
      exact bodyPost_ret (res_box rfl HM.out 0 rfl rfl rfl) rfl ⟨by rw [← HR.out]; try rfl, HM.out.below⟩
    · have q : ((0 : Int) == k2) = false := by simp; omega
      go_enter Tryz.func35, Tryz.ntmps35
      go_wp2_with (first | ((with_reducible refine skip_op ?_ ?_); exact rfl) | refine mP ?_ | (refine mS ?_; clear HM; intro W1 HM) | ((with_reducible refine iat 2 ?_); refine mB ?_; clear HM; intro g2 W1 HM) | ((with_reducible refine iat 3 ?_); refine mB ?_; clear HM; intro g3 W1 HM) | (refine hal (dst := some 4) HM rfl ?_; clear HM; intro g4 W1 HM) | (refine hal HM rfl ?_; clear HM; intro g1 W1 HM) | (go_at_call 38; (with_reducible refine cB HM (HT.out _ _) ?_); clear HM; intro W1 HM))
      exact bodyPost_ret (res_box rfl HM.out 0 rfl rfl rfl) rfl ⟨by rw [← HR.out, decide_eq_false (fun e => h2 e.symm)]; try rfl, HM.out.below⟩
  · have q0 : (k1 == 0) = false := by simp [h0]
    by_cases h2 : k2 = 0
    · subst h2
      rw [if_pos (Or.inr rfl)] at hr
      have HR := Lib.hid hr
      clear hr hk
      go_enter Tryz.func35, Tryz.ntmps35
      go_wp2_with (first | ((with_reducible refine skip_op ?_ ?_); exact rfl) | refine mP ?_ | (refine mS ?_; clear HM; intro W1 HM) | ((with_reducible refine iat 2 ?_); refine mB ?_; clear HM; intro g2 W1 HM) | ((with_reducible refine iat 3 ?_); refine mB ?_; clear HM; intro g3 W1 HM) | (refine hal (dst := some 4) HM rfl ?_; clear HM; intro g4 W1 HM) | (refine hal HM rfl ?_; clear HM; intro g1 W1 HM) | (go_at_call 38; (with_reducible refine cB HM (HT.out _ _) ?_); clear HM; intro W1 HM))
      exact bodyPost_ret (res_box rfl HM.out 0 rfl rfl rfl) rfl ⟨by rw [← HR.out, decide_eq_false h0]; try rfl, HM.out.below⟩
    · have q2 : (k2 == 0) = false := by simp [h2]
      rw [if_neg (fun h => h.elim h0 h2)] at hr
      by_cases he : k1 = k2
      · subst he
        have q3 : (k1 != k1) = false := by simp
        rw [if_neg (fun h => h rfl)] at hr
        by_cases h56 : k1 ≠ 5 ∧ k1 ≠ 6
        · rw [if_pos h56] at hr
          have HR := Lib.hid hr
          have q5 : (k1 != 5) = true := by simp [h56.1]
          have q6 : (k1 != 6) = true := by simp [h56.2]
          clear hr hk h0 h2 h56
          go_enter Tryz.func35, Tryz.ntmps35
          go_wp2_with (first | ((with_reducible refine skip_op ?_ ?_); exact rfl) | refine mP ?_ | (refine mS ?_; clear HM; intro W1 HM) | ((with_reducible refine iat 2 ?_); refine mB ?_; clear HM; intro g2 W1 HM) | ((with_reducible refine iat 3 ?_); refine mB ?_; clear HM; intro g3 W1 HM) | (refine hal (dst := some 4) HM rfl ?_; clear HM; intro g4 W1 HM) | (refine hal HM rfl ?_; clear HM; intro g1 W1 HM) | (go_at_call 45; (with_reducible refine cB HM (HAl.out _ HM.out.below) ?_); clear HM; intro W1 HM) | (go_at_call 38; (with_reducible refine cB HM (HT.out _ _) ?_); clear HM; intro W1 HM))
          exact bodyPost_ret (res_box rfl HM.out 0 rfl rfl rfl) rfl ⟨by rw [← HR.out]; try rfl, HM.out.below⟩
        · rw [if_neg h56] at hr
          have hll : l1.length ≠ l2.length := by
            rcases hk with h | h | h | h | h
            · exact absurd h h0
            · exact absurd h h2
            · exact absurd rfl h
            · exact absurd h h56
            · exact h
          rw [if_pos hll] at hr
          have HR := Lib.hid hr
          have q7 : ((l1.length : Int) != l2.length) = true := by simp; omega
          have h5 : k1 = 5 ∨ k1 = 6 := by omega
          clear hr hk h0 h2 h56 hll q0 q2 q3
          rcases h5 with rfl | rfl
          all_goals
            go_enter Tryz.func35, Tryz.ntmps35
            go_wp2_with (first | ((with_reducible refine skip_op ?_ ?_); exact rfl) | refine mP ?_ | (refine mS ?_; clear HM; intro W1 HM) | ((with_reducible refine iat 2 ?_); refine mB ?_; clear HM; intro g2 W1 HM) | ((with_reducible refine iat 3 ?_); refine mB ?_; clear HM; intro g3 W1 HM) | (refine hal (dst := some 4) HM rfl ?_; clear HM; intro g4 W1 HM) | (refine hal HM rfl ?_; clear HM; intro g1 W1 HM) | (go_at_call 38; (with_reducible refine cB HM (HT.out _ _) ?_); clear HM; intro W1 HM))
            exact bodyPost_ret (res_box rfl HM.out 0 rfl rfl rfl) rfl ⟨by rw [← HR.out]; try rfl, HM.out.below⟩
      · rw [if_pos he] at hr
        subst hr
        have q3 : (k1 != k2) = true := by simp [he]
        clear hk h0 h2 he
        go_enter Tryz.func35, Tryz.ntmps35
        go_wp2_with (first | ((with_reducible refine skip_op ?_ ?_); exact rfl) | refine mP ?_ | (refine mS ?_; clear HM; intro W1 HM) | ((with_reducible refine iat 2 ?_); refine mB ?_; clear HM; intro g2 W1 HM) | ((with_reducible refine iat 3 ?_); refine mB ?_; clear HM; intro g3 W1 HM) | (refine hal (dst := some 4) HM rfl ?_; clear HM; intro g4 W1 HM) | (refine hal HM rfl ?_; clear HM; intro g1 W1 HM))
        exact bodyPost_ret (res_box rfl HM.out 0 rfl rfl rfl) rfl ⟨rfl, HM.out.below⟩

theorem ctx_names {x : VD} (h : x.form = true) (hk : x.k = 6) : x.ns.length = x.l.length := (VD.form_ctx h hk).1

set_option maxHeartbeats 16000000 in
theorem vequal_any : ∀ (N : Nat) (v u : VD), v.parts ≤ N → ∀ (cv cu : List Value) (w : World), v.at w cv → u.at w cu → v.wf 1048576 → u.wf 1048576 → v.form = true → u.form = true → Calls Tryz.prog 35 #[.agg cv.toArray, .agg cu.toArray] w fun e w' => e = .returned (truV (VD.eq v u)) ∧ RowKit.Below w.heap.size w w'
  | 0, v, _, hN, _, _, _, _, _, _, _, _, _ => by have := v.parts_pos; omega
  | N + 1, v, u, hN, cv, cu, w, hv, hu, hvw, huw, hvf, huf => by
    by_cases hk : v.k = 0 ∨ u.k = 0 ∨ v.k ≠ u.k ∨ (v.k ≠ 5 ∧ v.k ≠ 6) ∨ v.l.length ≠ u.l.length
    · exact vequal_flat v u cv cu w hv hu hvw huw hk
    have IH := Lib.hid (fun v u h => vequal_any N v u h)
    have HM := Lib.hid (Mem.start w)
    have HT := Lib.hid (fun b W => truth_any b W)
    obtain ⟨r, hr⟩ : ∃ r, VD.eq v u = r := ⟨_, rfl⟩
    rw [hr]
    have hvf2 := (VD.form_own hvf).2
    have huf2 := (VD.form_own huf).2
    have hvn := ctx_names hvf
    have hun := ctx_names huf
    obtain ⟨k1, y1, ⟨ng1, hi1, lo1, sc1⟩, t1, d1, l1, ns1⟩ := v
    obtain ⟨k2, y2, ⟨ng2, hi2, lo2, sc2⟩, t2, d2, l2, ns2⟩ := u
    simp only [VD.at, vcs] at hv hu
    simp only [VD.wf] at hvw huw
    obtain ⟨lp1, np1, lc1, nc1, ls1, rfl, -, hS1, hL1, hA1⟩ := hv
    obtain ⟨lp2, np2, lc2, nc2, ls2, rfl, -, hS2, hL2, hA2⟩ := hu
    obtain ⟨-, -, -, hll1, hnl1, -, hwl1⟩ := hvw
    obtain ⟨-, -, -, hll2, hnl2, -, hwl2⟩ := huw
    simp only [VD.parts] at hN
    simp only [VD.k, VD.l, VD.ns] at hk hvf2 huf2 hvn hun
    have hk0 : k1 ≠ 0 := fun h => hk (Or.inl h)
    have hk2 : k2 ≠ 0 := fun h => hk (Or.inr (Or.inl h))
    have hke : k1 = k2 := Decidable.byContradiction fun h => hk (Or.inr (Or.inr (Or.inl h)))
    subst hke
    have hk56 : ¬ (k1 ≠ 5 ∧ k1 ≠ 6) := fun h => hk (Or.inr (Or.inr (Or.inr (Or.inl h))))
    have hlen : l1.length = l2.length := Decidable.byContradiction fun h => hk (Or.inr (Or.inr (Or.inr (Or.inr h))))
    have hr2 : VD.eqL (decide (k1 = 6)) ns1 (VD.mk k1 y2 ⟨ng2, hi2, lo2, sc2⟩ t2 d2 l2 ns2) l1 0 (some true) = r :=
      (eq_loop (v := VD.mk k1 y1 ⟨ng1, hi1, lo1, sc1⟩ t1 d1 l1 ns1) (u := VD.mk k1 y2 ⟨ng2, hi2, lo2, sc2⟩ t2 d2 l2 ns2) hk0 hk0 rfl hk56 hlen).symm.trans hr
    have HE0 := Lib.hid hr2
    have HS1 := Lib.hid hS1
    have HS2 := Lib.hid hS2
    have HL1 := Lib.hid hL1
    have HL2 := Lib.hid hL2
    have HA1 := Lib.hid hA1
    have HA2 := Lib.hid hA2
    have HW1 := Lib.hid hwl1
    have HW2 := Lib.hid hwl2
    have HF1 := Lib.hid hvf2
    have HF2 := Lib.hid huf2
    have HN1 := Lib.hid hvn
    have HN2 := Lib.hid hun
    have HLen := Lib.hid hlen
    have h5 : k1 = 5 ∨ k1 = 6 := by omega
    have q7 : ((l1.length : Int) != l2.length) = false := by simp [hlen]
    clear hr hr2 hk hk0 hk2 hk56 hlen hS1 hS2 hL1 hL2 hA1 hA2 hwl1 hwl2 hvf2 huf2 hvn hun hvf huf
    rcases h5 with rfl | rfl
    · go_enter Tryz.func35, Tryz.ntmps35
      go_wp2_with (first | ((with_reducible refine skip_op ?_ ?_); exact rfl) | refine mP ?_ | (refine mS ?_; clear HM; intro W1 HM) | ((with_reducible refine iat 2 ?_); refine mB ?_; clear HM; intro g2 W1 HM) | ((with_reducible refine iat 3 ?_); refine mB ?_; clear HM; intro g3 W1 HM) | (refine hal (dst := some 4) HM rfl ?_; clear HM; intro g4 W1 HM) | (refine hal (dst := some 5) HM rfl ?_; clear HM; intro g5 W1 HM) | (refine hal HM rfl ?_; clear HM; intro g1 W1 HM) | (go_at_call 38; (with_reducible refine cB HM (HT.out _ _) ?_); clear HM; intro W1 HM))
      go_loopw [57] (fun iv wr => ∃ (i : Nat) (o : Option Bool), iv = .int .i64 i ∧ i ≤ l1.length ∧ Hid (VD.eqL false ns1 (VD.mk 5 y2 ⟨ng2, hi2, lo2, sc2⟩ t2 d2 l2 ns2) (l1.drop i) i o = r) ∧ Hid (Mem w wr [.box g5 30 (tvl o), .box g4 30 (tvl none), .box g3 30 [.int .i64 5, .bool y2, .bool ng2, .int .u64 hi2, .int .u64 lo2, .int .i64 sc2, .string t2, .int .i64 d2, .slice lp2 l2.length lc2, .slice np2 ns2.length nc2], .box g2 30 [.int .i64 5, .bool y1, .bool ng1, .int .u64 hi1, .int .u64 lo1, .int .i64 sc1, .string t1, .int .i64 d1, .slice lp1 l1.length lc1, .slice np1 ns1.length nc1]])) (fun iv _ => l1.length - (intOf iv).toNat)
      case atStart => exact ⟨0, some true, rfl, by omega, Lib.hid (by rw [List.drop_zero]; exact HE0.out), Lib.hid (HM.out.sub (.refl _))⟩
      case round =>
        clear HM
        obtain ⟨i, o, rfl, hi0, HI, HM⟩ := hrel
        by_cases hlt : i < l1.length
        · obtain ⟨x, hx⟩ : ∃ x, l1[i]? = some x := ⟨_, List.getElem?_eq_getElem hlt⟩
          have hlt2 : i < l2.length := by have := HLen.out; omega
          obtain ⟨z, hz⟩ : ∃ z, l2[i]? = some z := ⟨_, List.getElem?_eq_getElem hlt2⟩
          obtain ⟨b, cx, rfl, hxa, hxc⟩ := vrow HL1.out HA1.out hx
          obtain ⟨b', cz, rfl, hza, hzc⟩ := vrow HL2.out HA2.out hz
          have hpx := VD.partsL_get hx
          have HX := Lib.hid hxa
          have HZ := Lib.hid hza
          have HC := Lib.hid hxc
          have HC' := Lib.hid hzc
          obtain ⟨e, he⟩ : ∃ e, VD.eq x z = e := ⟨_, rfl⟩
          have HCl := Lib.hid (show ∀ W, RowKit.Below w.heap.size w W → Calls Tryz.prog 35 #[.agg cx.toArray, .agg cz.toArray] W fun e' w' => e' = .returned (truV e) ∧ RowKit.Below W.heap.size W w' from fun W hb => by
            rw [← he]
            exact IH.out x z (by omega) _ _ W (VD.at.below hb HX.out) (VD.at.below hb HZ.out) (VD.wfL_get HW1.out hx) (VD.wfL_get HW2.out hz) (VD.formL_get HF1.out hx) (VD.formL_get HF2.out hz))
          have HNx := Lib.hid (eqL_next hx (show (place false ns1 (VD.mk 5 y2 ⟨ng2, hi2, lo2, sc2⟩ t2 d2 l2 ns2).ns i).bind (fun j => (VD.mk 5 y2 ⟨ng2, hi2, lo2, sc2⟩ t2 d2 l2 ns2).l[j]?) = some z from hz) he HI.out)
          have HBo := Lib.hid (both_tru o e)
          obtain ⟨k3, y3, ⟨ng3, hi3, lo3, sc3⟩, t3, d3, l3, ns3⟩ := x
          obtain ⟨k4, y4, ⟨ng4, hi4, lo4, sc4⟩, t4, d4, l4, ns4⟩ := z
          simp only [VD.at, vcs] at hxa hza
          obtain ⟨lp3, np3, lc3, nc3, ls3, rfl, -⟩ := hxa
          obtain ⟨lp4, np4, lc4, nc4, ls4, rfl, -⟩ := hza
          have q1 : decide ((i : Int) < l1.length) = true := decide_eq_true (by omega)
          clear hx hz hxc hzc hpx he HI
          go_wp2_with (first | ((with_reducible refine skip_op ?_ ?_); exact rfl) | refine mP ?_ | (refine mS ?_; clear HM; intro W1 HM) | ((with_reducible refine iat 2 ?_); refine mB ?_; clear HM; intro g2 W1 HM) | ((with_reducible refine iat 3 ?_); refine mB ?_; clear HM; intro g3 W1 HM) | (refine hal (dst := some 4) HM rfl ?_; clear HM; intro g4 W1 HM) | (refine hal (dst := some 5) HM rfl ?_; clear HM; intro g5 W1 HM) | (refine hal (dst := some 7) HM rfl ?_; clear HM; intro g7 W1 HM) | (refine ixa rfl rfl rfl hlt ?_) | (refine ldxW (HM.out.olds HC.out) rfl rfl ?_))
          refine wp_region_mem3 9 [(0, 0), (0, 1), (0, 2), (0, 3), (0, 4), (0, 5), (0, 6), (2, 7), (2, 8), (3, 9)] (by kernel_rfl) (by kernel_rfl) rfl (by kernel_rfl) (fun _ _ _ _ _ h => h) HM.out _ (.cons_cons _ (.cons_cons _ (.cons_cons _ (.cons_cons _ (.cons_cons _ .slnil))))) ?_
          intro hNE W1 HM1; replace HM := Lib.hid HM1; clear HM1
          have HS0 := Lib.hid (HM.out.sub (.cons_cons _ (.cons_cons _ (.cons_cons _ (.cons_cons _ (.cons_cons _ .slnil))))))
          simp only [wpSteps3, List.getElem?_cons_succ, List.getElem?_cons_zero]
          (repeat (first | ((with_reducible refine wpQuiet_nil ?_); (try dsimp only)) | refine mQ ?_ | ((with_reducible refine qat 82 ?_); (refine qixa rfl rfl rfl hlt2 ?_)) | ((with_reducible refine qat 83 ?_); (refine qdxW HC'.out rfl rfl ?_)) | go_big_quiet_step (fail) | quiet_step (fail)))
          go_wp2_with (first | (go_at_call 35; (with_reducible refine cB HM (HCl.out _ HM.out.below) ?_); clear HM; intro W1 HM))
          refine ⟨⟨⟨_, HM.out.sub (by repeat (first | exact List.nil_sublist _ | with_reducible refine List.Sublist.cons_cons _ ?_ | refine List.Sublist.cons _ ?_))⟩, rfl⟩, ?_⟩
          (try dsimp only)
          go_wp2_with (first | (go_at_call 47; (with_reducible refine cB HM (HBo.out _) ?_); clear HM; intro W1 HM))
          refine ⟨⟨⟨_, HM.out.sub (by repeat (first | exact List.nil_sublist _ | with_reducible refine List.Sublist.cons_cons _ ?_ | refine List.Sublist.cons _ ?_))⟩, rfl⟩, ?_⟩
          (try dsimp only)
          go_wp2_with (first | (refine mS ?_; clear HM; intro W1 HM))
          refine ⟨trivial, ?_⟩
          (try dsimp only)
          clear HS0 hNE
          go_wp2_with fail
          go_roundw
          case rel => exact ⟨i + 1, bothT o e, by go_num, by omega, HNx, Lib.hid (HM.out.sub (.cons _ (.refl _)))⟩
          case measure => simp [intOf]; omega
        · obtain rfl : i = l1.length := by omega
          have q1 : decide ((l1.length : Int) < l1.length) = false := by simp
          have HE := Lib.hid (show o = r by have := HI.out; rw [List.drop_length] at this; simpa only [VD.eqL] using this)
          go_wp2_with (first | ((with_reducible refine skip_op ?_ ?_); exact rfl) | refine mP ?_ | (refine mS ?_; clear HM; intro W1 HM) | ((with_reducible refine iat 2 ?_); refine mB ?_; clear HM; intro g2 W1 HM) | ((with_reducible refine iat 3 ?_); refine mB ?_; clear HM; intro g3 W1 HM) | (refine hal (dst := some 4) HM rfl ?_; clear HM; intro g4 W1 HM) | (refine hal HM rfl ?_; clear HM; intro g1 W1 HM))
          exact bodyPost_ret (res_box rfl HM.out 1 rfl rfl rfl) rfl ⟨by rw [← HE.out]; try rfl, HM.out.below⟩
    · go_enter Tryz.func35, Tryz.ntmps35
      go_wp2_with (first | ((with_reducible refine skip_op ?_ ?_); exact rfl) | refine mP ?_ | (refine mS ?_; clear HM; intro W1 HM) | ((with_reducible refine iat 2 ?_); refine mB ?_; clear HM; intro g2 W1 HM) | ((with_reducible refine iat 3 ?_); refine mB ?_; clear HM; intro g3 W1 HM) | (refine hal (dst := some 4) HM rfl ?_; clear HM; intro g4 W1 HM) | (refine hal (dst := some 5) HM rfl ?_; clear HM; intro g5 W1 HM) | (refine hal HM rfl ?_; clear HM; intro g1 W1 HM) | (go_at_call 38; (with_reducible refine cB HM (HT.out _ _) ?_); clear HM; intro W1 HM))
      go_loopw [57] (fun iv wr => ∃ (i : Nat) (o : Option Bool), iv = .int .i64 i ∧ i ≤ l1.length ∧ Hid (VD.eqL true ns1 (VD.mk 6 y2 ⟨ng2, hi2, lo2, sc2⟩ t2 d2 l2 ns2) (l1.drop i) i o = r) ∧ Hid (Mem w wr [.box g5 30 (tvl o), .box g4 30 (tvl none), .box g3 30 [.int .i64 6, .bool y2, .bool ng2, .int .u64 hi2, .int .u64 lo2, .int .i64 sc2, .string t2, .int .i64 d2, .slice lp2 l2.length lc2, .slice np2 ns2.length nc2], .box g2 30 [.int .i64 6, .bool y1, .bool ng1, .int .u64 hi1, .int .u64 lo1, .int .i64 sc1, .string t1, .int .i64 d1, .slice lp1 l1.length lc1, .slice np1 ns1.length nc1]])) (fun iv _ => l1.length - (intOf iv).toNat)
      case atStart => exact ⟨0, some true, rfl, by omega, Lib.hid (by rw [List.drop_zero]; exact HE0.out), Lib.hid (HM.out.sub (.refl _))⟩
      case round =>
        clear HM
        obtain ⟨i, o, rfl, hi0, HI, HM⟩ := hrel
        by_cases hlt : i < l1.length
        · obtain ⟨x, hx⟩ : ∃ x, l1[i]? = some x := ⟨_, List.getElem?_eq_getElem hlt⟩
          have hln : i < ns1.length := by have := HN1.out trivial; omega
          obtain ⟨s, hs⟩ : ∃ s, ns1[i]? = some s := ⟨_, List.getElem?_eq_getElem hln⟩
          obtain ⟨b, cx, rfl, hxa, hxc⟩ := vrow HL1.out HA1.out hx
          obtain ⟨bn, rfl, hbn⟩ := HS1.out.some_at strL_len (by decide) hln
          have HEn := Lib.hid (hbn.elem strL 1 strL_len hs)
          have HX := Lib.hid hxa
          have HC := Lib.hid hxc
          have HXx := Lib.hid hx
          have HSs := Lib.hid hs
          have q1 : decide ((i : Int) < l1.length) = true := decide_eq_true (by omega)
          have HIx := Lib.hid (fun W (hb : RowKit.Below w.heap.size w W) => index_any np2 nc2 ns2 s W (HS2.out.below' hb) hnl2)
          cases hf : findS ns2 s with
          | none =>
            have HE := Lib.hid (eqL_stop hx (show (place true ns1 (VD.mk 6 y2 ⟨ng2, hi2, lo2, sc2⟩ t2 d2 l2 ns2).ns i).bind (fun j => (VD.mk 6 y2 ⟨ng2, hi2, lo2, sc2⟩ t2 d2 l2 ns2).l[j]?) = none from by
              simp only [place, if_true, hs]
              show (findS ns2 s).bind _ = none
              rw [hf]; rfl) HI.out)
            rw [idx_none hf] at HIx
            obtain ⟨k3, y3, ⟨ng3, hi3, lo3, sc3⟩, t3, d3, l3, ns3⟩ := x
            simp only [VD.at, vcs] at hxa
            obtain ⟨lp3, np3, lc3, nc3, ls3, rfl, -⟩ := hxa
            clear hx hs hxc hbn hf HI
            go_wp2_with (first | ((with_reducible refine skip_op ?_ ?_); exact rfl) | refine mP ?_ | (refine mS ?_; clear HM; intro W1 HM) | ((with_reducible refine iat 2 ?_); refine mB ?_; clear HM; intro g2 W1 HM) | ((with_reducible refine iat 3 ?_); refine mB ?_; clear HM; intro g3 W1 HM) | (refine hal (dst := some 4) HM rfl ?_; clear HM; intro g4 W1 HM) | (refine hal (dst := some 5) HM rfl ?_; clear HM; intro g5 W1 HM) | (refine hal (dst := some 7) HM rfl ?_; clear HM; intro g7 W1 HM) | (refine ixa rfl rfl rfl hlt ?_) | (refine ldxW (HM.out.olds HC.out) rfl rfl ?_))
            refine wp_region_steps2 [(true, 0), (true, 1), (true, 2), (true, 3), (true, 4), (true, 5), (true, 6), (false, 7), (true, 8)] (by kernel_rfl) (by kernel_rfl) rfl (by kernel_rfl) (fun _ _ _ _ _ h => h) HM.out _ (.cons_cons _ (.cons_cons _ (.cons_cons _ (.cons_cons _ (.cons_cons _ .slnil))))) ?_
            intro hNE W1 HM1; replace HM := Lib.hid HM1; clear HM1
            have HS0 := Lib.hid (HM.out.sub (.cons_cons _ (.cons_cons _ (.cons_cons _ (.cons_cons _ (.cons_cons _ .slnil))))))
            simp only [wpSteps, List.getElem?_cons_succ, List.getElem?_cons_zero]
            (repeat (first | ((with_reducible refine wpQuiet_nil ?_); (try dsimp only)) | refine mQ ?_ | ((with_reducible refine qat 71 ?_); (refine qixa rfl rfl rfl hln ?_)) | ((with_reducible refine qat 72 ?_); (refine qdx0 HEn.out rfl rfl ?_)) | go_big_quiet_step (fail) | quiet_step (fail)))
            go_wp2_with (first | (go_at_call 60; (with_reducible refine cB HM (HIx.out _ HM.out.below) ?_); clear HM; intro W1 HM))
            refine ⟨⟨⟨_, HM.out.sub (by repeat (first | exact List.nil_sublist _ | with_reducible refine List.Sublist.cons_cons _ ?_ | refine List.Sublist.cons _ ?_))⟩, rfl⟩, ?_⟩
            (try dsimp only)
            (repeat (first | ((with_reducible refine wpQuiet_nil ?_); (try dsimp only)) | refine mQ ?_ | go_big_quiet_step (fail) | quiet_step (fail)))
            clear HS0 hNE
            go_wp2_with (first | ((with_reducible refine skip_op ?_ ?_); exact rfl) | refine mP ?_ | (refine mS ?_; clear HM; intro W1 HM) | ((with_reducible refine iat 2 ?_); refine mB ?_; clear HM; intro g2 W1 HM) | ((with_reducible refine iat 3 ?_); refine mB ?_; clear HM; intro g3 W1 HM) | (refine hal (dst := some 4) HM rfl ?_; clear HM; intro g4 W1 HM) | (refine hal (dst := some 5) HM rfl ?_; clear HM; intro g5 W1 HM) | (refine hal (dst := some 7) HM rfl ?_; clear HM; intro g7 W1 HM) | (go_at_call 38; (with_reducible refine cB HM (HT.out _ _) ?_); clear HM; intro W1 HM))
            exact bodyPost_ret (res_box rfl HM.out 2 rfl rfl rfl) rfl ⟨by rw [HE.out]; try rfl, HM.out.below⟩
          | some j =>
            obtain ⟨t, ht, -⟩ := findS_some hf
            have hj2 : j < l2.length := by have h1 := HN2.out trivial; have h2 := (List.getElem?_eq_some_iff.1 ht).1; omega
            obtain ⟨z, hz⟩ : ∃ z, l2[j]? = some z := ⟨_, List.getElem?_eq_getElem hj2⟩
            obtain ⟨b', cz, rfl, hza, hzc⟩ := vrow HL2.out HA2.out hz
            have hpx := VD.partsL_get hx
            have HZ := Lib.hid hza
            have HC' := Lib.hid hzc
            obtain ⟨e, he⟩ : ∃ e, VD.eq x z = e := ⟨_, rfl⟩
            have HCl := Lib.hid (show ∀ W, RowKit.Below w.heap.size w W → Calls Tryz.prog 35 #[.agg cx.toArray, .agg cz.toArray] W fun e' w' => e' = .returned (truV e) ∧ RowKit.Below W.heap.size W w' from fun W hb => by
              rw [← he]
              exact IH.out x z (by omega) _ _ W (VD.at.below hb HX.out) (VD.at.below hb HZ.out) (VD.wfL_get HW1.out hx) (VD.wfL_get HW2.out hz) (VD.formL_get HF1.out hx) (VD.formL_get HF2.out hz))
            have HNx := Lib.hid (eqL_next hx (show (place true ns1 (VD.mk 6 y2 ⟨ng2, hi2, lo2, sc2⟩ t2 d2 l2 ns2).ns i).bind (fun j => (VD.mk 6 y2 ⟨ng2, hi2, lo2, sc2⟩ t2 d2 l2 ns2).l[j]?) = some z from by
              simp only [place, if_true, hs]
              show (findS ns2 s).bind _ = some z
              rw [hf]; exact hz) he HI.out)
            rw [idx_some hf] at HIx
            have HBo := Lib.hid (both_tru o e)
            obtain ⟨k3, y3, ⟨ng3, hi3, lo3, sc3⟩, t3, d3, l3, ns3⟩ := x
            obtain ⟨k4, y4, ⟨ng4, hi4, lo4, sc4⟩, t4, d4, l4, ns4⟩ := z
            simp only [VD.at, vcs] at hxa hza
            obtain ⟨lp3, np3, lc3, nc3, ls3, rfl, -⟩ := hxa
            obtain ⟨lp4, np4, lc4, nc4, ls4, rfl, -⟩ := hza
            have q8 : decide ((j : Int) < 0) = false := decide_eq_false (by omega)
            clear hx hz hs hxc hzc hbn hpx he hf ht HI
            go_wp2_with (first | ((with_reducible refine skip_op ?_ ?_); exact rfl) | refine mP ?_ | (refine mS ?_; clear HM; intro W1 HM) | ((with_reducible refine iat 2 ?_); refine mB ?_; clear HM; intro g2 W1 HM) | ((with_reducible refine iat 3 ?_); refine mB ?_; clear HM; intro g3 W1 HM) | (refine hal (dst := some 4) HM rfl ?_; clear HM; intro g4 W1 HM) | (refine hal (dst := some 5) HM rfl ?_; clear HM; intro g5 W1 HM) | (refine hal (dst := some 7) HM rfl ?_; clear HM; intro g7 W1 HM) | (refine ixa rfl rfl rfl hlt ?_) | (refine ldxW (HM.out.olds HC.out) rfl rfl ?_))
            refine wp_region_steps2 [(true, 0), (true, 1), (true, 2), (true, 3), (true, 4), (true, 5), (true, 6), (false, 7), (true, 8)] (by kernel_rfl) (by kernel_rfl) rfl (by kernel_rfl) (fun _ _ _ _ _ h => h) HM.out _ (.cons_cons _ (.cons_cons _ (.cons_cons _ (.cons_cons _ (.cons_cons _ .slnil))))) ?_
            intro hNE W1 HM1; replace HM := Lib.hid HM1; clear HM1
            have HS0 := Lib.hid (HM.out.sub (.cons_cons _ (.cons_cons _ (.cons_cons _ (.cons_cons _ (.cons_cons _ .slnil))))))
            simp only [wpSteps, List.getElem?_cons_succ, List.getElem?_cons_zero]
            (repeat (first | ((with_reducible refine wpQuiet_nil ?_); (try dsimp only)) | refine mQ ?_ | ((with_reducible refine qat 71 ?_); (refine qixa rfl rfl rfl hln ?_)) | ((with_reducible refine qat 72 ?_); (refine qdx0 HEn.out rfl rfl ?_)) | go_big_quiet_step (fail) | quiet_step (fail)))
            go_wp2_with (first | (go_at_call 60; (with_reducible refine cB HM (HIx.out _ HM.out.below) ?_); clear HM; intro W1 HM))
            refine ⟨⟨⟨_, HM.out.sub (by repeat (first | exact List.nil_sublist _ | with_reducible refine List.Sublist.cons_cons _ ?_ | refine List.Sublist.cons _ ?_))⟩, rfl⟩, ?_⟩
            (try dsimp only)
            (repeat (first | ((with_reducible refine wpQuiet_nil ?_); (try dsimp only)) | refine mQ ?_ | go_big_quiet_step (fail) | quiet_step (fail)))
            clear HS0 hNE
            go_wp2_with (first | ((with_reducible refine skip_op ?_ ?_); exact rfl) | refine mP ?_ | (refine mS ?_; clear HM; intro W1 HM) | ((with_reducible refine iat 2 ?_); refine mB ?_; clear HM; intro g2 W1 HM) | ((with_reducible refine iat 3 ?_); refine mB ?_; clear HM; intro g3 W1 HM) | (refine hal (dst := some 4) HM rfl ?_; clear HM; intro g4 W1 HM) | (refine hal (dst := some 5) HM rfl ?_; clear HM; intro g5 W1 HM) | (refine hal (dst := some 7) HM rfl ?_; clear HM; intro g7 W1 HM))
            refine wp_region_mem3 9 [(0, 0), (0, 1), (0, 2), (0, 3), (0, 4), (0, 5), (0, 6), (2, 7), (2, 8), (3, 9)] (by kernel_rfl) (by kernel_rfl) rfl (by kernel_rfl) (fun _ _ _ _ _ h => h) HM.out _ (.cons_cons _ (.cons_cons _ (.cons_cons _ (.cons_cons _ (.cons_cons _ .slnil))))) ?_
            intro hNE W1 HM1; replace HM := Lib.hid HM1; clear HM1
            have HS0 := Lib.hid (HM.out.sub (.cons_cons _ (.cons_cons _ (.cons_cons _ (.cons_cons _ (.cons_cons _ .slnil))))))
            simp only [wpSteps3, List.getElem?_cons_succ, List.getElem?_cons_zero]
            (repeat (first | ((with_reducible refine wpQuiet_nil ?_); (try dsimp only)) | refine mQ ?_ | ((with_reducible refine qat 82 ?_); (refine qixa rfl rfl rfl hj2 ?_)) | ((with_reducible refine qat 83 ?_); (refine qdxW HC'.out rfl rfl ?_)) | go_big_quiet_step (fail) | quiet_step (fail)))
            go_wp2_with (first | (go_at_call 35; (with_reducible refine cB HM (HCl.out _ HM.out.below) ?_); clear HM; intro W1 HM))
            refine ⟨⟨⟨_, HM.out.sub (by repeat (first | exact List.nil_sublist _ | with_reducible refine List.Sublist.cons_cons _ ?_ | refine List.Sublist.cons _ ?_))⟩, rfl⟩, ?_⟩
            (try dsimp only)
            go_wp2_with (first | (go_at_call 47; (with_reducible refine cB HM (HBo.out _) ?_); clear HM; intro W1 HM))
            refine ⟨⟨⟨_, HM.out.sub (by repeat (first | exact List.nil_sublist _ | with_reducible refine List.Sublist.cons_cons _ ?_ | refine List.Sublist.cons _ ?_))⟩, rfl⟩, ?_⟩
            (try dsimp only)
            go_wp2_with (first | (refine mS ?_; clear HM; intro W1 HM))
            refine ⟨trivial, ?_⟩
            (try dsimp only)
            clear HS0 hNE
            go_wp2_with fail
            go_roundw
            case rel => exact ⟨i + 1, bothT o e, by go_num, by omega, HNx, Lib.hid (HM.out.sub (.cons _ (.refl _)))⟩
            case measure => simp [intOf]; omega
        · obtain rfl : i = l1.length := by omega
          have q1 : decide ((l1.length : Int) < l1.length) = false := by simp
          have HE := Lib.hid (show o = r by have := HI.out; rw [List.drop_length] at this; simpa only [VD.eqL] using this)
          go_wp2_with (first | ((with_reducible refine skip_op ?_ ?_); exact rfl) | refine mP ?_ | (refine mS ?_; clear HM; intro W1 HM) | ((with_reducible refine iat 2 ?_); refine mB ?_; clear HM; intro g2 W1 HM) | ((with_reducible refine iat 3 ?_); refine mB ?_; clear HM; intro g3 W1 HM) | (refine hal (dst := some 4) HM rfl ?_; clear HM; intro g4 W1 HM) | (refine hal HM rfl ?_; clear HM; intro g1 W1 HM))
          exact bodyPost_ret (res_box rfl HM.out 1 rfl rfl rfl) rfl ⟨by rw [← HE.out]; try rfl, HM.out.below⟩
end Go.Proofs.YtgobdcmoelcckaaGreatDoor
