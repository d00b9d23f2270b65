/- Find, Equal of the reference. (short) -/
import Derived.Test.YtgobdcmoelcckaaGreatDoorValV
import Derived.Test.YtgobdcmoelcckaaGreatDoorValR
namespace Go.Proofs.YtgobdcmoelcckaaGreatDoor
open Go.RowKit
set_option linter.unusedVariables false
set_option linter.unusedSimpArgs false
set_option maxRecDepth 100000

set_option maxHeartbeats 4000000 in
theorem rFind_any (x : VD) (cx : List Value) (s : ByteArray) (w : World) (hx : x.at w cx) (hxw : x.wf 1048576) : Calls Tryz.prog 58 #[.agg cx.toArray, .string s] w fun e w' => e = .returned (.int .i64 (idxI x.ns s)) ∧ RowKit.Below w.heap.size w w' := by
  have HM := Lib.hid (Mem.start w)
  obtain ⟨k1, y1, ⟨ng1, hi1, lo1, sc1⟩, t1, d1, l1, l⟩ := x
  simp only [VD.at, vcs] at hx
  obtain ⟨lp1, p, lc1, c, ls1, rfl, -, hS, -, -⟩ := hx
  simp only [VD.wf] at hxw
  obtain ⟨-, -, -, -, hl, -⟩ := hxw
  simp only [VD.ns]
  have HS := Lib.hid hS
  obtain ⟨r, hr⟩ : ∃ r, idxI l s = r := ⟨_, rfl⟩
  rw [hr]
  have HR := Lib.hid hr
  clear hS hr
  go_enter Tryz.func58, Tryz.ntmps58
  go_wp2_with (first | refine mP ?_ | (refine mB ?_; clear HM; intro g1 W1 HM))
  go_loopw [5] (fun iv wr => ∃ i : Nat, iv = .int .i64 i ∧ i ≤ l.length ∧ Hid (∀ j u, j < i → l[j]? = some u → u.toList ≠ s.toList) ∧ Hid (Mem w wr [.box g1 30 [.int .i64 k1, .bool y1, .bool ng1, .int .u64 hi1, .int .u64 lo1, .int .i64 sc1, .string t1, .int .i64 d1, .slice lp1 l1.length lc1, .slice p l.length c]])) (fun iv _ => l.length - (intOf iv).toNat)
  case atStart => exact ⟨0, rfl, by omega, Lib.hid (fun j u h => by omega), HM⟩
  case round =>
    clear HM
    obtain ⟨i, rfl, hi0, HI, HM⟩ := hrel
    by_cases hlt : i < l.length
    · obtain ⟨x, hx⟩ : ∃ x, l[i]? = some x := ⟨_, List.getElem?_eq_getElem hlt⟩
      obtain ⟨b, rfl, hb⟩ := HS.out.some_at strL_len (by decide) hlt
      have HE := Lib.hid (hb.elem strL 1 strL_len hx)
      have q1 : decide ((i : Int) < l.length) = true := decide_eq_true (by omega)
      by_cases he : x.toList = s.toList
      · have q2 : (x.toList == s.toList) = true := beq_iff_eq.2 he
        have HD := Lib.hid (show (i : Int) = r by rw [← HR.out]; unfold idxI; rw [findS_hit hx he HI.out])
        clear he hx hb
        go_wp2_with (first | refine mP ?_ | (refine mB ?_; clear HM; intro g1 W1 HM) | (refine ixa rfl rfl rfl hlt ?_) | (refine ldx0 (HM.out.olds HE.out) rfl rfl ?_))
        go_ret
        exact ⟨by rw [← HD.out]; rfl, HM.out.below⟩
      · have q2 : (x.toList == s.toList) = false := beq_false_of_ne he
        have HD := Lib.hid (show ∀ j u, j < i + 1 → l[j]? = some u → u.toList ≠ s.toList from fun j u hj hu => by
          by_cases e : j = i
          · subst e; rw [hx] at hu; rw [← Option.some.inj hu]; exact he
          · exact HI.out j u (by omega) hu)
        clear he hx hb
        go_wp2_with (first | refine mP ?_ | (refine mB ?_; clear HM; intro g1 W1 HM) | (refine ixa rfl rfl rfl hlt ?_) | (refine ldx0 (HM.out.olds HE.out) rfl rfl ?_))
        go_roundw
        case rel => exact ⟨i + 1, by go_num, by omega, HD, HM⟩
        case measure => simp [intOf]; omega
    · obtain rfl : i = l.length := by omega
      have q1 : decide ((l.length : Int) < l.length) = false := by simp
      have HD := Lib.hid (show (-1 : Int) = r by rw [← HR.out]; unfold idxI; rw [findS_miss HI.out])
      go_wp2_with (first | refine mP ?_ | (refine mB ?_; clear HM; intro g1 W1 HM))
      go_ret
      exact ⟨by rw [← HD.out]; rfl, HM.out.below⟩

theorem tvc_len (o : Option Bool) : (tvc o).length = 10 := rfl
theorem tvc_tvl (o : Option Bool) : tvc o = tvl o := rfl
theorem tvs_ats (W : World) : ∀ l : List (Option Bool), VD.ats W (l.map tvD) (l.flatMap tvc)
  | [] => by simp only [List.map_nil, List.flatMap_nil, VD.ats]
  | o :: r => by
    simp only [List.map_cons, List.flatMap_cons, VD.ats]
    exact ⟨_, _, rfl, tvD_at o W, tvs_ats W r⟩
theorem tvs_truth (l : List (Option Bool)) : (l.map tvD).map VD.truth = l := by
  rw [List.map_map]
  conv => rhs; rw [← List.map_id l]
  congr 1
  funext o
  exact tvD_truth o
/-- all, of a row of truths. -/
theorem rall_tvs (p : Option Addr) (c : Nat) (l : List (Option Bool)) (w : World) (hS : Sl w p (l.flatMap tvc)) (hl : l.length ≤ 1048576) : Calls Tryz.prog 59 #[.slice p l.length c] w fun e w' => e = .returned (truV (allT l)) ∧ RowKit.Below w.heap.size w w' := by
  have h := rall_any p c (l.map tvD) _ w hS (tvs_ats w l) (by rw [List.length_map]; exact hl)
  rw [tvs_truth, List.length_map] at h
  exact h
theorem tvs_push {w W : World} {r : Option Addr} {e i n : Nat} {t : TypeId} {L : List Res} {ts : List (Option Bool)} {o : Option Bool} {cs : List Value} (ht : cs.take (i * 10) = ts.flatMap tvc) (h : Mem w W (.row r e t 10 n (cs.take (i * 10) ++ tvl o) :: L)) : Mem w W (.row r e t 10 n ((ts ++ [o]).flatMap tvc) :: L) := by
  rw [ht] at h
  rw [List.flatMap_append]
  simpa [tvc_tvl] using h

set_option maxHeartbeats 16000000 in
theorem requal_flat (v u : VD) (cv cu : List Value) (w : World) (hv : v.at w cv) (hu : u.at w cu) (hvw : v.wf 1048576) (huw : u.wf 1048576) (hvk : 0 ≤ v.k ∧ v.k ≤ 6) (hk : v.k = 0 ∨ u.k = 0 ∨ v.k ≠ u.k ∨ (v.k ≠ 5 ∧ v.k ≠ 6) ∨ v.l.length ≠ u.l.length) : Calls Tryz.prog 33 #[.agg cv.toArray, .agg cu.toArray] w fun e w' => e = .returned (truV (VD.eq v u)) ∧ RowKit.Below w.heap.size w w' := by
  have HM := Lib.hid (Mem.start w)
  have HV := Lib.hid hv
  have HU := Lib.hid hu
  have HT := Lib.hid (fun b W => rTruth_any b W)
  obtain ⟨s, hs⟩ : ∃ s, VD.same v u = s := ⟨_, rfl⟩
  have HAl := Lib.hid (show ∀ W, RowKit.Below w.heap.size w W → Calls Tryz.prog 40 #[.agg cv.toArray, .agg cu.toArray] W fun e w' => e = .returned (.bool s) ∧ RowKit.Below W.heap.size W w' from fun W hb => by
    rw [← hs]; exact rSame_any _ v u (Nat.le_refl _) _ _ W (VD.at.below hb HV.out) (VD.at.below hb HU.out) hvw huw)
  obtain ⟨r, hr⟩ : ∃ r, VD.eq v u = r := ⟨_, rfl⟩
  rw [hr]
  rw [VD.eq_def', hs] at hr
  obtain ⟨k1, y1, ⟨ng1, hi1, lo1, sc1⟩, t1, d1, l1, ns1⟩ := v
  obtain ⟨k2, y2, ⟨ng2, hi2, lo2, sc2⟩, t2, d2, l2, ns2⟩ := u
  simp only [VD.at, vcs] at hv hu
  obtain ⟨lp1, np1, lc1, nc1, ls1, rfl, -⟩ := hv
  obtain ⟨lp2, np2, lc2, nc2, ls2, rfl, -⟩ := hu
  simp only [VD.k, VD.l] at hk hvk
  replace hr : (if k1 = 0 ∨ k2 = 0 then some (decide (k1 = k2)) else if k1 ≠ k2 then none else if k1 ≠ 5 ∧ k1 ≠ 6 then some s else if l1.length ≠ l2.length then some false else sumT (some true) (ansL (decide (k1 = 6)) ns1 (VD.mk k2 y2 ⟨ng2, hi2, lo2, sc2⟩ t2 d2 l2 ns2) l1 0)) = r := hr
  clear hs hvw huw
  by_cases h0 : k1 = 0
  · subst h0
    rw [if_pos (Or.inl rfl)] at hr
    have HR := Lib.hid hr
    clear hr hk
    by_cases h2 : k2 = 0
    · subst h2
      go_enter Tryz.func33, Tryz.ntmps33
      go_wp2_with (first | ((with_reducible refine skip_op ?_ ?_); exact rfl) | refine mP ?_ | (refine mS ?_; clear HM; intro W1 HM) | (refine mL ?_; clear HM; intro g1 W1 HM) | ((with_reducible refine iat 2 ?_); refine mB ?_; clear HM; intro g2 W1 HM) | ((with_reducible refine iat 3 ?_); refine mB ?_; clear HM; intro g3 W1 HM) | (refine hal (dst := some 4) HM rfl ?_; clear HM; intro g4 W1 HM) | (go_at_call 57; (with_reducible refine cB HM (HT.out _ _) ?_); clear HM; intro W1 HM))
      exact bodyPost_ret (res_box rfl HM.out 0 rfl rfl rfl) rfl ⟨by rw [← HR.out]; try rfl, HM.out.below⟩
    · have q : ((0 : Int) == k2) = false := by simp; omega
      go_enter Tryz.func33, Tryz.ntmps33
      go_wp2_with (first | ((with_reducible refine skip_op ?_ ?_); exact rfl) | refine mP ?_ | (refine mS ?_; clear HM; intro W1 HM) | (refine mL ?_; clear HM; intro g1 W1 HM) | ((with_reducible refine iat 2 ?_); refine mB ?_; clear HM; intro g2 W1 HM) | ((with_reducible refine iat 3 ?_); refine mB ?_; clear HM; intro g3 W1 HM) | (refine hal (dst := some 4) HM rfl ?_; clear HM; intro g4 W1 HM) | (go_at_call 57; (with_reducible refine cB HM (HT.out _ _) ?_); clear HM; intro W1 HM))
      exact bodyPost_ret (res_box rfl HM.out 0 rfl rfl rfl) rfl ⟨by rw [← HR.out, decide_eq_false (fun e => h2 e.symm)]; try rfl, HM.out.below⟩
  · have q0 : (k1 == 0) = false := by simp [h0]
    by_cases h2 : k2 = 0
    · subst h2
      rw [if_pos (Or.inr rfl)] at hr
      have HR := Lib.hid hr
      clear hr hk
      go_enter Tryz.func33, Tryz.ntmps33
      go_wp2_with (first | ((with_reducible refine skip_op ?_ ?_); exact rfl) | refine mP ?_ | (refine mS ?_; clear HM; intro W1 HM) | (refine mL ?_; clear HM; intro g1 W1 HM) | ((with_reducible refine iat 2 ?_); refine mB ?_; clear HM; intro g2 W1 HM) | ((with_reducible refine iat 3 ?_); refine mB ?_; clear HM; intro g3 W1 HM) | (refine hal (dst := some 4) HM rfl ?_; clear HM; intro g4 W1 HM) | (go_at_call 57; (with_reducible refine cB HM (HT.out _ _) ?_); clear HM; intro W1 HM))
      exact bodyPost_ret (res_box rfl HM.out 0 rfl rfl rfl) rfl ⟨by rw [← HR.out, decide_eq_false h0]; try rfl, HM.out.below⟩
    · have q2 : (k2 == 0) = false := by simp [h2]
      rw [if_neg (fun h => h.elim h0 h2)] at hr
      by_cases he : k1 = k2
      · subst he
        have q3 : (k1 != k1) = false := by simp
        rw [if_neg (fun h => h rfl)] at hr
        by_cases h56 : k1 ≠ 5 ∧ k1 ≠ 6
        · rw [if_pos h56] at hr
          have HR := Lib.hid hr
          have q5 : decide (k1 < 5) = true := decide_eq_true (by omega)
          clear hr hk h0 h2 h56
          go_enter Tryz.func33, Tryz.ntmps33
          go_wp2_with (first | ((with_reducible refine skip_op ?_ ?_); exact rfl) | refine mP ?_ | (refine mS ?_; clear HM; intro W1 HM) | (refine mL ?_; clear HM; intro g1 W1 HM) | ((with_reducible refine iat 2 ?_); refine mB ?_; clear HM; intro g2 W1 HM) | ((with_reducible refine iat 3 ?_); refine mB ?_; clear HM; intro g3 W1 HM) | (refine hal (dst := some 4) HM rfl ?_; clear HM; intro g4 W1 HM) | (go_at_call 40; (with_reducible refine cB HM (HAl.out _ HM.out.below) ?_); clear HM; intro W1 HM) | (go_at_call 57; (with_reducible refine cB HM (HT.out _ _) ?_); clear HM; intro W1 HM))
          exact bodyPost_ret (res_box rfl HM.out 0 rfl rfl rfl) rfl ⟨by rw [← HR.out]; try rfl, HM.out.below⟩
        · rw [if_neg h56] at hr
          have hll : l1.length ≠ l2.length := by
            rcases hk with h | h | h | h | h
            · exact absurd h h0
            · exact absurd h h2
            · exact absurd rfl h
            · exact absurd h h56
            · exact h
          rw [if_pos hll] at hr
          have HR := Lib.hid hr
          have q7 : ((l1.length : Int) != l2.length) = true := by simp; omega
          have h5 : k1 = 5 ∨ k1 = 6 := by omega
          clear hr hk h0 h2 h56 hll q0 q2 q3 hvk
          rcases h5 with rfl | rfl
          all_goals
            go_enter Tryz.func33, Tryz.ntmps33
            go_wp2_with (first | ((with_reducible refine skip_op ?_ ?_); exact rfl) | refine mP ?_ | (refine mS ?_; clear HM; intro W1 HM) | (refine mL ?_; clear HM; intro g1 W1 HM) | ((with_reducible refine iat 2 ?_); refine mB ?_; clear HM; intro g2 W1 HM) | ((with_reducible refine iat 3 ?_); refine mB ?_; clear HM; intro g3 W1 HM) | (refine hal (dst := some 4) HM rfl ?_; clear HM; intro g4 W1 HM) | (go_at_call 57; (with_reducible refine cB HM (HT.out _ _) ?_); clear HM; intro W1 HM))
            exact bodyPost_ret (res_box rfl HM.out 0 rfl rfl rfl) rfl ⟨by rw [← HR.out]; try rfl, HM.out.below⟩
      · rw [if_pos he] at hr
        subst hr
        have q3 : (k1 != k2) = true := by simp [he]
        clear hk h0 h2 he
        go_enter Tryz.func33, Tryz.ntmps33
        go_wp2_with (first | ((with_reducible refine skip_op ?_ ?_); exact rfl) | refine mP ?_ | (refine mS ?_; clear HM; intro W1 HM) | (refine mL ?_; clear HM; intro g1 W1 HM) | ((with_reducible refine iat 2 ?_); refine mB ?_; clear HM; intro g2 W1 HM) | ((with_reducible refine iat 3 ?_); refine mB ?_; clear HM; intro g3 W1 HM) | (refine hal (dst := some 4) HM rfl ?_; clear HM; intro g4 W1 HM))
        exact bodyPost_ret (res_box rfl HM.out 0 rfl rfl rfl) rfl ⟨rfl, HM.out.below⟩
end Go.Proofs.YtgobdcmoelcckaaGreatDoor
