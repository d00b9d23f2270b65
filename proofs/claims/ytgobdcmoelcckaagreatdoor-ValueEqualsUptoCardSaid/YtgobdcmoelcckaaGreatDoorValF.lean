/- The same in every part: both sides. (short) -/
import Derived.Test.YtgobdcmoelcckaaGreatDoorValA
namespace Go.Proofs.YtgobdcmoelcckaaGreatDoor
open Go.RowKit
set_option linter.unusedVariables false
set_option linter.unusedSimpArgs false
set_option maxRecDepth 100000

theorem eq_at {l m : List ByteArray} (hl : l.length = m.length) (h : ∀ (j : Nat) (x y : ByteArray), j < l.length → l[j]? = some x → m[j]? = some y → x.toList = y.toList) : l.map (·.toList) = m.map (·.toList) := by
  refine List.ext_getElem (by simp [hl]) fun j h1 h2 => ?_
  simp only [List.length_map] at h1 h2
  rw [List.getElem_map, List.getElem_map]
  exact h j _ _ h1 (List.getElem?_eq_getElem h1) (List.getElem?_eq_getElem h2)
theorem ne_at {l m : List ByteArray} {i : Nat} {x y : ByteArray} (hx : l[i]? = some x) (hy : m[i]? = some y) (h : x.toList ≠ y.toList) : l.map (·.toList) ≠ m.map (·.toList) := fun e => by
  have h1 : (l.map (·.toList))[i]? = some x.toList := by rw [List.getElem?_map, hx]; rfl
  have h2 : (m.map (·.toList))[i]? = some y.toList := by rw [List.getElem?_map, hy]; rfl
  rw [e, h2] at h1
  exact h (Option.some.inj h1).symm

set_option maxHeartbeats 4000000 in
theorem sequal_any (p p' : Option Addr) (c c' : Nat) (l m : List ByteArray) (w : World) (hS : Sl w p (l.flatMap strL)) (hS' : Sl w p' (m.flatMap strL)) (hl : l.length ≤ 1048576) (hm : m.length ≤ 1048576) : Calls Tryz.prog 74 #[.slice p l.length c, .slice p' m.length c'] w fun e w' => e = .returned (.bool (decide (l.map (·.toList) = m.map (·.toList)))) ∧ RowKit.Below w.heap.size w w' := by
  have HM := Lib.hid (Mem.start w)
  have HS := Lib.hid hS
  have HS' := Lib.hid hS'
  obtain ⟨r, hr⟩ : ∃ r, decide (l.map (·.toList) = m.map (·.toList)) = r := ⟨_, rfl⟩
  rw [hr]
  have HR := Lib.hid hr
  clear hS hS' hr
  by_cases hlm : l.length = m.length
  · have q0 : ((l.length : Int) != m.length) = false := by simp [hlm]
    have HL := Lib.hid hlm
    clear hlm
    go_enter Tryz.func74, Tryz.ntmps74
    go_wp2_with fail
    go_loopw [13] (fun iv wr => ∃ i : Nat, iv = .int .i64 i ∧ i ≤ l.length ∧ Hid (∀ (j : Nat) (x y : ByteArray), j < i → l[j]? = some x → m[j]? = some y → x.toList = y.toList) ∧ Hid (Mem w wr [])) (fun iv _ => l.length - (intOf iv).toNat)
    case atStart => exact ⟨0, rfl, by omega, Lib.hid (fun j x y h => by omega), HM⟩
    case round =>
      clear HM
      obtain ⟨i, rfl, hi0, HI, HM⟩ := hrel
      by_cases hlt : i < l.length
      · have hltm : i < m.length := by have := HL.out; omega
        obtain ⟨x, hx⟩ : ∃ x, l[i]? = some x := ⟨_, List.getElem?_eq_getElem hlt⟩
        obtain ⟨z, hz⟩ : ∃ x, m[i]? = some x := ⟨_, List.getElem?_eq_getElem hltm⟩
        obtain ⟨b, rfl, hb⟩ := HS.out.some_at strL_len (by decide) hlt
        obtain ⟨b', rfl, hb'⟩ := HS'.out.some_at strL_len (by decide) hltm
        have HE := Lib.hid (hb.elem strL 1 strL_len hx)
        have HE' := Lib.hid (hb'.elem strL 1 strL_len hz)
        have q1 : decide ((i : Int) < l.length) = true := decide_eq_true (by omega)
        by_cases he : x.toList = z.toList
        · have q2 : (x.toList != z.toList) = false := by simp [he]
          have q3 : (x.toList == z.toList) = true := by simp [he]
          have HD := Lib.hid (show ∀ (j : Nat) (x y : ByteArray), j < i + 1 → l[j]? = some x → m[j]? = some y → x.toList = y.toList from fun j x' y' hj hx' hy' => by
            by_cases e : j = i
            · subst e; rw [hx] at hx'; rw [hz] at hy'; rw [← Option.some.inj hx', ← Option.some.inj hy']; exact he
            · exact HI.out j _ _ (by omega) hx' hy')
          clear he hx hz hb hb'
          go_wp2_with fail
          refine wp_region_mem (by kernel_rfl) (by kernel_rfl) HM.out ?_; intro hNE; (repeat (any_goals (first | ((with_reducible refine qgd ?_); (with_reducible refine skip_q ?_ ?_ ?_); (exact rfl); (rotate_left; (exact (hNE.elim fun p => ⟨p.W, p, rfl⟩)))) | refine mQ ?_ | (refine qixa rfl rfl rfl hlt ?_) | (refine qixa rfl rfl rfl hltm ?_) | (refine qdx0 HE.out rfl rfl ?_) | (refine qdx0 HE'.out rfl rfl ?_) | go_big_quiet_step (fail) | quiet_step (fail)))); clear hNE; refine wpQuiet_nil ?_; intro W1 HM1; replace HM := Lib.hid HM1; clear HM1
          go_wp2
          go_roundw
          case rel => exact ⟨i + 1, by go_num, by omega, HD, HM⟩
          case measure => simp [intOf]; omega
        · have q2 : (x.toList != z.toList) = true := by simp [he]
          have q3 : (x.toList == z.toList) = false := by simp [he]
          have HD := Lib.hid (show r = false by rw [← HR.out]; exact decide_eq_false (ne_at hx hz he))
          clear he hx hz hb hb'
          go_wp2_with fail
          refine wp_region_mem (by kernel_rfl) (by kernel_rfl) HM.out ?_; intro hNE; (repeat (any_goals (first | ((with_reducible refine qgd ?_); (with_reducible refine skip_q ?_ ?_ ?_); (exact rfl); (rotate_left; (exact (hNE.elim fun p => ⟨p.W, p, rfl⟩)))) | refine mQ ?_ | (refine qixa rfl rfl rfl hlt ?_) | (refine qixa rfl rfl rfl hltm ?_) | (refine qdx0 HE.out rfl rfl ?_) | (refine qdx0 HE'.out rfl rfl ?_) | go_big_quiet_step (fail) | quiet_step (fail)))); clear hNE; refine wpQuiet_nil ?_; intro W1 HM1; replace HM := Lib.hid HM1; clear HM1
          go_wp2
          go_ret
          exact ⟨by rw [HD.out]; rfl, HM.out.below⟩
      · obtain rfl : i = l.length := by omega
        have HD := Lib.hid (show r = true by rw [← HR.out]; exact decide_eq_true (eq_at HL.out fun j x y hj => HI.out j x y hj))
        go_wp2
        go_ret
        exact ⟨by rw [HD.out]; rfl, HM.out.below⟩
  · have HD := Lib.hid (show r = false by rw [← HR.out]; exact decide_eq_false fun e => hlm (by simpa using congrArg List.length e))
    have q0 : ((l.length : Int) != m.length) = true := by simp; omega
    go_enter Tryz.func74, Tryz.ntmps74
    go_wp2_with fail
    go_ret
    exact ⟨by rw [HD.out]; rfl, HM.out.below⟩

theorem sameL_app : ∀ (a c b d : List VD), a.length = c.length → VD.sameL (a ++ b) (c ++ d) = (VD.sameL a c && VD.sameL b d)
  | [], [], b, d, _ => by simp [VD.sameL]
  | x :: r, y :: s, b, d, h => by
    simp only [List.cons_append, VD.sameL]
    rw [sameL_app r s b d (by simpa using h), Bool.and_assoc]
  | [], _ :: _, _, _, h => by simp at h
  | _ :: _, [], _, _, h => by simp at h
theorem sameL_len : ∀ (a c : List VD), a.length ≠ c.length → VD.sameL a c = false
  | [], [], h => absurd rfl h
  | x :: r, y :: s, h => by
    simp only [VD.sameL]
    rw [sameL_len r s (by simpa using h)]
    simp
  | [], _ :: _, _ => rfl
  | _ :: _, [], _ => rfl
theorem sameL_step {l m : List VD} {i : Nat} {x y : VD} (hl : l.length = m.length) (hx : l[i]? = some x) (hy : m[i]? = some y) (h : VD.sameL (l.take i) (m.take i) = true) : VD.sameL (l.take (i + 1)) (m.take (i + 1)) = VD.same x y := by
  rw [take_get hx, take_get hy, sameL_app _ _ _ _ (by simp [hl]), h]
  simp [VD.sameL]
theorem sameL_cut {l m : List VD} {i : Nat} (hl : l.length = m.length) (h : VD.sameL (l.take i) (m.take i) = false) : VD.sameL l m = false := by
  rw [← List.take_append_drop i l, ← List.take_append_drop i m, sameL_app _ _ _ _ (by simp [hl]), h]
  rfl

set_option maxHeartbeats 4000000 in
theorem eqfunc_any (N : Nat) (w : World) (IH : ∀ (a b : VD), a.parts ≤ N → ∀ (cs cs' : List Value) (W : World), a.at W cs → b.at W cs' → a.wf 1048576 → b.wf 1048576 → Calls Tryz.prog 45 #[.agg cs.toArray, .agg cs'.toArray] W fun e w' => e = .returned (.bool (VD.same a b)) ∧ RowKit.Below W.heap.size W w')
    (p p' : Option Addr) (c c' : Nat) (l m : List VD) (ls ms : List Value) (hS : Sl w p ls) (hS' : Sl w p' ms) (ha : VD.ats w l ls) (ha' : VD.ats w m ms) (hw : VD.wfL 1048576 l) (hw' : VD.wfL 1048576 m) (hl : l.length ≤ 1048576) (hm : m.length ≤ 1048576) (hN : VD.partsL l ≤ N) :
    Calls Tryz.prog 75 #[.slice p l.length c, .slice p' m.length c', .func (.func 45) #[] #[]] w fun e w' => e = .returned (.bool (VD.sameL l m)) ∧ RowKit.Below w.heap.size w w' := by
  have HM := Lib.hid (Mem.start w)
  have HS := Lib.hid hS
  have HS' := Lib.hid hS'
  have HA := Lib.hid ha
  have HA' := Lib.hid ha'
  have HW := Lib.hid hw
  have HW' := Lib.hid hw'
  have IH := Lib.hid IH
  obtain ⟨r, hr⟩ : ∃ r, VD.sameL l m = r := ⟨_, rfl⟩
  rw [hr]
  have HR := Lib.hid hr
  clear hS hS' hr ha ha' hw hw'
  by_cases hlm : l.length = m.length
  · have q0 : ((l.length : Int) != m.length) = false := by simp [hlm]
    have HL := Lib.hid hlm
    clear hlm
    go_enter Tryz.func75, Tryz.ntmps75
    go_wp2_with fail
    go_loopw [17] (fun iv wr => ∃ i : Nat, iv = .int .i64 i ∧ i ≤ l.length ∧ Hid (VD.sameL (l.take i) (m.take i) = true) ∧ Hid (Mem w wr [])) (fun iv _ => l.length - (intOf iv).toNat)
    case atStart => exact ⟨0, rfl, by omega, Lib.hid rfl, HM⟩
    case round =>
      clear HM
      obtain ⟨i, rfl, hi0, HI, HM⟩ := hrel
      by_cases hlt : i < l.length
      · have hltm : i < m.length := by have := HL.out; omega
        obtain ⟨x, hx⟩ : ∃ x, l[i]? = some x := ⟨_, List.getElem?_eq_getElem hlt⟩
        obtain ⟨z, hz⟩ : ∃ x, m[i]? = some x := ⟨_, List.getElem?_eq_getElem hltm⟩
        obtain ⟨b, cx, rfl, hxa, hxc⟩ := vrow HS.out HA.out hx
        obtain ⟨b', cz, rfl, hza, hzc⟩ := vrow HS'.out HA'.out hz
        have HC := Lib.hid hxc
        have HC' := Lib.hid hzc
        have HX := Lib.hid hxa
        have HZ := Lib.hid hza
        have HXw := Lib.hid (VD.wfL_get HW.out hx)
        have HZw := Lib.hid (VD.wfL_get HW'.out hz)
        have hpx := VD.partsL_get hx
        obtain ⟨u, hu⟩ : ∃ u, VD.same x z = u := ⟨_, rfl⟩
        have HCl := Lib.hid (show ∀ W, RowKit.Below w.heap.size w W → Calls Tryz.prog 45 #[.agg cx.toArray, .agg cz.toArray] W fun e w' => e = .returned (.bool u) ∧ RowKit.Below W.heap.size W w' from fun W hb => by
          rw [← hu]
          exact IH.out x z (by omega) _ _ _ (VD.at.below hb HX.out) (VD.at.below hb HZ.out) HXw.out HZw.out)
        have HD := Lib.hid (show VD.sameL (l.take (i + 1)) (m.take (i + 1)) = u by rw [sameL_step HL.out hx hz HI.out, hu])
        have q1 : decide ((i : Int) < l.length) = true := decide_eq_true (by omega)
        obtain ⟨k1, y1, ⟨ng1, hi1, lo1, sc1⟩, t1, d1, l1, ns1⟩ := x
        obtain ⟨k2, y2, ⟨ng2, hi2, lo2, sc2⟩, t2, d2, l2, ns2⟩ := z
        simp only [VD.at, vcs] at hxa hza
        obtain ⟨lp1, np1, lc1, nc1, ls1, rfl, -⟩ := hxa
        obtain ⟨lp2, np2, lc2, nc2, ls2, rfl, -⟩ := hza
        clear hx hz hxc hzc hpx hu
        cases u with
        | true =>
          go_wp2_with (first | refine mP ?_ | (refine mS ?_; clear HM; intro W1 HM) | (refine hal (dst := some 8) HM rfl ?_; clear HM; intro g8 W1 HM) | (refine hal (dst := some 9) HM rfl ?_; clear HM; intro g9 W1 HM) | (refine ixa rfl rfl rfl hlt ?_) | (refine ixa rfl rfl rfl hltm ?_) | (refine ldxW (HM.out.olds HC.out) rfl rfl ?_) | (refine ldxW (HM.out.olds HC'.out) rfl rfl ?_) | (go_at_call 45; (with_reducible refine cB HM (HCl.out _ HM.out.below) ?_); clear HM; intro W1 HM))
          go_roundw
          case rel => exact ⟨i + 1, by go_num, by omega, HD, Lib.hid (HM.out.sub (List.nil_sublist _))⟩
          case measure => simp [intOf]; omega
        | false =>
          have HD := Lib.hid (show r = false by rw [← HR.out]; exact sameL_cut HL.out HD.out)
          go_wp2_with (first | refine mP ?_ | (refine mS ?_; clear HM; intro W1 HM) | (refine hal (dst := some 8) HM rfl ?_; clear HM; intro g8 W1 HM) | (refine hal (dst := some 9) HM rfl ?_; clear HM; intro g9 W1 HM) | (refine ixa rfl rfl rfl hlt ?_) | (refine ixa rfl rfl rfl hltm ?_) | (refine ldxW (HM.out.olds HC.out) rfl rfl ?_) | (refine ldxW (HM.out.olds HC'.out) rfl rfl ?_) | (go_at_call 45; (with_reducible refine cB HM (HCl.out _ HM.out.below) ?_); clear HM; intro W1 HM))
          go_ret
          exact ⟨by rw [HD.out]; rfl, HM.out.below⟩
      · obtain rfl : i = l.length := by omega
        have HD := Lib.hid (show r = true by rw [← HR.out]; have := HI.out; rw [List.take_length] at this; rw [HL.out, List.take_length] at this; exact this)
        go_wp2
        go_ret
        exact ⟨by rw [HD.out]; rfl, HM.out.below⟩
  · have HD := Lib.hid (show r = false by rw [← HR.out]; exact sameL_len _ _ hlm)
    have q0 : ((l.length : Int) != m.length) = true := by simp; omega
    go_enter Tryz.func75, Tryz.ntmps75
    go_wp2_with fail
    go_ret
    exact ⟨by rw [HD.out]; rfl, HM.out.below⟩
end Go.Proofs.YtgobdcmoelcckaaGreatDoor
