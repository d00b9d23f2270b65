/- The same in every part: the reference. (short) -/
import Derived.Test.YtgobdcmoelcckaaGreatDoorValG
namespace Go.Proofs.YtgobdcmoelcckaaGreatDoor
open Go.RowKit
set_option linter.unusedVariables false
set_option linter.unusedSimpArgs false
set_option maxRecDepth 100000

section
variable {P : Program} {ops : Array Oper} {a : Act} {W w0 : World} {rest : List Oper} {L : List Res} {K : Act → Prop}
variable {dst : Option Tmp} {ty0 : TypeId} {pos : String} {after : Array Edge} {gd : Option (Nat × Bool)}
theorem qdxW {ty : TypeId} {n : Nat} [hA : AggT P ty n] {x : Operand} {p : Addr} {vs : List Value} (hv : Cells w0 p vs) (hx : a.eval x = .pointer (some p)) (hn : vs.length = n)
    (h : wpQuiet P ops (fun W => ∃ p : MemW w0 L, W = p.W) K (⟨dst, .move (.const (.agg vs.toArray)), ty0, pos, after, gd⟩ :: rest) a) : wpQuiet P ops (fun W => ∃ p : MemW w0 L, W = p.W) K (⟨dst, .load ty x, ty0, pos, after, gd⟩ :: rest) a :=
  qdA hx hn (fun W ⟨q, hq⟩ => by subst hq; exact q.mem.olds hv) h
end

set_option maxHeartbeats 16000000 in
theorem rSame_any : ∀ (N : Nat) (a b : VD), a.parts ≤ N → ∀ (cs cs' : List Value) (w : World), a.at w cs → b.at w cs' → a.wf 1048576 → b.wf 1048576 → Calls Tryz.prog 40 #[.agg cs.toArray, .agg cs'.toArray] w fun e w' => e = .returned (.bool (VD.same a b)) ∧ RowKit.Below w.heap.size w w'
  | 0, a, _, hN, _, _, _, _, _, _, _ => by have := a.parts_pos; omega
  | N + 1, .mk k y ⟨ng, hi, lo, sc⟩ t d l ns, .mk k' y' ⟨ng', hi', lo', sc'⟩ t' d' l' ns', hN, cs, cs', w, hv, hv', hwf, hwf' => by
    have IH := Lib.hid (fun a b h => rSame_any N a b h)
    simp only [VD.at, vcs] at hv hv'
    simp only [VD.wf] at hwf hwf'
    obtain ⟨lp, np, lc, nc, ls, rfl, -, hS, hL, ha⟩ := hv
    obtain ⟨lp', np', lc', nc', ls', rfl, -, hS', hL', ha'⟩ := hv'
    obtain ⟨-, -, -, hll, hnl, -, hwl⟩ := hwf
    obtain ⟨-, -, -, hll', hnl', -, hwl'⟩ := hwf'
    simp only [VD.parts] at hN
    rw [same_eq]
    obtain ⟨r1, hr1⟩ : ∃ r, decide (ns.map (·.toList) = ns'.map (·.toList)) = r := ⟨_, rfl⟩
    obtain ⟨r2, hr2⟩ : ∃ r, VD.sameL l l' = r := ⟨_, rfl⟩
    rw [hr1, hr2]
    have HS := Lib.hid hS
    have HS' := Lib.hid hS'
    have HL := Lib.hid hL
    have HL' := Lib.hid hL'
    have HA := Lib.hid ha
    have HA' := Lib.hid ha'
    have HW := Lib.hid hwl
    have HW' := Lib.hid hwl'
    have HR1 := Lib.hid hr1
    have HR2 := Lib.hid hr2
    have HM := Lib.hid (Mem.start w)
    clear hr1 hr2 hS hS' hL hL' ha ha' hwl hwl'
    by_cases hk : k = k'
    · subst hk
      by_cases hy : y = y'
      · subst hy
        by_cases hng : ng = ng'
        · subst hng
          by_cases hhi : hi = hi'
          · subst hhi
            by_cases hlo : lo = lo'
            · subst hlo
              by_cases hsc : sc = sc'
              · subst hsc
                by_cases ht : t.toList = t'.toList
                · have q1 : (t.toList == t'.toList) = true := by simp [ht]
                  have q2 : (t.toList != t'.toList) = false := by simp [ht]
                  have HT := Lib.hid ht
                  clear ht
                  by_cases hd : d = d'
                  · subst hd
                    by_cases hlm : l.length = l'.length
                    · have HLm := Lib.hid hlm
                      have q3 : ((l.length : Int) != l'.length) = false := by simp [hlm]
                      clear hlm
                      by_cases hnm : ns.length = ns'.length
                      · have HNm := Lib.hid hnm
                        have q4 : ((ns.length : Int) != ns'.length) = false := by simp [hnm]
                        clear hnm
                        go_enter Tryz.func40, Tryz.ntmps40
                        go_wp2_with (first | ((with_reducible refine skip_op ?_ ?_); exact rfl) | refine mP ?_ | ((with_reducible refine iat 2 ?_); refine mB ?_; clear HM; intro g2 W1 HM) | ((with_reducible refine iat 3 ?_); refine mB ?_; clear HM; intro g3 W1 HM))
                        go_loopw [5] (fun iv wr => ∃ i : Nat, iv = .int .i64 i ∧ i ≤ ns.length ∧ Hid (∀ (j : Nat) (x y : ByteArray), j < i → ns[j]? = some x → ns'[j]? = some y → x.toList = y.toList) ∧ Hid (Mem w wr [.box g3 30 [.int .i64 k, .bool y, .bool ng, .int .u64 hi, .int .u64 lo, .int .i64 sc, .string t', .int .i64 d, .slice lp' l'.length lc', .slice np' ns'.length nc'], .box g2 30 [.int .i64 k, .bool y, .bool ng, .int .u64 hi, .int .u64 lo, .int .i64 sc, .string t, .int .i64 d, .slice lp l.length lc, .slice np ns.length nc]])) (fun iv _ => ns.length - (intOf iv).toNat)
                        case atStart => exact ⟨0, rfl, by omega, Lib.hid (fun j x y h => by omega), HM⟩
                        case round =>
                          clear HM
                          obtain ⟨i, rfl, hi0, HI, HM⟩ := hrel
                          by_cases hlt : i < ns.length
                          · have hltm : i < ns'.length := by have := HNm.out; omega
                            obtain ⟨x, hx⟩ : ∃ x, ns[i]? = some x := ⟨_, List.getElem?_eq_getElem hlt⟩
                            obtain ⟨z, hz⟩ : ∃ x, ns'[i]? = some x := ⟨_, List.getElem?_eq_getElem hltm⟩
                            obtain ⟨b, rfl, hb⟩ := HS.out.some_at strL_len (by decide) hlt
                            obtain ⟨b', rfl, hb'⟩ := HS'.out.some_at strL_len (by decide) hltm
                            have HE := Lib.hid (hb.elem strL 1 strL_len hx)
                            have HE' := Lib.hid (hb'.elem strL 1 strL_len hz)
                            have p1 : decide ((i : Int) < ns.length) = true := decide_eq_true (by omega)
                            by_cases he : x.toList = z.toList
                            · have p2 : (x.toList != z.toList) = false := by simp [he]
                              have p3 : (x.toList == z.toList) = true := by simp [he]
                              have HD := Lib.hid (show ∀ (j : Nat) (x y : ByteArray), j < i + 1 → ns[j]? = some x → ns'[j]? = some y → x.toList = y.toList from fun j x' y' hj hx' hy' => by
                                by_cases e : j = i
                                · subst e; rw [hx] at hx'; rw [hz] at hy'; rw [← Option.some.inj hx', ← Option.some.inj hy']; exact he
                                · exact HI.out j _ _ (by omega) hx' hy')
                              clear he hx hz hb hb'
                              go_wp2_with (first | ((with_reducible refine skip_op ?_ ?_); exact rfl) | refine mP ?_ | ((with_reducible refine iat 2 ?_); refine mB ?_; clear HM; intro g2 W1 HM) | ((with_reducible refine iat 3 ?_); refine mB ?_; clear HM; intro g3 W1 HM))
                              refine wp_region_mem (by kernel_rfl) (by kernel_rfl) HM.out ?_; intro hNE; (repeat (any_goals (first | ((with_reducible refine qgd ?_); (with_reducible refine skip_q ?_ ?_ ?_); (exact rfl); (rotate_left; (exact (hNE.elim fun p => ⟨p.W, p, rfl⟩)))) | refine mQ ?_ | (refine qixa rfl rfl rfl hlt ?_) | (refine qixa rfl rfl rfl hltm ?_) | (refine qdx0 HE.out rfl rfl ?_) | (refine qdx0 HE'.out rfl rfl ?_) | go_big_quiet_step (fail) | quiet_step (fail)))); clear hNE; refine wpQuiet_nil ?_; intro W1 HM1; replace HM := Lib.hid HM1; clear HM1
                              go_wp2
                              go_roundw
                              case rel => exact ⟨i + 1, by go_num, by omega, HD, HM⟩
                              case measure => simp [intOf]; omega
                            · have p2 : (x.toList != z.toList) = true := by simp [he]
                              have p3 : (x.toList == z.toList) = false := by simp [he]
                              have HD := Lib.hid (show r1 = false by rw [← HR1.out]; exact decide_eq_false (ne_at hx hz he))
                              clear he hx hz hb hb'
                              go_wp2_with (first | ((with_reducible refine skip_op ?_ ?_); exact rfl) | refine mP ?_ | ((with_reducible refine iat 2 ?_); refine mB ?_; clear HM; intro g2 W1 HM) | ((with_reducible refine iat 3 ?_); refine mB ?_; clear HM; intro g3 W1 HM))
                              refine wp_region_mem (by kernel_rfl) (by kernel_rfl) HM.out ?_; intro hNE; (repeat (any_goals (first | ((with_reducible refine qgd ?_); (with_reducible refine skip_q ?_ ?_ ?_); (exact rfl); (rotate_left; (exact (hNE.elim fun p => ⟨p.W, p, rfl⟩)))) | refine mQ ?_ | (refine qixa rfl rfl rfl hlt ?_) | (refine qixa rfl rfl rfl hltm ?_) | (refine qdx0 HE.out rfl rfl ?_) | (refine qdx0 HE'.out rfl rfl ?_) | go_big_quiet_step (fail) | quiet_step (fail)))); clear hNE; refine wpQuiet_nil ?_; intro W1 HM1; replace HM := Lib.hid HM1; clear HM1
                              go_wp2
                              go_ret
                              exact ⟨by rw [HD.out]; simp [sameB], HM.out.below⟩
                          · obtain rfl : i = ns.length := by omega
                            have HD1 := Lib.hid (show r1 = true by rw [← HR1.out]; exact decide_eq_true (eq_at HNm.out fun j x y hj => HI.out j x y hj))
                            have p1 : decide ((ns.length : Int) < ns.length) = false := by simp
                            go_wp2_with (first | ((with_reducible refine skip_op ?_ ?_); exact rfl) | refine mP ?_ | ((with_reducible refine iat 2 ?_); refine mB ?_; clear HM; intro g2 W1 HM) | ((with_reducible refine iat 3 ?_); refine mB ?_; clear HM; intro g3 W1 HM))
                            go_loopw [6] (fun iv wr => ∃ i : Nat, iv = .int .i64 i ∧ i ≤ l.length ∧ Hid (VD.sameL (l.take i) (l'.take i) = true) ∧ Hid (Mem w wr [.box g3 30 [.int .i64 k, .bool y, .bool ng, .int .u64 hi, .int .u64 lo, .int .i64 sc, .string t', .int .i64 d, .slice lp' l'.length lc', .slice np' ns'.length nc'], .box g2 30 [.int .i64 k, .bool y, .bool ng, .int .u64 hi, .int .u64 lo, .int .i64 sc, .string t, .int .i64 d, .slice lp l.length lc, .slice np ns.length nc]])) (fun iv _ => l.length - (intOf iv).toNat)
                            case atStart => exact ⟨0, rfl, by omega, Lib.hid rfl, HM⟩
                            case round =>
                              clear HM
                              obtain ⟨i, rfl, hi0, HI, HM⟩ := hrel
                              by_cases hlt : i < l.length
                              · have hltm : i < l'.length := by have := HLm.out; omega
                                obtain ⟨x, hx⟩ : ∃ x, l[i]? = some x := ⟨_, List.getElem?_eq_getElem hlt⟩
                                obtain ⟨z, hz⟩ : ∃ x, l'[i]? = some x := ⟨_, List.getElem?_eq_getElem hltm⟩
                                obtain ⟨b, cx, rfl, hxa, hxc⟩ := vrow HL.out HA.out hx
                                obtain ⟨b', cz, rfl, hza, hzc⟩ := vrow HL'.out HA'.out hz
                                have HC := Lib.hid hxc
                                have HC' := Lib.hid hzc
                                have HX := Lib.hid hxa
                                have HZ := Lib.hid hza
                                have HXw := Lib.hid (VD.wfL_get HW.out hx)
                                have HZw := Lib.hid (VD.wfL_get HW'.out hz)
                                have hpx := VD.partsL_get hx
                                obtain ⟨u, hu⟩ : ∃ u, VD.same x z = u := ⟨_, rfl⟩
                                have HCl := Lib.hid (show ∀ W, RowKit.Below w.heap.size w W → Calls Tryz.prog 40 #[.agg cx.toArray, .agg cz.toArray] W fun e w' => e = .returned (.bool u) ∧ RowKit.Below W.heap.size W w' from fun W hb => by
                                  rw [← hu]
                                  exact IH.out x z (by omega) _ _ _ (VD.at.below hb HX.out) (VD.at.below hb HZ.out) HXw.out HZw.out)
                                have HD := Lib.hid (show VD.sameL (l.take (i + 1)) (l'.take (i + 1)) = u by rw [sameL_step HLm.out hx hz HI.out, hu])
                                have p1 : decide ((i : Int) < l.length) = true := decide_eq_true (by omega)
                                obtain ⟨k1, y1, ⟨ng1, hi1, lo1, sc1⟩, t1, d1, l1, ns1⟩ := x
                                obtain ⟨k2, y2, ⟨ng2, hi2, lo2, sc2⟩, t2, d2, l2, ns2⟩ := z
                                simp only [VD.at, vcs] at hxa hza
                                obtain ⟨lp1, np1, lc1, nc1, ls1, rfl, -⟩ := hxa
                                obtain ⟨lp2, np2, lc2, nc2, ls2, rfl, -⟩ := hza
                                clear hx hz hxc hzc hpx hu
                                cases u with
                                | true =>
                                  go_wp2_with (first | ((with_reducible refine skip_op ?_ ?_); exact rfl) | refine mP ?_ | ((with_reducible refine iat 2 ?_); refine mB ?_; clear HM; intro g2 W1 HM) | ((with_reducible refine iat 3 ?_); refine mB ?_; clear HM; intro g3 W1 HM))
                                  refine wp_region_steps2 [(true, 0), (true, 1), (true, 2), (true, 3), (true, 4), (true, 5), (true, 6), (true, 7), (true, 8), (true, 9), (false, 10), (true, 11)] (by kernel_rfl) (by kernel_rfl) rfl (by kernel_rfl) (fun _ _ _ _ _ h => h) HM.out _ (.cons_cons _ (.cons_cons _ .slnil)) ?_
                                  intro hNE W1 HM1; replace HM := Lib.hid HM1; clear HM1
                                  have HS0 := Lib.hid (HM.out.sub (.cons_cons _ (.cons_cons _ .slnil)))
                                  simp only [wpSteps, List.getElem?_cons_succ, List.getElem?_cons_zero]
                                  (repeat (first | ((with_reducible refine wpQuiet_nil ?_); (try dsimp only)) | refine mQ ?_ | (refine qixa rfl rfl rfl hlt ?_) | (refine qixa rfl rfl rfl hltm ?_) | (refine qdxW HC.out rfl rfl ?_) | (refine qdxW HC'.out rfl rfl ?_) | go_big_quiet_step (fail) | quiet_step (fail)))
                                  go_wp2_with (first | (go_at_call 40; (with_reducible refine cB HM (HCl.out _ HM.out.below) ?_); clear HM; intro W1 HM))
                                  refine ⟨⟨⟨_, HM.out.sub (by repeat (first | exact List.nil_sublist _ | with_reducible refine List.Sublist.cons_cons _ ?_ | refine List.Sublist.cons _ ?_))⟩, rfl⟩, ?_⟩
                                  (try dsimp only)
                                  (repeat (first | ((with_reducible refine wpQuiet_nil ?_); (try dsimp only)) | refine mQ ?_ | (refine qixa rfl rfl rfl hlt ?_) | (refine qixa rfl rfl rfl hltm ?_) | (refine qdxW HC.out rfl rfl ?_) | (refine qdxW HC'.out rfl rfl ?_) | go_big_quiet_step (fail) | quiet_step (fail)))
                                  clear HS0 hNE
                                  go_wp2_with fail
                                  go_roundw
                                  case rel => exact ⟨i + 1, by go_num, by omega, HD, HM⟩
                                  case measure => simp [intOf]; omega
                                | false =>
                                  have HD := Lib.hid (show r2 = false by rw [← HR2.out]; exact sameL_cut HLm.out HD.out)
                                  go_wp2_with (first | ((with_reducible refine skip_op ?_ ?_); exact rfl) | refine mP ?_ | ((with_reducible refine iat 2 ?_); refine mB ?_; clear HM; intro g2 W1 HM) | ((with_reducible refine iat 3 ?_); refine mB ?_; clear HM; intro g3 W1 HM))
                                  refine wp_region_steps2 [(true, 0), (true, 1), (true, 2), (true, 3), (true, 4), (true, 5), (true, 6), (true, 7), (true, 8), (true, 9), (false, 10), (true, 11)] (by kernel_rfl) (by kernel_rfl) rfl (by kernel_rfl) (fun _ _ _ _ _ h => h) HM.out _ (.cons_cons _ (.cons_cons _ .slnil)) ?_
                                  intro hNE W1 HM1; replace HM := Lib.hid HM1; clear HM1
                                  have HS0 := Lib.hid (HM.out.sub (.cons_cons _ (.cons_cons _ .slnil)))
                                  simp only [wpSteps, List.getElem?_cons_succ, List.getElem?_cons_zero]
                                  (repeat (first | ((with_reducible refine wpQuiet_nil ?_); (try dsimp only)) | refine mQ ?_ | (refine qixa rfl rfl rfl hlt ?_) | (refine qixa rfl rfl rfl hltm ?_) | (refine qdxW HC.out rfl rfl ?_) | (refine qdxW HC'.out rfl rfl ?_) | go_big_quiet_step (fail) | quiet_step (fail)))
                                  go_wp2_with (first | (go_at_call 40; (with_reducible refine cB HM (HCl.out _ HM.out.below) ?_); clear HM; intro W1 HM))
                                  refine ⟨⟨⟨_, HM.out.sub (by repeat (first | exact List.nil_sublist _ | with_reducible refine List.Sublist.cons_cons _ ?_ | refine List.Sublist.cons _ ?_))⟩, rfl⟩, ?_⟩
                                  (try dsimp only)
                                  (repeat (first | ((with_reducible refine wpQuiet_nil ?_); (try dsimp only)) | refine mQ ?_ | (refine qixa rfl rfl rfl hlt ?_) | (refine qixa rfl rfl rfl hltm ?_) | (refine qdxW HC.out rfl rfl ?_) | (refine qdxW HC'.out rfl rfl ?_) | go_big_quiet_step (fail) | quiet_step (fail)))
                                  clear HS0 hNE
                                  go_wp2_with fail
                                  go_ret
                                  exact ⟨by rw [HD.out]; simp [sameB], HM.out.below⟩
                              · obtain rfl : i = l.length := by omega
                                have p1 : decide ((l.length : Int) < l.length) = false := by simp
                                have HD := Lib.hid (show r2 = true by rw [← HR2.out]; have := HI.out; rw [List.take_length] at this; rw [HLm.out, List.take_length] at this; exact this)
                                go_wp2_with (first | ((with_reducible refine skip_op ?_ ?_); exact rfl) | refine mP ?_ | ((with_reducible refine iat 2 ?_); refine mB ?_; clear HM; intro g2 W1 HM) | ((with_reducible refine iat 3 ?_); refine mB ?_; clear HM; intro g3 W1 HM))
                                go_ret
                                exact ⟨by rw [HD.out, HD1.out]; simp [sameB, HT.out], HM.out.below⟩
                      · have HD := Lib.hid (show r1 = false by rw [← HR1.out]; exact decide_eq_false fun e => hnm (by simpa using congrArg List.length e))
                        have q4 : ((ns.length : Int) != ns'.length) = true := by simp; omega
                        go_enter Tryz.func40, Tryz.ntmps40
                        go_wp2_with (first | ((with_reducible refine skip_op ?_ ?_); exact rfl) | refine mP ?_ | ((with_reducible refine iat 2 ?_); refine mB ?_; clear HM; intro g2 W1 HM) | ((with_reducible refine iat 3 ?_); refine mB ?_; clear HM; intro g3 W1 HM))
                        go_ret
                        exact ⟨by rw [HD.out]; simp [sameB], HM.out.below⟩
                    · have HD := Lib.hid (show r2 = false by rw [← HR2.out]; exact sameL_len _ _ hlm)
                      have q3 : ((l.length : Int) != l'.length) = true := by simp; omega
                      go_enter Tryz.func40, Tryz.ntmps40
                      go_wp2_with (first | ((with_reducible refine skip_op ?_ ?_); exact rfl) | refine mP ?_ | ((with_reducible refine iat 2 ?_); refine mB ?_; clear HM; intro g2 W1 HM) | ((with_reducible refine iat 3 ?_); refine mB ?_; clear HM; intro g3 W1 HM))
                      go_ret
                      exact ⟨by rw [HD.out]; simp [sameB], HM.out.below⟩
                  · skip
                    go_enter Tryz.func40, Tryz.ntmps40
                    go_wp2_with (first | ((with_reducible refine skip_op ?_ ?_); exact rfl) | refine mP ?_ | ((with_reducible refine iat 2 ?_); refine mB ?_; clear HM; intro g2 W1 HM) | ((with_reducible refine iat 3 ?_); refine mB ?_; clear HM; intro g3 W1 HM))
                    go_ret
                    exact ⟨by simp [sameB, *], HM.out.below⟩
                · have q1 : (t.toList == t'.toList) = false := by simp [ht]
                  go_enter Tryz.func40, Tryz.ntmps40
                  go_wp2_with (first | ((with_reducible refine skip_op ?_ ?_); exact rfl) | refine mP ?_ | ((with_reducible refine iat 2 ?_); refine mB ?_; clear HM; intro g2 W1 HM) | ((with_reducible refine iat 3 ?_); refine mB ?_; clear HM; intro g3 W1 HM))
                  go_ret
                  exact ⟨by simp [sameB, *], HM.out.below⟩
              · skip
                go_enter Tryz.func40, Tryz.ntmps40
                go_wp2_with (first | ((with_reducible refine skip_op ?_ ?_); exact rfl) | refine mP ?_ | ((with_reducible refine iat 2 ?_); refine mB ?_; clear HM; intro g2 W1 HM) | ((with_reducible refine iat 3 ?_); refine mB ?_; clear HM; intro g3 W1 HM))
                go_ret
                exact ⟨by simp [sameB, *], HM.out.below⟩
            · skip
              go_enter Tryz.func40, Tryz.ntmps40
              go_wp2_with (first | ((with_reducible refine skip_op ?_ ?_); exact rfl) | refine mP ?_ | ((with_reducible refine iat 2 ?_); refine mB ?_; clear HM; intro g2 W1 HM) | ((with_reducible refine iat 3 ?_); refine mB ?_; clear HM; intro g3 W1 HM))
              go_ret
              exact ⟨by simp [sameB, *], HM.out.below⟩
          · skip
            go_enter Tryz.func40, Tryz.ntmps40
            go_wp2_with (first | ((with_reducible refine skip_op ?_ ?_); exact rfl) | refine mP ?_ | ((with_reducible refine iat 2 ?_); refine mB ?_; clear HM; intro g2 W1 HM) | ((with_reducible refine iat 3 ?_); refine mB ?_; clear HM; intro g3 W1 HM))
            go_ret
            exact ⟨by simp [sameB, *], HM.out.below⟩
        · have q : (ng == ng') = false := by simp [hng]
          go_enter Tryz.func40, Tryz.ntmps40
          go_wp2_with (first | ((with_reducible refine skip_op ?_ ?_); exact rfl) | refine mP ?_ | ((with_reducible refine iat 2 ?_); refine mB ?_; clear HM; intro g2 W1 HM) | ((with_reducible refine iat 3 ?_); refine mB ?_; clear HM; intro g3 W1 HM))
          go_ret
          exact ⟨by simp [sameB, *], HM.out.below⟩
      · have q : (y != y') = true := by simp [hy]
        go_enter Tryz.func40, Tryz.ntmps40
        go_wp2_with (first | ((with_reducible refine skip_op ?_ ?_); exact rfl) | refine mP ?_ | ((with_reducible refine iat 2 ?_); refine mB ?_; clear HM; intro g2 W1 HM) | ((with_reducible refine iat 3 ?_); refine mB ?_; clear HM; intro g3 W1 HM))
        go_ret
        exact ⟨by simp [sameB, *], HM.out.below⟩
    · have q : (k != k') = true := by simp [hk]
      go_enter Tryz.func40, Tryz.ntmps40
      go_wp2_with (first | ((with_reducible refine skip_op ?_ ?_); exact rfl) | refine mP ?_ | ((with_reducible refine iat 2 ?_); refine mB ?_; clear HM; intro g2 W1 HM) | ((with_reducible refine iat 3 ?_); refine mB ?_; clear HM; intro g3 W1 HM))
      go_ret
      exact ⟨by simp [sameB, *], HM.out.below⟩
end Go.Proofs.YtgobdcmoelcckaaGreatDoor
