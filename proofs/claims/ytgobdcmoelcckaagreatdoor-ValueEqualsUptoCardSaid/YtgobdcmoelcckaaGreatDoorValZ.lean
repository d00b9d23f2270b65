/- Equal of the reference. (short) -/
import Derived.Test.YtgobdcmoelcckaaGreatDoorValY
namespace Go.Proofs.YtgobdcmoelcckaaGreatDoor
open Go.RowKit
set_option linter.unusedVariables false
set_option linter.unusedSimpArgs false
set_option maxRecDepth 100000

theorem form_kind {x : VD} (h : x.form = true) : 0 ≤ x.k ∧ x.k ≤ 6 := by
  have h1 := (VD.form_own h).1
  rw [own_eq] at h1
  unfold ownB at h1
  rw [Bool.and_eq_true] at h1
  have h2 := h1.2
  by_cases a : x.k = 0 ∨ x.k = 1 ∨ x.k = 5
  · omega
  rw [if_neg a] at h2
  by_cases b : x.k = 2
  · omega
  rw [if_neg b] at h2
  by_cases c : x.k = 3
  · omega
  rw [if_neg c] at h2
  by_cases d : x.k = 4
  · omega
  rw [if_neg d] at h2
  by_cases e : x.k = 6
  · omega
  rw [if_neg e] at h2
  cases h2

set_option maxHeartbeats 16000000 in
theorem requal_any : ∀ (N : Nat) (v u : VD), v.parts ≤ N → ∀ (cv cu : List Value) (w : World), v.at w cv → u.at w cu → v.wf 1048576 → u.wf 1048576 → v.form = true → u.form = true → Calls Tryz.prog 33 #[.agg cv.toArray, .agg cu.toArray] w fun e w' => e = .returned (truV (VD.eq v u)) ∧ RowKit.Below w.heap.size w w'
  | 0, v, _, hN, _, _, _, _, _, _, _, _, _ => by have := v.parts_pos; omega
  | N + 1, v, u, hN, cv, cu, w, hv, hu, hvw, huw, hvf, huf => by
    by_cases hk : v.k = 0 ∨ u.k = 0 ∨ v.k ≠ u.k ∨ (v.k ≠ 5 ∧ v.k ≠ 6) ∨ v.l.length ≠ u.l.length
    · exact requal_flat v u cv cu w hv hu hvw huw (form_kind hvf) hk
    have IH := Lib.hid (fun v u h => requal_any N v u h)
    have HM := Lib.hid (Mem.start w)
    have HT := Lib.hid (fun b W => rTruth_any b W)
    have HU := Lib.hid hu
    have HUw := Lib.hid huw
    obtain ⟨r, hr⟩ : ∃ r, VD.eq v u = r := ⟨_, rfl⟩
    rw [hr]
    have hvf2 := (VD.form_own hvf).2
    have huf2 := (VD.form_own huf).2
    have hvn := ctx_names hvf
    have hun := ctx_names huf
    obtain ⟨k1, y1, ⟨ng1, hi1, lo1, sc1⟩, t1, d1, l1, ns1⟩ := v
    obtain ⟨k2, y2, ⟨ng2, hi2, lo2, sc2⟩, t2, d2, l2, ns2⟩ := u
    simp only [VD.at, vcs] at hv hu
    simp only [VD.wf] at hvw huw
    obtain ⟨lp1, np1, lc1, nc1, ls1, rfl, -, hS1, hL1, hA1⟩ := hv
    obtain ⟨lp2, np2, lc2, nc2, ls2, rfl, -, hS2, hL2, hA2⟩ := hu
    obtain ⟨-, -, -, hll1, hnl1, -, hwl1⟩ := hvw
    obtain ⟨-, -, -, hll2, hnl2, -, hwl2⟩ := huw
    simp only [VD.parts] at hN
    simp only [VD.k, VD.l, VD.ns] at hk hvf2 huf2 hvn hun
    have hk0 : k1 ≠ 0 := fun h => hk (Or.inl h)
    have hk2 : k2 ≠ 0 := fun h => hk (Or.inr (Or.inl h))
    have hke : k1 = k2 := Decidable.byContradiction fun h => hk (Or.inr (Or.inr (Or.inl h)))
    subst hke
    have hk56 : ¬ (k1 ≠ 5 ∧ k1 ≠ 6) := fun h => hk (Or.inr (Or.inr (Or.inr (Or.inl h))))
    have hlen : l1.length = l2.length := Decidable.byContradiction fun h => hk (Or.inr (Or.inr (Or.inr (Or.inr h))))
    have hr2 : VD.eqL (decide (k1 = 6)) ns1 (VD.mk k1 y2 ⟨ng2, hi2, lo2, sc2⟩ t2 d2 l2 ns2) l1 0 (some true) = r :=
      (eq_loop (v := VD.mk k1 y1 ⟨ng1, hi1, lo1, sc1⟩ t1 d1 l1 ns1) (u := VD.mk k1 y2 ⟨ng2, hi2, lo2, sc2⟩ t2 d2 l2 ns2) hk0 hk0 rfl hk56 hlen).symm.trans hr
    have HE0 := Lib.hid hr2
    have HS1 := Lib.hid hS1
    have HS2 := Lib.hid hS2
    have HL1 := Lib.hid hL1
    have HL2 := Lib.hid hL2
    have HA1 := Lib.hid hA1
    have HA2 := Lib.hid hA2
    have HW1 := Lib.hid hwl1
    have HW2 := Lib.hid hwl2
    have HF1 := Lib.hid hvf2
    have HF2 := Lib.hid huf2
    have HN1 := Lib.hid hvn
    have HN2 := Lib.hid hun
    have HLen := Lib.hid hlen
    have HLl := Lib.hid hll1
    have h5 : k1 = 5 ∨ k1 = 6 := by omega
    have q7 : ((l1.length : Int) != l2.length) = false := by simp [hlen]
    clear hr hr2 hk hk0 hk2 hk56 hlen hS1 hS2 hL1 hL2 hA1 hA2 hwl1 hwl2 hvf2 huf2 hvn hun hvf huf
    rcases h5 with rfl | rfl
    · go_enter Tryz.func33, Tryz.ntmps33
      go_wp2_with (first | ((with_reducible refine skip_op ?_ ?_); exact rfl) | refine mP ?_ | (refine mS ?_; clear HM; intro W1 HM) | (refine mL ?_; clear HM; intro g1 W1 HM) | ((with_reducible refine iat 2 ?_); refine mB ?_; clear HM; intro g2 W1 HM) | ((with_reducible refine iat 3 ?_); refine mB ?_; clear HM; intro g3 W1 HM) | (refine hal (dst := some 4) HM rfl ?_; clear HM; intro g4 W1 HM))
      have HM1 := Lib.hid (HM.out.row0 30 10)
      clear HM
      have HM := HM1
      clear HM1
      go_loopw [6, 5] (fun iv ov wr => ∃ (i : Nat) (ts : List (Option Bool)) (rp : Option Addr) (rc : Nat), iv = .int .i64 i ∧ ov = .slice rp i rc ∧ i ≤ l1.length ∧ Hid (ts.length = i) ∧ Hid (VD.eqL false ns1 (VD.mk 5 y2 ⟨ng2, hi2, lo2, sc2⟩ t2 d2 l2 ns2) (l1.drop i) i (allT ts) = r) ∧ Hid (Mem w wr [.row rp rc 30 10 i (ts.flatMap tvc), .box g4 30 (tvl none), .box g3 30 [.int .i64 5, .bool y2, .bool ng2, .int .u64 hi2, .int .u64 lo2, .int .i64 sc2, .string t2, .int .i64 d2, .slice lp2 l2.length lc2, .slice np2 ns2.length nc2], .box g2 30 [.int .i64 5, .bool y1, .bool ng1, .int .u64 hi1, .int .u64 lo1, .int .i64 sc1, .string t1, .int .i64 d1, .slice lp1 l1.length lc1, .slice np1 ns1.length nc1]])) (fun iv _ _ => l1.length - (intOf iv).toNat)
      case atStart => exact ⟨0, [], none, 0, rfl, rfl, by omega, Lib.hid rfl, Lib.hid (by rw [List.drop_zero]; exact HE0.out), Lib.hid (HM.out.sub (.refl _))⟩
      case round =>
        clear HM
        obtain ⟨i, ts, rp, rc, rfl, rfl, hi0, HTl, HI, HM⟩ := hrel
        by_cases hlt : i < l1.length
        · obtain ⟨x, hx⟩ : ∃ x, l1[i]? = some x := ⟨_, List.getElem?_eq_getElem hlt⟩
          have HTk := Lib.hid (show (ts.flatMap tvc).take (i * 10) = ts.flatMap tvc by rw [List.take_of_length_le]; rw [flat_len tvc 10 tvc_len, HTl.out]; omega)
          obtain ⟨b, cx, rfl, hxa, hxc⟩ := vrow HL1.out HA1.out hx
          have HX := Lib.hid hxa
          have HC := Lib.hid hxc
          have q1 : decide ((i : Int) < l1.length) = true := decide_eq_true (by omega)
          have hlt2 : i < l2.length := by have := HLen.out; omega
          obtain ⟨z, hz⟩ : ∃ z, l2[i]? = some z := ⟨_, List.getElem?_eq_getElem hlt2⟩
          obtain ⟨b', cz, rfl, hza, hzc⟩ := vrow HL2.out HA2.out hz
          have hpx := VD.partsL_get hx
          have HZ := Lib.hid hza
          have HC' := Lib.hid hzc
          obtain ⟨e, he⟩ : ∃ e, VD.eq x z = e := ⟨_, rfl⟩
          have HCl := Lib.hid (show ∀ W, RowKit.Below w.heap.size w W → Calls Tryz.prog 33 #[.agg cx.toArray, .agg cz.toArray] W fun e' w' => e' = .returned (truV e) ∧ RowKit.Below W.heap.size W w' from fun W hb => by
            rw [← he]
            exact IH.out x z (by omega) _ _ W (VD.at.below hb HX.out) (VD.at.below hb HZ.out) (VD.wfL_get HW1.out hx) (VD.wfL_get HW2.out hz) (VD.formL_get HF1.out hx) (VD.formL_get HF2.out hz))
          have HNx := Lib.hid (eqL_next hx (show (place false ns1 (VD.mk 5 y2 ⟨ng2, hi2, lo2, sc2⟩ t2 d2 l2 ns2).ns i).bind (fun j => (VD.mk 5 y2 ⟨ng2, hi2, lo2, sc2⟩ t2 d2 l2 ns2).l[j]?) = some z from hz) he HI.out)
          obtain ⟨k3, y3, ⟨ng3, hi3, lo3, sc3⟩, t3, d3, l3, ns3⟩ := x
          obtain ⟨k4, y4, ⟨ng4, hi4, lo4, sc4⟩, t4, d4, l4, ns4⟩ := z
          simp only [VD.at, vcs] at hxa hza
          obtain ⟨lp3, np3, lc3, nc3, ls3, rfl, -⟩ := hxa
          obtain ⟨lp4, np4, lc4, nc4, ls4, rfl, -⟩ := hza
          clear hx hz hxc hzc hpx he HI
          go_wp2_with (first | ((with_reducible refine skip_op ?_ ?_); exact rfl) | refine mP ?_ | (refine mS ?_; clear HM; intro W1 HM) | (refine mL ?_; clear HM; intro g1 W1 HM) | ((with_reducible refine iat 2 ?_); refine mB ?_; clear HM; intro g2 W1 HM) | ((with_reducible refine iat 3 ?_); refine mB ?_; clear HM; intro g3 W1 HM) | (refine hal (dst := some 4) HM rfl ?_; clear HM; intro g4 W1 HM))
          refine wp_region_steps2 [(true, 0), (true, 1), (true, 2), (true, 3), (true, 4), (true, 5), (true, 6), (true, 7), (true, 8), (true, 9), (true, 10), (false, 11), (false, 12), (false, 13), (true, 14)] (by kernel_rfl) (by kernel_rfl) rfl (by kernel_rfl) (fun _ _ _ _ _ h => h) HM.out _ (.cons _ (.cons_cons _ (.cons_cons _ (.cons_cons _ .slnil)))) ?_
          intro hNE W1 HM1; replace HM := Lib.hid HM1; clear HM1
          have HS0 := Lib.hid (HM.out.sub (.cons _ (.cons_cons _ (.cons_cons _ (.cons_cons _ .slnil)))))
          simp only [wpSteps, List.getElem?_cons_succ, List.getElem?_cons_zero]
          (repeat (first | ((with_reducible refine wpQuiet_nil ?_); (try dsimp only)) | refine mQ ?_ | ((with_reducible refine qat 68 ?_); (refine qixa rfl rfl rfl hlt ?_)) | ((with_reducible refine qat 69 ?_); (refine qdxW HC.out rfl rfl ?_)) | ((with_reducible refine qat 73 ?_); (refine qixa rfl rfl rfl hlt2 ?_)) | ((with_reducible refine qat 74 ?_); (refine qdxW HC'.out rfl rfl ?_)) | go_big_quiet_step (fail) | quiet_step (fail)))
          go_wp2_with (first | (go_at_call 33; (with_reducible refine cB HM (HCl.out _ HM.out.below) ?_); clear HM; intro W1 HM))
          refine ⟨⟨⟨_, HM.out.sub (by repeat (first | exact List.nil_sublist _ | with_reducible refine List.Sublist.cons_cons _ ?_ | refine List.Sublist.cons _ ?_))⟩, rfl⟩, ?_⟩
          (try dsimp only)
          go_wp2_with (first | (refine mL ?_; clear HM; intro g1 W1 HM))
          refine ⟨⟨⟨_, HM.out.sub (by repeat (first | exact List.nil_sublist _ | with_reducible refine List.Sublist.cons_cons _ ?_ | refine List.Sublist.cons _ ?_))⟩, rfl⟩, ?_⟩
          (try dsimp only)
          go_wp2_with (first | (refine apb rfl HM.out 1 0 rfl rfl rfl rfl rfl rfl (by omega) (by omega) (by omega) ?_; intro p1 cap1 W1 HM1; replace HM := Lib.hid HM1; clear HM1; simp only [List.set] at HM))
          refine ⟨⟨⟨_, HM.out.sub (by repeat (first | exact List.nil_sublist _ | with_reducible refine List.Sublist.cons_cons _ ?_ | refine List.Sublist.cons _ ?_))⟩, rfl⟩, ?_⟩
          (try dsimp only)
          (repeat (first | ((with_reducible refine wpQuiet_nil ?_); (try dsimp only)) | refine mQ ?_ | go_big_quiet_step (fail) | quiet_step (fail)))
          clear HS0 hNE
          go_wp2_with fail
          go_roundw
          case rel => exact ⟨i + 1, ts ++ [e], _, _, by go_num, rfl, by omega, Lib.hid (by rw [List.length_append, HTl.out]; rfl), Lib.hid (by rw [allT_snoc]; exact HNx.out), Lib.hid (tvs_push HTk.out (HM.out.sub (.cons _ (.refl _))))⟩
          case measure => simp [intOf]; omega
        · obtain rfl : i = l1.length := by omega
          have q1 : decide ((l1.length : Int) < l1.length) = false := by simp
          have HE := Lib.hid (show allT ts = r by have := HI.out; rw [List.drop_length] at this; simpa only [VD.eqL] using this)
          have HAll := Lib.hid (show ∀ W, Sl W rp (ts.flatMap tvc) → Calls Tryz.prog 59 #[.slice rp l1.length rc] W fun e w' => e = .returned (truV r) ∧ RowKit.Below W.heap.size W w' from fun W h => by
            have h := rall_tvs rp rc ts W h (by rw [HTl.out]; exact HLl.out)
            rw [HE.out, HTl.out] at h
            exact h)
          go_wp2_with (first | ((with_reducible refine skip_op ?_ ?_); exact rfl) | refine mP ?_ | (refine mS ?_; clear HM; intro W1 HM) | (refine mL ?_; clear HM; intro g1 W1 HM) | ((with_reducible refine iat 2 ?_); refine mB ?_; clear HM; intro g2 W1 HM) | ((with_reducible refine iat 3 ?_); refine mB ?_; clear HM; intro g3 W1 HM) | (refine hal (dst := some 4) HM rfl ?_; clear HM; intro g4 W1 HM) | (go_at_call 59; (with_reducible refine cB HM (HAll.out _ (row_sl (HM.out.get (k := 0) rfl))) ?_); clear HM; intro W1 HM))
          exact bodyPost_ret (res_box rfl HM.out 1 rfl rfl rfl) rfl ⟨rfl, HM.out.below⟩
    · go_enter Tryz.func33, Tryz.ntmps33
      go_wp2_with (first | ((with_reducible refine skip_op ?_ ?_); exact rfl) | refine mP ?_ | (refine mS ?_; clear HM; intro W1 HM) | (refine mL ?_; clear HM; intro g1 W1 HM) | ((with_reducible refine iat 2 ?_); refine mB ?_; clear HM; intro g2 W1 HM) | ((with_reducible refine iat 3 ?_); refine mB ?_; clear HM; intro g3 W1 HM) | (refine hal (dst := some 4) HM rfl ?_; clear HM; intro g4 W1 HM))
      have HM1 := Lib.hid (HM.out.row0 30 10)
      clear HM
      have HM := HM1
      clear HM1
      go_loopw [6, 5] (fun iv ov wr => ∃ (i : Nat) (ts : List (Option Bool)) (rp : Option Addr) (rc : Nat), iv = .int .i64 i ∧ ov = .slice rp i rc ∧ i ≤ l1.length ∧ Hid (ts.length = i) ∧ Hid (VD.eqL true ns1 (VD.mk 6 y2 ⟨ng2, hi2, lo2, sc2⟩ t2 d2 l2 ns2) (l1.drop i) i (allT ts) = r) ∧ Hid (Mem w wr [.row rp rc 30 10 i (ts.flatMap tvc), .box g4 30 (tvl none), .box g3 30 [.int .i64 6, .bool y2, .bool ng2, .int .u64 hi2, .int .u64 lo2, .int .i64 sc2, .string t2, .int .i64 d2, .slice lp2 l2.length lc2, .slice np2 ns2.length nc2], .box g2 30 [.int .i64 6, .bool y1, .bool ng1, .int .u64 hi1, .int .u64 lo1, .int .i64 sc1, .string t1, .int .i64 d1, .slice lp1 l1.length lc1, .slice np1 ns1.length nc1]])) (fun iv _ _ => l1.length - (intOf iv).toNat)
      case atStart => exact ⟨0, [], none, 0, rfl, rfl, by omega, Lib.hid rfl, Lib.hid (by rw [List.drop_zero]; exact HE0.out), Lib.hid (HM.out.sub (.refl _))⟩
      case round =>
        clear HM
        obtain ⟨i, ts, rp, rc, rfl, rfl, hi0, HTl, HI, HM⟩ := hrel
        by_cases hlt : i < l1.length
        · obtain ⟨x, hx⟩ : ∃ x, l1[i]? = some x := ⟨_, List.getElem?_eq_getElem hlt⟩
          have HTk := Lib.hid (show (ts.flatMap tvc).take (i * 10) = ts.flatMap tvc by rw [List.take_of_length_le]; rw [flat_len tvc 10 tvc_len, HTl.out]; omega)
          obtain ⟨b, cx, rfl, hxa, hxc⟩ := vrow HL1.out HA1.out hx
          have HX := Lib.hid hxa
          have HC := Lib.hid hxc
          have q1 : decide ((i : Int) < l1.length) = true := decide_eq_true (by omega)
          have hln : i < ns1.length := by have := HN1.out trivial; omega
          obtain ⟨s, hs⟩ : ∃ s, ns1[i]? = some s := ⟨_, List.getElem?_eq_getElem hln⟩
          obtain ⟨bn, rfl, hbn⟩ := HS1.out.some_at strL_len (by decide) hln
          have HEn := Lib.hid (hbn.elem strL 1 strL_len hs)
          have HFi := Lib.hid (show ∀ W, RowKit.Below w.heap.size w W → Calls Tryz.prog 58 #[.agg #[.int .i64 6, .bool y2, .bool ng2, .int .u64 hi2, .int .u64 lo2, .int .i64 sc2, .string t2, .int .i64 d2, .slice lp2 l2.length lc2, .slice np2 ns2.length nc2], .string s] W fun e w' => e = .returned (.int .i64 (idxI ns2 s)) ∧ RowKit.Below W.heap.size W w' from fun W hb => rFind_any _ _ s W (VD.at.below hb HU.out) HUw.out)
          cases hf : findS ns2 s with
          | none =>
            have HE := Lib.hid (eqL_stop hx (show (place true ns1 (VD.mk 6 y2 ⟨ng2, hi2, lo2, sc2⟩ t2 d2 l2 ns2).ns i).bind (fun j => (VD.mk 6 y2 ⟨ng2, hi2, lo2, sc2⟩ t2 d2 l2 ns2).l[j]?) = none from by
              simp only [place, if_true, hs]
              show (findS ns2 s).bind _ = none
              rw [hf]; rfl) HI.out)
            rw [idx_none hf] at HFi
            clear hx hs hxc hbn hf HI
            go_wp2_with (first | ((with_reducible refine skip_op ?_ ?_); exact rfl) | refine mP ?_ | (refine mS ?_; clear HM; intro W1 HM) | (refine mL ?_; clear HM; intro g1 W1 HM) | ((with_reducible refine iat 2 ?_); refine mB ?_; clear HM; intro g2 W1 HM) | ((with_reducible refine iat 3 ?_); refine mB ?_; clear HM; intro g3 W1 HM) | (refine hal (dst := some 4) HM rfl ?_; clear HM; intro g4 W1 HM))
            refine wp_region_steps2 [(true, 0), (true, 1), (true, 2), (true, 3), (true, 4), (true, 5), (false, 6), (true, 7)] (by kernel_rfl) (by kernel_rfl) rfl (by kernel_rfl) (fun _ _ _ _ _ h => h) HM.out _ (.cons _ (.cons_cons _ (.cons_cons _ (.cons_cons _ .slnil)))) ?_
            intro hNE W1 HM1; replace HM := Lib.hid HM1; clear HM1
            have HS0 := Lib.hid (HM.out.sub (.cons _ (.cons_cons _ (.cons_cons _ (.cons_cons _ .slnil)))))
            simp only [wpSteps, List.getElem?_cons_succ, List.getElem?_cons_zero]
            (repeat (first | ((with_reducible refine wpQuiet_nil ?_); (try dsimp only)) | refine mQ ?_ | ((with_reducible refine qat 58 ?_); (refine qixa rfl rfl rfl hln ?_)) | ((with_reducible refine qat 59 ?_); (refine qdx0 HEn.out rfl rfl ?_)) | go_big_quiet_step (fail) | quiet_step (fail)))
            go_wp2_with (first | (go_at_call 58; (with_reducible refine cB HM (HFi.out _ HM.out.below) ?_); clear HM; intro W1 HM))
            refine ⟨⟨⟨_, HM.out.sub (by repeat (first | exact List.nil_sublist _ | with_reducible refine List.Sublist.cons_cons _ ?_ | refine List.Sublist.cons _ ?_))⟩, rfl⟩, ?_⟩
            (try dsimp only)
            (repeat (first | ((with_reducible refine wpQuiet_nil ?_); (try dsimp only)) | refine mQ ?_ | go_big_quiet_step (fail) | quiet_step (fail)))
            clear HS0 hNE
            go_wp2_with (first | ((with_reducible refine skip_op ?_ ?_); exact rfl) | refine mP ?_ | (refine mS ?_; clear HM; intro W1 HM) | (refine mL ?_; clear HM; intro g1 W1 HM) | ((with_reducible refine iat 2 ?_); refine mB ?_; clear HM; intro g2 W1 HM) | ((with_reducible refine iat 3 ?_); refine mB ?_; clear HM; intro g3 W1 HM) | (refine hal (dst := some 4) HM rfl ?_; clear HM; intro g4 W1 HM) | (go_at_call 57; (with_reducible refine cB HM (HT.out _ _) ?_); clear HM; intro W1 HM))
            exact bodyPost_ret (res_box rfl HM.out 1 rfl rfl rfl) rfl ⟨by rw [HE.out]; try rfl, HM.out.below⟩
          | some j =>
            obtain ⟨t, ht, -⟩ := findS_some hf
            have hj2 : j < l2.length := by have h1 := HN2.out trivial; have h2 := (List.getElem?_eq_some_iff.1 ht).1; omega
            obtain ⟨z, hz⟩ : ∃ z, l2[j]? = some z := ⟨_, List.getElem?_eq_getElem hj2⟩
            obtain ⟨b', cz, rfl, hza, hzc⟩ := vrow HL2.out HA2.out hz
            have hpx := VD.partsL_get hx
            have HZ := Lib.hid hza
            have HC' := Lib.hid hzc
            obtain ⟨e, he⟩ : ∃ e, VD.eq x z = e := ⟨_, rfl⟩
            have HCl := Lib.hid (show ∀ W, RowKit.Below w.heap.size w W → Calls Tryz.prog 33 #[.agg cx.toArray, .agg cz.toArray] W fun e' w' => e' = .returned (truV e) ∧ RowKit.Below W.heap.size W w' from fun W hb => by
              rw [← he]
              exact IH.out x z (by omega) _ _ W (VD.at.below hb HX.out) (VD.at.below hb HZ.out) (VD.wfL_get HW1.out hx) (VD.wfL_get HW2.out hz) (VD.formL_get HF1.out hx) (VD.formL_get HF2.out hz))
            have HNx := Lib.hid (eqL_next hx (show (place true ns1 (VD.mk 6 y2 ⟨ng2, hi2, lo2, sc2⟩ t2 d2 l2 ns2).ns i).bind (fun j => (VD.mk 6 y2 ⟨ng2, hi2, lo2, sc2⟩ t2 d2 l2 ns2).l[j]?) = some z from by
              simp only [place, if_true, hs]
              show (findS ns2 s).bind _ = some z
              rw [hf]; exact hz) he HI.out)
            rw [idx_some hf] at HFi
            obtain ⟨k3, y3, ⟨ng3, hi3, lo3, sc3⟩, t3, d3, l3, ns3⟩ := x
            obtain ⟨k4, y4, ⟨ng4, hi4, lo4, sc4⟩, t4, d4, l4, ns4⟩ := z
            simp only [VD.at, vcs] at hxa hza
            obtain ⟨lp3, np3, lc3, nc3, ls3, rfl, -⟩ := hxa
            obtain ⟨lp4, np4, lc4, nc4, ls4, rfl, -⟩ := hza
            have q8 : decide ((j : Int) < 0) = false := decide_eq_false (by omega)
            clear hx hz hs hxc hzc hbn hpx he hf ht HI
            go_wp2_with (first | ((with_reducible refine skip_op ?_ ?_); exact rfl) | refine mP ?_ | (refine mS ?_; clear HM; intro W1 HM) | (refine mL ?_; clear HM; intro g1 W1 HM) | ((with_reducible refine iat 2 ?_); refine mB ?_; clear HM; intro g2 W1 HM) | ((with_reducible refine iat 3 ?_); refine mB ?_; clear HM; intro g3 W1 HM) | (refine hal (dst := some 4) HM rfl ?_; clear HM; intro g4 W1 HM))
            refine wp_region_steps2 [(true, 0), (true, 1), (true, 2), (true, 3), (true, 4), (true, 5), (false, 6), (true, 7)] (by kernel_rfl) (by kernel_rfl) rfl (by kernel_rfl) (fun _ _ _ _ _ h => h) HM.out _ (.cons _ (.cons_cons _ (.cons_cons _ (.cons_cons _ .slnil)))) ?_
            intro hNE W1 HM1; replace HM := Lib.hid HM1; clear HM1
            have HS0 := Lib.hid (HM.out.sub (.cons _ (.cons_cons _ (.cons_cons _ (.cons_cons _ .slnil)))))
            simp only [wpSteps, List.getElem?_cons_succ, List.getElem?_cons_zero]
            (repeat (first | ((with_reducible refine wpQuiet_nil ?_); (try dsimp only)) | refine mQ ?_ | ((with_reducible refine qat 58 ?_); (refine qixa rfl rfl rfl hln ?_)) | ((with_reducible refine qat 59 ?_); (refine qdx0 HEn.out rfl rfl ?_)) | go_big_quiet_step (fail) | quiet_step (fail)))
            go_wp2_with (first | (go_at_call 58; (with_reducible refine cB HM (HFi.out _ HM.out.below) ?_); clear HM; intro W1 HM))
            refine ⟨⟨⟨_, HM.out.sub (by repeat (first | exact List.nil_sublist _ | with_reducible refine List.Sublist.cons_cons _ ?_ | refine List.Sublist.cons _ ?_))⟩, rfl⟩, ?_⟩
            (try dsimp only)
            (repeat (first | ((with_reducible refine wpQuiet_nil ?_); (try dsimp only)) | refine mQ ?_ | go_big_quiet_step (fail) | quiet_step (fail)))
            clear HS0 hNE
            go_wp2_with (first | ((with_reducible refine skip_op ?_ ?_); exact rfl) | refine mP ?_ | (refine mS ?_; clear HM; intro W1 HM) | (refine mL ?_; clear HM; intro g1 W1 HM) | ((with_reducible refine iat 2 ?_); refine mB ?_; clear HM; intro g2 W1 HM) | ((with_reducible refine iat 3 ?_); refine mB ?_; clear HM; intro g3 W1 HM) | (refine hal (dst := some 4) HM rfl ?_; clear HM; intro g4 W1 HM))
            refine wp_region_steps2 [(true, 0), (true, 1), (true, 2), (true, 3), (true, 4), (true, 5), (true, 6), (true, 7), (true, 8), (true, 9), (true, 10), (false, 11), (false, 12), (false, 13), (true, 14)] (by kernel_rfl) (by kernel_rfl) rfl (by kernel_rfl) (fun _ _ _ _ _ h => h) HM.out _ (.cons _ (.cons_cons _ (.cons_cons _ (.cons_cons _ .slnil)))) ?_
            intro hNE W1 HM1; replace HM := Lib.hid HM1; clear HM1
            have HS0 := Lib.hid (HM.out.sub (.cons _ (.cons_cons _ (.cons_cons _ (.cons_cons _ .slnil)))))
            simp only [wpSteps, List.getElem?_cons_succ, List.getElem?_cons_zero]
            (repeat (first | ((with_reducible refine wpQuiet_nil ?_); (try dsimp only)) | refine mQ ?_ | ((with_reducible refine qat 68 ?_); (refine qixa rfl rfl rfl hlt ?_)) | ((with_reducible refine qat 69 ?_); (refine qdxW HC.out rfl rfl ?_)) | ((with_reducible refine qat 73 ?_); (refine qixa rfl rfl rfl hj2 ?_)) | ((with_reducible refine qat 74 ?_); (refine qdxW HC'.out rfl rfl ?_)) | go_big_quiet_step (fail) | quiet_step (fail)))
            go_wp2_with (first | (go_at_call 33; (with_reducible refine cB HM (HCl.out _ HM.out.below) ?_); clear HM; intro W1 HM))
            refine ⟨⟨⟨_, HM.out.sub (by repeat (first | exact List.nil_sublist _ | with_reducible refine List.Sublist.cons_cons _ ?_ | refine List.Sublist.cons _ ?_))⟩, rfl⟩, ?_⟩
            (try dsimp only)
            go_wp2_with (first | (refine mL ?_; clear HM; intro g1 W1 HM))
            refine ⟨⟨⟨_, HM.out.sub (by repeat (first | exact List.nil_sublist _ | with_reducible refine List.Sublist.cons_cons _ ?_ | refine List.Sublist.cons _ ?_))⟩, rfl⟩, ?_⟩
            (try dsimp only)
            go_wp2_with (first | (refine apb rfl HM.out 1 0 rfl rfl rfl rfl rfl rfl (by omega) (by omega) (by omega) ?_; intro p1 cap1 W1 HM1; replace HM := Lib.hid HM1; clear HM1; simp only [List.set] at HM))
            refine ⟨⟨⟨_, HM.out.sub (by repeat (first | exact List.nil_sublist _ | with_reducible refine List.Sublist.cons_cons _ ?_ | refine List.Sublist.cons _ ?_))⟩, rfl⟩, ?_⟩
            (try dsimp only)
            (repeat (first | ((with_reducible refine wpQuiet_nil ?_); (try dsimp only)) | refine mQ ?_ | go_big_quiet_step (fail) | quiet_step (fail)))
            clear HS0 hNE
            go_wp2_with fail
            go_roundw
            case rel => exact ⟨i + 1, ts ++ [e], _, _, by go_num, rfl, by omega, Lib.hid (by rw [List.length_append, HTl.out]; rfl), Lib.hid (by rw [allT_snoc]; exact HNx.out), Lib.hid (tvs_push HTk.out (HM.out.sub (.cons _ (.refl _))))⟩
            case measure => simp [intOf]; omega
        · obtain rfl : i = l1.length := by omega
          have q1 : decide ((l1.length : Int) < l1.length) = false := by simp
          have HE := Lib.hid (show allT ts = r by have := HI.out; rw [List.drop_length] at this; simpa only [VD.eqL] using this)
          have HAll := Lib.hid (show ∀ W, Sl W rp (ts.flatMap tvc) → Calls Tryz.prog 59 #[.slice rp l1.length rc] W fun e w' => e = .returned (truV r) ∧ RowKit.Below W.heap.size W w' from fun W h => by
            have h := rall_tvs rp rc ts W h (by rw [HTl.out]; exact HLl.out)
            rw [HE.out, HTl.out] at h
            exact h)
          go_wp2_with (first | ((with_reducible refine skip_op ?_ ?_); exact rfl) | refine mP ?_ | (refine mS ?_; clear HM; intro W1 HM) | (refine mL ?_; clear HM; intro g1 W1 HM) | ((with_reducible refine iat 2 ?_); refine mB ?_; clear HM; intro g2 W1 HM) | ((with_reducible refine iat 3 ?_); refine mB ?_; clear HM; intro g3 W1 HM) | (refine hal (dst := some 4) HM rfl ?_; clear HM; intro g4 W1 HM) | (go_at_call 59; (with_reducible refine cB HM (HAll.out _ (row_sl (HM.out.get (k := 0) rfl))) ?_); clear HM; intro W1 HM))
          exact bodyPost_ret (res_box rfl HM.out 1 rfl rfl rfl) rfl ⟨rfl, HM.out.below⟩
end Go.Proofs.YtgobdcmoelcckaaGreatDoor
