/- How deep a value is and whether it is in form: the program. (short) -/
import Derived.Test.YtgobdcmoelcckaaGreatDoorValOwn
import Derived.Test.YtgobdcmoelcckaaGreatDoorValB
import Derived.Test.YtgobdcmoelcckaaGreatDoorValC
import Derived.Test.YtgobdcmoelcckaaGreatDoorValD
import Derived.Deep.CutBlock
import Derived.Deep.DeepCutAuto
namespace Go.Proofs.YtgobdcmoelcckaaGreatDoor
open Go.RowKit
set_option linter.unusedVariables false
set_option linter.unusedSimpArgs false
set_option maxRecDepth 100000

set_option maxHeartbeats 16000000 in
theorem vshape_any : ∀ (N : Nat) (v : VD), v.parts ≤ N → ∀ (cs : List Value) (w : World), v.at w cs → v.wf 1048576 → v.parts ≤ 1000 → U8 w → Calls Tryz.prog 42 #[.agg cs.toArray] w fun e w' => e = .returned (.tuple #[.int .i64 (v.depth : Nat), .bool v.form]) ∧ RowKit.Below w.heap.size w w'
  | 0, v, hN, _, _, _, _, _, _ => by have := v.parts_pos; omega
  | N + 1, .mk k y ⟨ng, hi, lo, sc⟩ t d l ns, hN, cs, w, hv, hwf, hm1, hu => by
    have IH := Lib.hid (fun v h => vshape_any N v h)
    simp only [VD.at, vcs] at hv
    simp only [VD.wf] at hwf
    obtain ⟨lp, np, lc, nc, ls, rfl, hcp, hS, hL, ha⟩ := hv
    obtain ⟨hh, hlw, htz, hll, hnl, hns, hwl⟩ := hwf
    simp only [VD.parts] at hN hm1
    have hform : (VD.mk k y ⟨ng, hi, lo, sc⟩ t d l ns).form = ((VD.mk k y ⟨ng, hi, lo, sc⟩ t d l ns).own && VD.formL l) := by simp only [VD.form]
    rw [hform, own_eq, bareB_eq]
    simp only [VD.depth, VD.k, VD.num, VD.text, VD.day, VD.l, VD.ns]
    have HL := Lib.hid hL
    have HS := Lib.hid hS
    have HAt := Lib.hid ha
    have HW := Lib.hid hwl
    have HU := Lib.hid hu
    have HW2 := Lib.hid (dcd_w2 (ng := ng) (sc := sc) hh hlw)
    have HM := Lib.hid (Mem.start w)
    have hle := VD.depthL_le l
    obtain ⟨r, hr⟩ : ∃ r, VD.depthL l = r := ⟨_, rfl⟩
    rw [hr] at hle ⊢
    have HR := Lib.hid hr
    obtain ⟨a, hA⟩ : ∃ a, bareB k y ng hi lo sc t d l.length ns.length = a := ⟨_, rfl⟩
    have HB := Lib.hid (fun W => hA ▸ vbare_any k y ng hi lo sc t d lp l.length lc np ns.length nc W)
    rw [hA]
    have hoc := own_cases a k ⟨ng, hi, lo, sc⟩ t d l.length ns
    have HN := Lib.hid (fun W (hb : RowKit.Below w.heap.size w W) => vnames_any np nc ns W (HS.out.below' hb) hnl hcp.2)
    have HV := Lib.hid (fun W (hb : RowKit.Below w.heap.size w W) => valid_any t W (by omega) (U8.below HU.out hb))
    have HD := Lib.hid (fun W => form_any ng _ hi lo sc W HW2.out)
    obtain ⟨fd, hfd⟩ : ∃ b, dcmB ng (DcD.mk ng hi lo sc).n sc = b := ⟨_, rfl⟩
    obtain ⟨fv, hfv⟩ : ∃ b, textB t = b := ⟨_, rfl⟩
    obtain ⟨fn, hfn⟩ : ∃ b, namesB ns = b := ⟨_, rfl⟩
    rw [hfv, hfn] at hoc
    rw [show dcmB (DcD.mk ng hi lo sc).neg (DcD.mk ng hi lo sc).n (DcD.mk ng hi lo sc).sc = fd from hfd] at hoc
    rw [hfd] at HD
    rw [hfv] at HV
    rw [hfn] at HN
    obtain ⟨o, hO⟩ : ∃ o, ownB a k ⟨ng, hi, lo, sc⟩ t d l.length ns = o := ⟨_, rfl⟩
    rw [hO] at hoc ⊢
    obtain ⟨f, hF⟩ : ∃ f, (o && VD.formL l) = f := ⟨_, rfl⟩
    rw [hF]
    have HF := Lib.hid hF
    have hcp1 := hcp.1
    clear hr hS hL ha hwl hu hform hA hO hF hh hlw hns hcp hfd hfv hfn HW2
    go_enter Tryz.func42, Tryz.ntmps42
    go_upto_block 0 with (first | ((with_reducible refine skip_op ?_ ?_); exact rfl) | refine mP ?_ | (refine mS ?_; clear HM; intro W1 HM) | ((with_reducible refine iat 1 ?_); refine mB ?_; clear HM; intro g1 W1 HM) | (refine hal (dst := some 7) HM rfl ?_; clear HM; intro g7 W1 HM) | (go_at_call 65; (with_reducible refine cB HM (HB.out _) ?_); clear HM; intro W1 HM) | (go_at_call 66; (with_reducible refine cB HM (HD.out _) ?_); clear HM; intro W1 HM) | (go_at_call 67; (with_reducible refine cB HM (HV.out _ HM.out.below) ?_); clear HM; intro W1 HM) | (go_at_call 68; (with_reducible refine cB HM (HN.out _ HM.out.below) ?_); clear HM; intro W1 HM))
    go_cut [4] (fun bv wc => bv = .bool o ∧ Hid (Mem w wc [.box g1 30 [.int .i64 k, .bool y, .bool ng, .int .u64 hi, .int .u64 lo, .int .i64 sc, .string t, .int .i64 d, .slice lp l.length lc, .slice np ns.length nc]]))
    case first =>
      cases hoc
      all_goals as_aux_lemma =>
        rename_i hO
        have HO := Lib.hid hO
        clear hO
        go_wp2_with (first | ((with_reducible refine skip_op ?_ ?_); exact rfl) | refine mP ?_ | (refine mS ?_; clear HM; intro W1 HM) | ((with_reducible refine iat 1 ?_); refine mB ?_; clear HM; intro g1 W1 HM) | (refine hal (dst := some 7) HM rfl ?_; clear HM; intro g7 W1 HM) | (go_at_call 65; (with_reducible refine cB HM (HB.out _) ?_); clear HM; intro W1 HM) | (go_at_call 66; (with_reducible refine cB HM (HD.out _) ?_); clear HM; intro W1 HM) | (go_at_call 67; (with_reducible refine cB HM (HV.out _ HM.out.below) ?_); clear HM; intro W1 HM) | (go_at_call 68; (with_reducible refine cB HM (HN.out _ HM.out.below) ?_); clear HM; intro W1 HM))
        go_meet
        case rel => exact ⟨by rw [HO.out]; try (congr 1; exact decide_eq_false (by omega)), HM⟩
    case rest =>
      clear HM
      obtain ⟨rfl, HM⟩ := hcut
      clear hoc
      go_wp2_with (first | ((with_reducible refine skip_op ?_ ?_); exact rfl) | refine mP ?_ | (refine mS ?_; clear HM; intro W1 HM) | ((with_reducible refine iat 1 ?_); refine mB ?_; clear HM; intro g1 W1 HM) | (refine hal (dst := some 7) HM rfl ?_; clear HM; intro g7 W1 HM))
      go_loopw [73, 5, 4] (fun iv nv bv wr => ∃ (i n : Nat) (b : Bool), iv = .int .i64 i ∧ nv = .int .i64 n ∧ bv = .bool b ∧ i ≤ l.length ∧ n ≤ 1000 ∧ Hid (n = VD.depthL (l.take i)) ∧ Hid (b = (o && VD.formL (l.take i))) ∧ Hid (Mem w wr [.box g1 30 [.int .i64 k, .bool y, .bool ng, .int .u64 hi, .int .u64 lo, .int .i64 sc, .string t, .int .i64 d, .slice lp l.length lc, .slice np ns.length nc]])) (fun iv _ _ _ => l.length - (intOf iv).toNat)
      case atStart => exact ⟨0, 0, o, rfl, rfl, rfl, by omega, by omega, Lib.hid (by simp [VD.depthL]), Lib.hid (by simp [VD.formL]), HM⟩
      case round =>
        clear HM
        obtain ⟨i, n, bb, rfl, rfl, rfl, hi0, hn1, HI, HI2, HM⟩ := hrel
        by_cases hlt : i < l.length
        · obtain ⟨x, hx⟩ : ∃ x, l[i]? = some x := ⟨_, List.getElem?_eq_getElem hlt⟩
          obtain ⟨b, c, rfl, hxa, hxc⟩ := vrow HL.out HAt.out hx
          have hpx := VD.partsL_get hx
          have HX := Lib.hid hxa
          have HC := Lib.hid hxc
          have hT := take_get hx
          have HXw := Lib.hid (VD.wfL_get HW.out hx)
          obtain ⟨z, hz⟩ : ∃ z, x.depth = z := ⟨_, rfl⟩
          obtain ⟨u, hu⟩ : ∃ u, x.form = u := ⟨_, rfl⟩
          have hzl := VD.depth_le x
          have HCl := Lib.hid (show ∀ W, RowKit.Below w.heap.size w W → Calls Tryz.prog 42 #[.agg c.toArray] W fun e w' => e = .returned (.tuple #[.int .i64 (z : Nat), .bool u]) ∧ RowKit.Below W.heap.size W w' from fun W hb => by
            rw [← hz, ← hu]
            exact IH.out x (by omega) _ _ (VD.at.below hb HX.out) HXw.out (by omega) (U8.below HU.out hb))
          have HE := Lib.hid (depth_snoc HI.out hT hz)
          have HE2 := Lib.hid (form_snoc HI2.out hT hu)
          have hzb : z ≤ 1000 := by omega
          obtain ⟨k1, y1, ⟨ng1, hi1, lo1, sc1⟩, t1, d1, l1, ns1⟩ := x
          have hc := hxa
          simp only [VD.at, vcs] at hc
          obtain ⟨lp1, np1, lc1, nc1, ls1, rfl, -⟩ := hc
          clear hx hxa hxc hpx hz hzl hu hT HI HI2
          have q1 : decide ((i : Int) < l.length) = true := decide_eq_true (by omega)
          cases bb
          all_goals
            go_wp2_with (first | ((with_reducible refine skip_op ?_ ?_); exact rfl) | refine mP ?_ | (refine mS ?_; clear HM; intro W1 HM) | ((with_reducible refine iat 1 ?_); refine mB ?_; clear HM; intro g1 W1 HM) | (refine hal (dst := some 7) HM rfl ?_; clear HM; intro g7 W1 HM) | (refine ixa rfl rfl rfl hlt ?_) | (refine ldxW (HM.out.olds HC.out) rfl rfl ?_) | (go_at_call 42; (with_reducible refine cB HM (HCl.out _ HM.out.below) ?_); clear HM; intro W1 HM))
            go_roundw
            case rel => exact ⟨i + 1, max n z, _, by go_num, congrArg (Value.int .i64) (by omega), rfl, by omega, by omega, HE, Lib.hid (by simpa using HE2.out), Lib.hid (HM.out.sub (.cons _ (.refl _)))⟩
            case measure => simp [intOf]; omega
        · obtain rfl : i = l.length := by omega
          have HE := Lib.hid (show n = r by have := HI.out; rw [List.take_length] at this; rw [this, HR.out])
          have HE2 := Lib.hid (show bb = f by have := HI2.out; rw [List.take_length] at this; rw [this, HF.out])
          go_wp2
          go_ret2
          exact ⟨by rw [HE.out, HE2.out]; rfl, HM.out.below⟩
end Go.Proofs.YtgobdcmoelcckaaGreatDoor
