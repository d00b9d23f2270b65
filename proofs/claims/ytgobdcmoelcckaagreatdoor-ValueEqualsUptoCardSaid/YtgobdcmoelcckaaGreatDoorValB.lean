/- Parts and depth: both sides. (short) -/
import Derived.Test.YtgobdcmoelcckaaGreatDoorValA
namespace Go.Proofs.YtgobdcmoelcckaaGreatDoor
open Go.RowKit
set_option linter.unusedVariables false
set_option linter.unusedSimpArgs false
set_option maxRecDepth 100000

/-- So many parts, counted up to m and one more. -/
def cntI (n : Nat) (m : Int) : Int := min (n : Int) (m + 1)
theorem cnt_step {a b : Nat} {m n : Int} (h : n = cntI a m) (hn : n ≤ m) : n + cntI b (m - n) = cntI (a + b) m := by
  unfold cntI at *; omega

set_option maxHeartbeats 4000000 in
theorem vcount_any : ∀ (N : Nat) (v : VD), v.parts ≤ N → ∀ (cs : List Value) (m : Int) (w : World), v.at w cs → v.wf 1048576 → 0 ≤ m → m ≤ 1000 → Calls Tryz.prog 41 #[.agg cs.toArray, .int .i64 m] w fun e w' => e = .returned (.int .i64 (cntI v.parts m)) ∧ RowKit.Below w.heap.size w w'
  | 0, v, hN, _, _, _, _, _, _, _ => by have := v.parts_pos; omega
  | N + 1, .mk k y ⟨ng, hi, lo, sc⟩ t d l ns, hN, cs, m, w, hv, hwf, hm0, hm1 => by
    have IH := Lib.hid (fun v h => vcount_any N v h)
    simp only [VD.at, vcs] at hv
    simp only [VD.wf] at hwf
    obtain ⟨lp, np, lc, nc, ls, rfl, -, hS, hL, ha⟩ := hv
    obtain ⟨-, -, -, hll, -, -, hwl⟩ := hwf
    simp only [VD.parts] at hN ⊢
    have HL := Lib.hid hL
    have HAt := Lib.hid ha
    have HW := Lib.hid hwl
    have HM := Lib.hid (Mem.start w)
    obtain ⟨r, hr⟩ : ∃ r, cntI (VD.partsL l + 1) m = r := ⟨_, rfl⟩
    rw [hr]
    have HR := Lib.hid hr
    clear hr hS hL ha hwl
    go_enter Tryz.func41, Tryz.ntmps41
    go_wp2_with (first | refine mP ?_ | (refine mS ?_; clear HM; intro W1 HM) | ((with_reducible refine iat 2 ?_); refine mB ?_; clear HM; intro g2 W1 HM) | (refine hal (dst := some 7) HM rfl ?_; clear HM; intro g7 W1 HM))
    go_loopw [11, 5] (fun iv nv wr => ∃ (i : Nat) (n : Int), iv = .int .i64 i ∧ nv = .int .i64 n ∧ i ≤ l.length ∧ n ≤ 1001 ∧ 1 ≤ n ∧ Hid (n = cntI (VD.partsL (l.take i) + 1) m) ∧ Hid (Mem w wr [.box g2 30 [.int .i64 k, .bool y, .bool ng, .int .u64 hi, .int .u64 lo, .int .i64 sc, .string t, .int .i64 d, .slice lp l.length lc, .slice np ns.length nc]])) (fun iv _ _ => l.length - (intOf iv).toNat)
    case atStart => exact ⟨0, 1, rfl, rfl, by omega, by omega, by omega, Lib.hid (by simp [VD.partsL, cntI]; omega), HM⟩
    case round =>
      clear HM
      obtain ⟨i, n, rfl, rfl, hi0, hn1, hn0, HI, HM⟩ := hrel
      by_cases hlt : i < l.length
      · obtain ⟨x, hx⟩ : ∃ x, l[i]? = some x := ⟨_, List.getElem?_eq_getElem hlt⟩
        obtain ⟨b, c, rfl, hxa, hxc⟩ := vrow HL.out HAt.out hx
        have hpx := VD.partsL_get hx
        have HX := Lib.hid hxa
        have HC := Lib.hid hxc
        have HT := Lib.hid (take_get hx)
        have HXw := Lib.hid (VD.wfL_get HW.out hx)
        have HP := Lib.hid (show x.parts ≤ N by omega)
        obtain ⟨z, hz⟩ : ∃ z, cntI x.parts (m - n) = z := ⟨_, rfl⟩
        have hx1 := x.parts_pos
        have HCl := Lib.hid (show n ≤ m → ∀ W, RowKit.Below w.heap.size w W → Calls Tryz.prog 41 #[.agg c.toArray, .int .i64 (m - n)] W fun e w' => e = .returned (.int .i64 z) ∧ RowKit.Below W.heap.size W w' from fun hnm W hb => by
          rw [← hz]
          exact IH.out _ HP.out _ _ _ (VD.at.below hb HX.out) HXw.out (by omega) (by omega))
        have HD := Lib.hid (show n ≤ m → n + z = cntI (VD.partsL (l.take (i + 1)) + 1) m from fun hnm => by
          rw [← hz, HT.out, VD.partsL_append, cnt_step HI.out hnm]; simp only [VD.partsL]; congr 1; omega)
        have hzb : n ≤ m → 1 ≤ z ∧ n + z ≤ m + 1 := fun hnm => by rw [← hz]; unfold cntI; omega
        obtain ⟨k1, y1, ⟨ng1, hi1, lo1, sc1⟩, t1, d1, l1, ns1⟩ := x
        have hc := hxa
        simp only [VD.at, vcs] at hc
        obtain ⟨lp1, np1, lc1, nc1, ls1, rfl, -⟩ := hc
        clear hx hxa hxc hpx hz hx1
        have q1 : decide ((i : Int) < l.length) = true := decide_eq_true (by omega)
        by_cases hgt : m < n
        · have q2 : decide (m < n) = true := decide_eq_true hgt
          clear HD
          have HD := Lib.hid (show n = r by have := HI.out; have := HR.out; have e := congrArg VD.partsL (List.take_append_drop i l); rw [VD.partsL_append] at e; unfold cntI at *; omega)
          go_wp2_with (first | refine mP ?_ | (refine mS ?_; clear HM; intro W1 HM) | ((with_reducible refine iat 2 ?_); refine mB ?_; clear HM; intro g2 W1 HM) | (refine hal (dst := some 7) HM rfl ?_; clear HM; intro g7 W1 HM) | (refine ixa rfl rfl rfl hlt ?_) | (refine ldxW (HM.out.olds HC.out) rfl rfl ?_))
          go_wp2
          go_ret
          exact ⟨by rw [HD.out]; rfl, HM.out.below⟩
        · have q2 : decide (m < n) = false := decide_eq_false hgt
          have hzb := hzb (by omega)
          have HD := Lib.hid (HD.out (by omega))
          have HCl := Lib.hid (HCl.out (by omega))
          go_wp2_with (first | refine mP ?_ | (refine mS ?_; clear HM; intro W1 HM) | ((with_reducible refine iat 2 ?_); refine mB ?_; clear HM; intro g2 W1 HM) | (refine hal (dst := some 7) HM rfl ?_; clear HM; intro g7 W1 HM) | (refine ixa rfl rfl rfl hlt ?_) | (refine ldxW (HM.out.olds HC.out) rfl rfl ?_) | (go_at_call 41; (with_reducible refine cB HM (HCl.out _ HM.out.below) ?_); clear HM; intro W1 HM))
          go_roundw
          case rel => exact ⟨i + 1, _, by go_num, rfl, by omega, by omega, by omega, HD, Lib.hid (HM.out.sub (.cons _ (.refl _)))⟩
          case measure => simp [intOf]; omega
      · obtain rfl : i = l.length := by omega
        have HD := Lib.hid (show n = r by have := HI.out; rw [List.take_length] at this; rw [this, HR.out])
        go_wp2
        go_ret
        exact ⟨by rw [HD.out]; rfl, HM.out.below⟩

set_option maxHeartbeats 4000000 in
theorem rdepth_any : ∀ (N : Nat) (v : VD), v.parts ≤ N → ∀ (cs : List Value) (w : World), v.at w cs → v.wf 1048576 → v.parts ≤ 1000 → Calls Tryz.prog 43 #[.agg cs.toArray] w fun e w' => e = .returned (.int .i64 (v.depth : Nat)) ∧ RowKit.Below w.heap.size w w'
  | 0, v, hN, _, _, _, _, _ => by have := v.parts_pos; omega
  | N + 1, .mk k y ⟨ng, hi, lo, sc⟩ t d l ns, hN, cs, w, hv, hwf, hm1 => by
    have IH := Lib.hid (fun v h => rdepth_any N v h)
    simp only [VD.at, vcs] at hv
    simp only [VD.wf] at hwf
    obtain ⟨lp, np, lc, nc, ls, rfl, -, hS, hL, ha⟩ := hv
    obtain ⟨-, -, -, hll, -, -, hwl⟩ := hwf
    simp only [VD.parts] at hN hm1
    simp only [VD.depth]
    have HL := Lib.hid hL
    have HAt := Lib.hid ha
    have HW := Lib.hid hwl
    have HM := Lib.hid (Mem.start w)
    have hle := VD.depthL_le l
    obtain ⟨r, hr⟩ : ∃ r, VD.depthL l = r := ⟨_, rfl⟩
    rw [hr] at hle ⊢
    have HR := Lib.hid hr
    clear hr hS hL ha hwl
    go_enter Tryz.func43, Tryz.ntmps43
    go_wp2_with (first | refine mP ?_ | ((with_reducible refine iat 1 ?_); refine mB ?_; clear HM; intro g1 W1 HM))
    go_loopw [4, 3] (fun iv nv wr => ∃ (i n : Nat), iv = .int .i64 i ∧ nv = .int .i64 n ∧ i ≤ l.length ∧ n ≤ 1000 ∧ Hid (n = VD.depthL (l.take i)) ∧ Hid (Mem w wr [.box g1 30 [.int .i64 k, .bool y, .bool ng, .int .u64 hi, .int .u64 lo, .int .i64 sc, .string t, .int .i64 d, .slice lp l.length lc, .slice np ns.length nc]])) (fun iv _ _ => l.length - (intOf iv).toNat)
    case atStart => exact ⟨0, 0, rfl, rfl, by omega, by omega, Lib.hid (by simp [VD.depthL]), HM⟩
    case round =>
      clear HM
      obtain ⟨i, n, rfl, rfl, hi0, hn1, HI, HM⟩ := hrel
      by_cases hlt : i < l.length
      · obtain ⟨x, hx⟩ : ∃ x, l[i]? = some x := ⟨_, List.getElem?_eq_getElem hlt⟩
        obtain ⟨b, c, rfl, hxa, hxc⟩ := vrow HL.out HAt.out hx
        have hpx := VD.partsL_get hx
        have HX := Lib.hid hxa
        have HC := Lib.hid hxc
        have HT := Lib.hid (take_get hx)
        have HXw := Lib.hid (VD.wfL_get HW.out hx)
        obtain ⟨z, hz⟩ : ∃ z, x.depth = z := ⟨_, rfl⟩
        have hzl := VD.depth_le x
        have HCl := Lib.hid (show ∀ W, RowKit.Below w.heap.size w W → Calls Tryz.prog 43 #[.agg c.toArray] W fun e w' => e = .returned (.int .i64 (z : Nat)) ∧ RowKit.Below W.heap.size W w' from fun W hb => by
          rw [← hz]
          exact IH.out x (by omega) _ _ (VD.at.below hb HX.out) HXw.out (by omega))
        have HD := Lib.hid (show max n z = VD.depthL (l.take (i + 1)) by rw [← hz, HT.out, VD.depthL_append, ← HI.out]; simp [VD.depthL])
        have hzb : z ≤ 1000 := by omega
        obtain ⟨k1, y1, ⟨ng1, hi1, lo1, sc1⟩, t1, d1, l1, ns1⟩ := x
        have hc := hxa
        simp only [VD.at, vcs] at hc
        obtain ⟨lp1, np1, lc1, nc1, ls1, rfl, -⟩ := hc
        clear hx hxa hxc hpx hz hzl
        have q1 : decide ((i : Int) < l.length) = true := decide_eq_true (by omega)
        go_wp2_with (first | refine mP ?_ | ((with_reducible refine iat 1 ?_); refine mB ?_; clear HM; intro g1 W1 HM) | (refine ixa rfl rfl rfl hlt ?_) | (refine ldxW (HM.out.olds HC.out) rfl rfl ?_) | (go_at_call 43; (with_reducible refine cB HM (HCl.out _ HM.out.below) ?_); clear HM; intro W1 HM))
        go_roundw
        case rel => exact ⟨i + 1, max n z, by go_num, congrArg (Value.int .i64) (by omega), by omega, by omega, HD, Lib.hid (HM.out.sub (.refl _))⟩
        case measure => simp [intOf]; omega
      · obtain rfl : i = l.length := by omega
        have HD := Lib.hid (show n = r by have := HI.out; rw [List.take_length] at this; rw [this, HR.out])
        have q1 : decide ((l.length : Int) < l.length) = false := by simp
        go_wp2_with (first | refine mP ?_ | ((with_reducible refine iat 1 ?_); refine mB ?_; clear HM; intro g1 W1 HM))
        go_ret
        exact ⟨by rw [HD.out]; rfl, HM.out.below⟩
end Go.Proofs.YtgobdcmoelcckaaGreatDoor
