/- The reference's numbers: Of, Cmp, a sum of signed sizes. (short) -/
import Derived.Test.YtgobdcmoelcckaaGreatDoorDigB
namespace Go.Proofs.YtgobdcmoelcckaaGreatDoor
open Go.RowKit
set_option linter.unusedVariables false
set_option linter.unusedSimpArgs false
set_option maxRecDepth 100000

theorem iV_flat (l : List Nat) : l.map iV = l.flatMap dgC := by
  induction l with
  | nil => rfl
  | cons a r ih => rw [List.map_cons, List.flatMap_cons, ih]; rfl
theorem ofd_any (n hi lo : Nat) (w : World) (h : W2 n hi lo) :
    Calls Tryz.prog 111 #[.agg #[.int .u64 hi, .int .u64 lo]] w fun e w' => ∃ p c, e = .returned (.slice p (dig n).length c) ∧ Mem w w' [.row p c 3 1 (dig n).length ((dig n).flatMap dgC)] := by
  refine (of_any n hi lo w h).mono ?_
  rintro e w' ⟨v', rfl, hd, hb⟩
  obtain ⟨p, c, rfl, -⟩ := hd.shape
  exact ⟨p, c, rfl, hb, (fun r hr => by
    rw [List.mem_singleton.1 hr, ← iV_flat]
    exact hd), List.pairwise_singleton _ _⟩

theorem dvl_top {A B : List Nat} (hl : A.length = B.length) (h9 : ∀ x ∈ A, x ≤ 9) {i u v : Nat} (hd : A.drop (i + 1) = B.drop (i + 1)) (hu : A[i]? = some u) (hv : B[i]? = some v) (h : u < v) : dvl A < dvl B := by
  have hi := (List.getElem?_eq_some_iff.1 hu).1
  have key : ∀ (l : List Nat) (t : Nat), l[i]? = some t → i < l.length → dvl l = dvl (l.take i) + 10 ^ i * (t + 10 * dvl (l.drop (i + 1))) := fun l t ht hlt => by
    have e := dvl_append (l.take i) (l.drop i)
    rw [List.take_append_drop, List.length_take, Nat.min_eq_left (by omega), dvl_drop ht] at e
    exact e
  rw [key A u hu hi, key B v hv (by omega), hd]
  have h1 := dvl_lt (A.take i) (fun x hx => h9 x (List.mem_of_mem_take hx))
  rw [List.length_take, Nat.min_eq_left (by omega)] at h1
  generalize dvl (B.drop (i + 1)) = D
  have h2 : 10 ^ i * (u + 10 * D + 1) ≤ 10 ^ i * (v + 10 * D) := Nat.mul_le_mul_left _ (by omega)
  rw [Nat.mul_add, Nat.mul_one] at h2
  omega
theorem drop_at {A B : List Nat} {i u : Nat} (hu : A[i]? = some u) (hv : B[i]? = some u) (hd : A.drop (i + 1) = B.drop (i + 1)) : A.drop i = B.drop i := by
  obtain ⟨h1, e1⟩ := List.getElem?_eq_some_iff.1 hu
  obtain ⟨h2, e2⟩ := List.getElem?_eq_some_iff.1 hv
  rw [List.drop_eq_getElem_cons h1, List.drop_eq_getElem_cons h2, e1, e2, hd]
theorem cmpZ_lt {x y : Nat} (h : x < y) : cmpZ x y = -1 := by unfold cmpZ; rw [if_pos (by omega)]
theorem cmpZ_gt {x y : Nat} (h : y < x) : cmpZ x y = 1 := by unfold cmpZ; rw [if_neg (by omega), if_neg (by omega)]

set_option maxHeartbeats 16000000 in
theorem cmpd_any (p q : Option Addr) (c d : Nat) (x y : Nat) (w : World) (hS : Sl w p ((dig x).flatMap dgC)) (hT : Sl w q ((dig y).flatMap dgC)) (hl : (dig x).length ≤ 100000) (hm : (dig y).length ≤ 100000) :
    Calls Tryz.prog 147 #[.slice p (dig x).length c, .slice q (dig y).length d] w fun e w' => e = .returned (.int .i64 (cmpZ x y)) ∧ RowKit.Below w.heap.size w w' := by
  have HM := Lib.hid (Mem.start w)
  have HS := Lib.hid hS
  have HT := Lib.hid hT
  have h0 : (dig x).length < (dig y).length → cmpZ x y = -1 := fun h => cmpZ_lt (by
    rcases Nat.lt_or_ge x y with h' | h'
    · exact h'
    · have := dig_mono h'; omega)
  have h1 : (dig y).length < (dig x).length → cmpZ x y = 1 := fun h => cmpZ_gt (by
    rcases Nat.lt_or_ge y x with h' | h'
    · exact h'
    · have := dig_mono h'; omega)
  have HLt := Lib.hid (show (dig x).length = (dig y).length → ∀ i u v, (dig x).drop (i + 1) = (dig y).drop (i + 1) → (dig x)[i]? = some u → (dig y)[i]? = some v → u < v → cmpZ x y = -1 from fun hl i u v hd hu hv h => by
    have := dvl_top hl (dig_nine x) hd hu hv h
    rw [dvl_dig, dvl_dig] at this
    exact cmpZ_lt this)
  have HGt := Lib.hid (show (dig x).length = (dig y).length → ∀ i u v, (dig x).drop (i + 1) = (dig y).drop (i + 1) → (dig x)[i]? = some u → (dig y)[i]? = some v → v < u → cmpZ x y = 1 from fun hl i u v hd hu hv h => by
    have := dvl_top hl.symm (dig_nine y) hd.symm hv hu h
    rw [dvl_dig, dvl_dig] at this
    exact cmpZ_gt this)
  have HEq := Lib.hid (show dig x = dig y → cmpZ x y = 0 from fun h => by
    have := congrArg dvl h
    rw [dvl_dig, dvl_dig] at this
    rw [this]; exact cmpZ_self _)
  have HDL := Lib.hid h0
  have HDG := Lib.hid h1
  clear hS hT h0 h1
  generalize cmpZ x y = R at *
  generalize dig x = A at *
  generalize dig y = B at *
  go_enter Tryz.func147, Tryz.ntmps147
  by_cases hAB : A.length = B.length
  · have q1 : ((A.length : Int) != B.length) = false := by simp [hAB]
    go_wp2_with fail
    go_loopw [5] (fun iv wr => ∃ n : Nat, iv = .int .i64 ((n : Int) - 1) ∧ n ≤ A.length ∧ Hid (A.drop n = B.drop n) ∧ Hid (Mem w wr [])) (fun iv _ => (intOf iv + 1).toNat)
    case atStart => exact ⟨A.length, by rw [hAB], Nat.le_refl _, Lib.hid (by rw [List.drop_length, hAB, List.drop_length]), HM⟩
    case round =>
      clear HM q1
      obtain ⟨n, rfl, hn, HD, HM⟩ := hrel
      obtain _ | m := n
      · have hR := HEq.out (by have := HD.out; rwa [List.drop_zero, List.drop_zero] at this)
        go_wp2_with fail
        go_ret
        exact ⟨by rw [hR]; rfl, HM.out.below⟩
      · have e : ((m + 1 : Nat) : Int) - 1 = m := by omega
        rw [e]
        have q2 : decide ((0 : Int) ≤ (m : Int)) = true := decide_eq_true (by omega)
        have hma : m < A.length := by omega
        have hmb : m < B.length := by omega
        obtain ⟨u, hu⟩ : ∃ u, A[m]? = some u := ⟨_, List.getElem?_eq_getElem hma⟩
        obtain ⟨v, hv⟩ : ∃ v, B[m]? = some v := ⟨_, List.getElem?_eq_getElem hmb⟩
        obtain ⟨b1, rfl, hb1⟩ := HS.out.some_at dgC_len (by decide) hma
        obtain ⟨b2, rfl, hb2⟩ := HT.out.some_at dgC_len (by decide) hmb
        have HA1 := Lib.hid (show Cells w (b1.add (m * 1)) [.int .i64 (u : Int)] from hb1.elem dgC 1 dgC_len hu)
        have HB1 := Lib.hid (show Cells w (b2.add (m * 1)) [.int .i64 (v : Int)] from hb2.elem dgC 1 dgC_len hv)
        have HL1 := Lib.hid (HLt.out hAB m u v HD.out hu hv)
        have HG1 := Lib.hid (HGt.out hAB m u v HD.out hu hv)
        have HE1 := Lib.hid (show u = v → A.drop m = B.drop m from fun h => drop_at hu (h ▸ hv) HD.out)
        clear hb1 hb2 hu hv e
        go_wp2_with fail
        refine wp_region_mem (by kernel_rfl) (by kernel_rfl) HM.out ?_; intro hNE; (repeat (any_goals (first | ((with_reducible refine qgd ?_); (with_reducible refine skip_q ?_ ?_ ?_); (exact rfl); (rotate_left; (exact (hNE.elim fun p => ⟨p.W, p, rfl⟩)))) | refine mQ ?_ | ((with_reducible refine qat 25 ?_); (refine qixa rfl rfl rfl hma ?_)) | ((with_reducible refine qat 26 ?_); (refine qdx0 HA1.out rfl rfl ?_)) | ((with_reducible refine qat 29 ?_); (refine qixa rfl rfl rfl hmb ?_)) | ((with_reducible refine qat 30 ?_); (refine qdx0 HB1.out rfl rfl ?_)) | go_big_quiet_step (fail) | quiet_step (fail)))); clear hNE; refine wpQuiet_nil ?_; intro W1 HM1; replace HM := Lib.hid HM1; clear HM1
        by_cases hlt : u < v
        · have q3 : decide ((u : Int) < v) = true := decide_eq_true (by omega)
          have hR := HL1.out hlt
          go_wp2_with fail
          go_ret
          exact ⟨by rw [hR]; rfl, HM.out.below⟩
        · have q3 : decide ((u : Int) < v) = false := decide_eq_false (by omega)
          go_wp2_with fail
          refine wp_region_mem (by kernel_rfl) (by kernel_rfl) HM.out ?_; intro hNE; (repeat (any_goals (first | ((with_reducible refine qgd ?_); (with_reducible refine skip_q ?_ ?_ ?_); (exact rfl); (rotate_left; (exact (hNE.elim fun p => ⟨p.W, p, rfl⟩)))) | refine mQ ?_ | ((with_reducible refine qat 34 ?_); (refine qixa rfl rfl rfl hma ?_)) | ((with_reducible refine qat 35 ?_); (refine qdx0 HA1.out rfl rfl ?_)) | ((with_reducible refine qat 38 ?_); (refine qixa rfl rfl rfl hmb ?_)) | ((with_reducible refine qat 39 ?_); (refine qdx0 HB1.out rfl rfl ?_)) | go_big_quiet_step (fail) | quiet_step (fail)))); clear hNE; refine wpQuiet_nil ?_; intro W1 HM1; replace HM := Lib.hid HM1; clear HM1
          by_cases hgt : v < u
          · have q4 : decide ((v : Int) < u) = true := decide_eq_true (by omega)
            have hR := HG1.out hgt
            go_wp2_with fail
            go_ret
            exact ⟨by rw [hR]; rfl, HM.out.below⟩
          · have q4 : decide ((v : Int) < u) = false := decide_eq_false (by omega)
            go_wp2_with fail
            go_roundw
            case rel => exact ⟨m, rfl, by omega, Lib.hid (HE1.out (by omega)), HM⟩
            case measure => simp [intOf]
  · have q1 : ((A.length : Int) != B.length) = true := by simp; omega
    by_cases hlt : A.length < B.length
    · have q2 : decide ((A.length : Int) < B.length) = true := decide_eq_true (by omega)
      have hR := HDL.out hlt
      go_wp2_with fail
      go_ret
      exact ⟨by rw [hR]; rfl, HM.out.below⟩
    · have q2 : decide ((A.length : Int) < B.length) = false := decide_eq_false (by omega)
      have hR := HDG.out (by omega)
      go_wp2_with fail
      go_ret
      exact ⟨by rw [hR]; rfl, HM.out.below⟩

theorem dig_len_add {x y n : Nat} (hx : x < 10 ^ n) (hy : y < 10 ^ n) : (dig (x + y)).length ≤ n + 1 := dig_len _ _ (by rw [Nat.pow_succ]; omega)

set_option maxHeartbeats 8000000 in
theorem sumd_any (an bn : Bool) (p q : Option Addr) (c d : Nat) (x y : Nat) (w : World) (hS : Sl w p ((dig x).flatMap dgC)) (hT : Sl w q ((dig y).flatMap dgC)) (hl : (dig x).length ≤ 100000) (hm : (dig y).length ≤ 100000) :
    Calls Tryz.prog 99 #[.bool an, .slice p (dig x).length c, .bool bn, .slice q (dig y).length d] w fun e w' => ∃ r k, e = .returned (.tuple #[.bool (sumS an x bn y).1, .slice r (dig (sumS an x bn y).2).length k]) ∧ Mem w w' [.row r k 3 1 (dig (sumS an x bn y).2).length ((dig (sumS an x bn y).2).flatMap dgC)] := by
  have HM := Lib.hid (Mem.start w)
  have HP := Lib.hid (fun W (hb : Mem w W []) => plusd_any p q c d x y W (hb.sl hS) (hb.sl hT) hl hm)
  have HC := Lib.hid (fun W (hb : Mem w W []) => cmpd_any p q c d x y W (hb.sl hS) (hb.sl hT) hl hm)
  have HL := Lib.hid (fun W (hb : Mem w W []) (h : y ≤ x) => lessd_any p q c d x y W h (hb.sl hS) (hb.sl hT) hl)
  have HL2 := Lib.hid (fun W (hb : Mem w W []) (h : x ≤ y) => lessd_any q p d c y x W h (hb.sl hT) (hb.sl hS) hm)
  have HG := Lib.hid (show y ≤ x → decide (0 ≤ cmpZ x y) = true from fun h => by
    unfold cmpZ
    rcases Nat.lt_or_ge y x with h' | h'
    · rw [if_neg (by omega), if_neg (by omega)]; rfl
    · rw [if_neg (by omega), if_pos (by omega)]; rfl)
  have HGn := Lib.hid (show ¬ y ≤ x → decide (0 ≤ cmpZ x y) = false from fun h => by
    unfold cmpZ
    rw [if_pos (by omega)]; rfl)
  have e1 : ∀ b, sumS b x b y = (b, x + y) := fun b => by unfold sumS; rw [if_pos rfl]
  have e2 : ∀ b, y ≤ x → sumS b x (!b) y = (b, x - y) := fun b h => by unfold sumS; rw [if_neg (by cases b <;> simp), if_pos h]
  have e3 : ∀ b, ¬ y ≤ x → sumS b x (!b) y = ((!b), y - x) := fun b h => by unfold sumS; rw [if_neg (by cases b <;> simp), if_neg h]
  clear hS hT hl hm
  generalize cmpZ x y = R at *
  generalize dig x = A at *
  generalize dig y = B at *
  by_cases hab : an = bn
  · subst hab
    rw [e1]
    clear e1 e2 e3 HC HL HL2 HG HGn
    go_enter Tryz.func99, Tryz.ntmps99
    go_wp2_with (first | (go_at_call 146; (with_reducible refine (HP.out _ HM.out).mono ?_); rintro e W2 ⟨r, k, rfl, hM2⟩; have HM1 := Lib.hid (HM.out.comp2 hM2); clear HM hM2; (try clear W1); rename World => W1; have HM := Lib.hid HM1.out; clear HM1))
    go_ret2
    exact ⟨r, k, rfl, HM.out⟩
  · obtain rfl : bn = !an := by cases an <;> cases bn <;> simp at hab ⊢
    have q0 : (an == !an) = false := by cases an <;> rfl
    by_cases hyx : y ≤ x
    · rw [e2 _ hyx]
      have q1 := HG.out hyx
      have HLx := Lib.hid (fun W hb => HL.out W hb hyx)
      clear e1 e2 e3 HP HL HL2 HG HGn hab hyx
      go_enter Tryz.func99, Tryz.ntmps99
      go_wp2_with (first | (go_at_call 147; (with_reducible refine cB HM (HC.out _ HM.out) ?_); clear HM; intro W1 HM) | (go_at_call 148; (with_reducible refine (HLx.out _ HM.out).mono ?_); rintro e W2 ⟨r, k, rfl, hM2⟩; have HM1 := Lib.hid (HM.out.comp2 hM2); clear HM hM2; (try clear W1); rename World => W1; have HM := Lib.hid HM1.out; clear HM1))
      go_ret2
      exact ⟨r, k, rfl, HM.out⟩
    · rw [e3 _ hyx]
      have q1 := HGn.out hyx
      have HLx := Lib.hid (fun W hb => HL2.out W hb (by omega))
      clear e1 e2 e3 HP HL HL2 HG HGn hab hyx
      go_enter Tryz.func99, Tryz.ntmps99
      go_wp2_with (first | (go_at_call 147; (with_reducible refine cB HM (HC.out _ HM.out) ?_); clear HM; intro W1 HM) | (go_at_call 148; (with_reducible refine (HLx.out _ HM.out).mono ?_); rintro e W2 ⟨r, k, rfl, hM2⟩; have HM1 := Lib.hid (HM.out.comp2 hM2); clear HM hM2; (try clear W1); rename World => W1; have HM := Lib.hid HM1.out; clear HM1))
      go_ret2
      exact ⟨r, k, rfl, HM.out⟩
end Go.Proofs.YtgobdcmoelcckaaGreatDoor
