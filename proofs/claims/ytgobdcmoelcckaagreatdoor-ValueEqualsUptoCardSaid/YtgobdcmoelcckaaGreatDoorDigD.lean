/- The reference's decimals: Units, Order. (short) -/
import Derived.Test.YtgobdcmoelcckaaGreatDoorDigC
import Derived.Test.YtgobdcmoelcckaaGreatDoorSepA
import Derived.Test.YtgobdcmoelcckaaGreatDoorDecC
namespace Go.Proofs.YtgobdcmoelcckaaGreatDoor
open Go.RowKit
set_option linter.unusedVariables false
set_option linter.unusedSimpArgs false
set_option maxRecDepth 100000

theorem DcD.size_lt {d : DcD} (h : d.ok = true) : d.size < 10 ^ 52 := by
  obtain ⟨h1, -⟩ := DcD.ok_parts h
  unfold DcD.size
  have h2 : 10 ^ (18 - d.sc.toNat) ≤ 10 ^ 18 := Nat.pow_le_pow_right (by decide) (by omega)
  have e : (10 : Nat) ^ 52 = 10 ^ 34 * 10 ^ 18 := by decide
  rw [e]
  exact Nat.lt_of_lt_of_le (Nat.mul_lt_mul_of_pos_right h1 (ten_pos _)) (Nat.mul_le_mul_left _ h2)
theorem DcD.size_len {d : DcD} (h : d.ok = true) : (dig d.size).length ≤ 52 := dig_len _ _ (DcD.size_lt h)

set_option maxHeartbeats 16000000 in
theorem units_any (d : DcD) (w : World) (hok : d.ok = true) (hwf : d.wf) :
    Calls Tryz.prog 98 #[.agg d.cs.toArray] w fun e w' => ∃ p c, e = .returned (.tuple #[.bool d.neg, .slice p (dig d.size).length c]) ∧ Mem w w' [.row p c 3 1 (dig d.size).length ((dig d.size).flatMap dgC)] := by
  have HM := Lib.hid (Mem.start w)
  obtain ⟨h34, h0, h18, -⟩ := DcD.ok_parts hok
  have HO := Lib.hid (fun W => ofd_any d.n d.hi d.lo W (DcD.w2 hwf))
  obtain ⟨k, hk⟩ : ∃ k : Nat, 18 - d.sc.toNat = k := ⟨_, rfl⟩
  have hw : wrap64 (18 - d.sc) = (k : Int) := (IntWalk.wrap64_in _ (by omega)).trans (by omega)
  have HSh := Lib.hid (fun W p c (hS : Sl W p ((dig d.n).flatMap dgC)) => (show Calls Tryz.prog 145 #[.slice p (dig d.n).length c, .int .i64 (wrap64 (18 - d.sc))] W fun e w' => ∃ q c, e = .returned (.slice q (dig d.size).length c) ∧ Mem W w' [.row q c 3 1 (dig d.size).length ((dig d.size).flatMap dgC)] from by
    rw [hw, show d.size = d.n * 10 ^ k by unfold DcD.size; rw [hk]]
    exact shiftd_any p c d.n k W hS (by omega) (by have := dig_len 34 d.n h34; omega)))
  obtain ⟨S, hS⟩ : ∃ S, d.size = S := ⟨_, rfl⟩
  rw [hS] at HSh ⊢
  obtain ⟨n, hn⟩ : ∃ n, d.n = n := ⟨_, rfl⟩
  rw [hn] at HSh HO
  clear hok hwf h34 h0 h18 hk hw hS hn
  obtain ⟨ng, hi, lo, sc⟩ := d
  simp only [DcD.cs] at HSh HO ⊢
  go_enter Tryz.func98, Tryz.ntmps98
  go_wp2_with (first | refine mP ?_ | (refine mB ?_; clear HM; intro g1 W1 HM))
  refine wp_region_steps2 [(true, 0), (true, 1), (true, 2), (true, 3), (true, 5), (true, 6), (true, 7), (false, 4), (false, 8), (true, 9), (true, 10)] (by kernel_rfl) (by kernel_rfl) rfl (by kernel_rfl) (fun _ _ _ _ _ h => h) HM.out _ (.cons_cons _ .slnil) ?_
  intro hNE W1 HM1; replace HM := Lib.hid HM1; clear HM1
  have HS0 := Lib.hid (HM.out.sub (.cons_cons _ .slnil))
  simp only [wpSteps, List.getElem?_cons_succ, List.getElem?_cons_zero]
  (repeat (first | ((with_reducible refine wpQuiet_nil ?_); (try dsimp only)) | refine mQ ?_ | go_big_quiet_step (fail) | quiet_step (fail)))
  go_wp2_with (first | (go_at_call 111; (with_reducible refine (HO.out _).mono ?_); rintro e W2 ⟨p1, c1, rfl, hM2⟩; have HM1 := Lib.hid (HM.out.comp2 hM2); clear HM hM2; (try clear W1); rename World => W1; have HM := Lib.hid HM1.out; clear HM1; simp only [List.cons_append, List.nil_append] at HM))
  refine ⟨⟨⟨_, HM.out.sub (by repeat (first | exact List.nil_sublist _ | with_reducible refine List.Sublist.cons_cons _ ?_ | refine List.Sublist.cons _ ?_))⟩, rfl⟩, ?_⟩
  (try dsimp only)
  go_wp2_with (first | (go_at_call 145; (with_reducible refine (HSh.out _ _ _ (row_sl (HM.out.get (k := 0) rfl))).mono ?_); rintro e W2 ⟨p2, c2, rfl, hM2⟩; have HM1 := Lib.hid (HM.out.comp2 hM2); clear HM hM2; (try clear W1); rename World => W1; have HM := Lib.hid HM1.out; clear HM1; simp only [List.cons_append, List.nil_append] at HM))
  refine ⟨⟨⟨_, HM.out.sub (by repeat (first | exact List.nil_sublist _ | with_reducible refine List.Sublist.cons_cons _ ?_ | refine List.Sublist.cons _ ?_))⟩, rfl⟩, ?_⟩
  (try dsimp only)
  (repeat (first | ((with_reducible refine wpQuiet_nil ?_); (try dsimp only)) | refine mQ ?_ | go_big_quiet_step (fail) | quiet_step (fail)))
  clear HS0 hNE
  go_wp2_with fail
  go_ret2
  exact ⟨p2, c2, rfl, HM.out.sub (.cons_cons _ (List.nil_sublist _))⟩

set_option maxHeartbeats 16000000 in
theorem order2_any (x y : DcD) (w : World) (hx : x.ok = true) (hy : y.ok = true) (hxw : x.wf) (hyw : y.wf) :
    Calls Tryz.prog 61 #[.agg x.cs.toArray, .agg y.cs.toArray] w fun e w' => e = .returned (.int .i64 (cmpZ x.val y.val)) ∧ RowKit.Below w.heap.size w w' := by
  have HM := Lib.hid (Mem.start w)
  have HX := Lib.hid (fun W => units_any x W hx hxw)
  have HY := Lib.hid (fun W => units_any y W hy hyw)
  have lx := DcD.size_len hx
  have ly := DcD.size_len hy
  have HS := Lib.hid (fun W p q c d (hS : Sl W p ((dig x.size).flatMap dgC)) (hT : Sl W q ((dig y.size).flatMap dgC)) => sumd_any x.neg (!y.neg) p q c d x.size y.size W hS hT (by omega) (by omega))
  rw [cmp_ref hx hy]
  have hz := fun N (h : N ≠ 0) => dig_len_pos (n := N) h
  generalize sumS x.neg x.size (!y.neg) y.size = sv at *
  obtain ⟨sb, sn⟩ := sv
  simp only at HS ⊢
  generalize dig x.size = A at *
  generalize dig y.size = B at *
  clear lx ly hx hy hxw hyw
  obtain ⟨ng1, hi1, lo1, sc1⟩ := x
  obtain ⟨ng2, hi2, lo2, sc2⟩ := y
  simp only [DcD.cs] at HX HY HS ⊢
  go_enter Tryz.func61, Tryz.ntmps61
  have HR : ∃ r, r = (if sn = 0 then (0 : Int) else if sb then -1 else 1) := ⟨_, rfl⟩
  obtain ⟨r, hr⟩ := HR
  rw [← hr]
  by_cases h0 : sn = 0
  · subst h0
    have q1 : (((dig 0).length : Int) == 0) = true := by rw [dig_zero]; rfl
    rw [if_pos rfl] at hr
    subst hr
    generalize dig 0 = E at *
    go_wp2_with (first | refine mP ?_ | (refine mB ?_; clear HM; intro g1 W1 HM) | (go_at_call 98; (first | (with_reducible refine (HX.out _).mono ?_) | (with_reducible refine (HY.out _).mono ?_)); rintro e W2 ⟨p1, c1, rfl, hM2⟩; have HM1 := Lib.hid (HM.out.comp2 hM2); clear HM hM2; (try clear W1); rename World => W1; have HM := Lib.hid HM1.out; clear HM1; simp only [List.cons_append, List.nil_append] at HM) | (go_at_call 99; (with_reducible refine (HS.out _ _ _ _ _ (row_sl (HM.out.get (k := 1) rfl)) (row_sl (HM.out.get (k := 0) rfl))).mono ?_); rintro e W2 ⟨p2, c2, rfl, hM2⟩; have HM1 := Lib.hid (HM.out.comp2 hM2); clear HM hM2; (try clear W1); rename World => W1; have HM := Lib.hid HM1.out; clear HM1; simp only [List.cons_append, List.nil_append] at HM))
    go_ret
    exact ⟨rfl, HM.out.below⟩
  · have hp := hz sn h0
    have q1 : (((dig sn).length : Int) == 0) = false := by simp; intro e; rw [e] at hp; simp at hp
    rw [if_neg h0] at hr
    clear hp h0
    generalize dig sn = E at *
    cases sb
    · obtain rfl : r = 1 := hr
      go_wp2_with (first | refine mP ?_ | (refine mB ?_; clear HM; intro g1 W1 HM) | (go_at_call 98; (first | (with_reducible refine (HX.out _).mono ?_) | (with_reducible refine (HY.out _).mono ?_)); rintro e W2 ⟨p1, c1, rfl, hM2⟩; have HM1 := Lib.hid (HM.out.comp2 hM2); clear HM hM2; (try clear W1); rename World => W1; have HM := Lib.hid HM1.out; clear HM1; simp only [List.cons_append, List.nil_append] at HM) | (go_at_call 99; (with_reducible refine (HS.out _ _ _ _ _ (row_sl (HM.out.get (k := 1) rfl)) (row_sl (HM.out.get (k := 0) rfl))).mono ?_); rintro e W2 ⟨p2, c2, rfl, hM2⟩; have HM1 := Lib.hid (HM.out.comp2 hM2); clear HM hM2; (try clear W1); rename World => W1; have HM := Lib.hid HM1.out; clear HM1; simp only [List.cons_append, List.nil_append] at HM))
      go_ret
      exact ⟨rfl, HM.out.below⟩
    · obtain rfl : r = -1 := hr
      go_wp2_with (first | refine mP ?_ | (refine mB ?_; clear HM; intro g1 W1 HM) | (go_at_call 98; (first | (with_reducible refine (HX.out _).mono ?_) | (with_reducible refine (HY.out _).mono ?_)); rintro e W2 ⟨p1, c1, rfl, hM2⟩; have HM1 := Lib.hid (HM.out.comp2 hM2); clear HM hM2; (try clear W1); rename World => W1; have HM := Lib.hid HM1.out; clear HM1; simp only [List.cons_append, List.nil_append] at HM) | (go_at_call 99; (with_reducible refine (HS.out _ _ _ _ _ (row_sl (HM.out.get (k := 1) rfl)) (row_sl (HM.out.get (k := 0) rfl))).mono ?_); rintro e W2 ⟨p2, c2, rfl, hM2⟩; have HM1 := Lib.hid (HM.out.comp2 hM2); clear HM hM2; (try clear W1); rename World => W1; have HM := Lib.hid HM1.out; clear HM1; simp only [List.cons_append, List.nil_append] at HM))
      go_ret
      exact ⟨rfl, HM.out.below⟩
end Go.Proofs.YtgobdcmoelcckaaGreatDoor
