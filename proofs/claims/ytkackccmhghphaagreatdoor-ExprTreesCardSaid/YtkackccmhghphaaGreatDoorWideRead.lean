/- wide's Add of a digit, Read of digits; strings' tails; dec's Parse of a number's text. (fast) -/
import Derived.Test.YtkackccmhghphaaGreatDoorLexBytes
import Derived.Test.YtkackccmhghphaaGreatDoorWideA
import Derived.Test.YtkackccmhghphaaGreatDoorTypes
namespace Go.Proofs.YtkackccmhghphaaGreatDoor
open Go.RowKit
set_option linter.unusedVariables false
set_option linter.unusedSimpArgs false
set_option maxRecDepth 100000

set_option maxHeartbeats 2000000 in
theorem wadd_fit (n hi lo d : Nat) (w : World) (h : W2 n hi lo) (hd : d ≤ 9) (hn : n + d < 340282366920938463463374607431768211456) :
  Calls Tryz.prog 188 #[.agg #[.int .u64 hi, .int .u64 lo], .agg #[.int .u64 0, .int .u64 d]] w fun e w' => ∃ h2 l2 : Nat, e = .returned (.tuple #[.agg #[.int .u64 h2, .int .u64 l2], .int .i64 0]) ∧ W2 (n + d) h2 l2 ∧ Below w.heap.size w w' := by
 have HM := Lib.hid (Mem.start w)
 obtain ⟨h1, h2, h3⟩ := h
 obtain ⟨r0, hr0⟩ : ∃ r, (lo + d + 0) % 18446744073709551616 = r := ⟨_, rfl⟩
 obtain ⟨c0, hc0⟩ : ∃ r, (lo + d + 0) / 18446744073709551616 = r := ⟨_, rfl⟩
 obtain ⟨r1, hr1⟩ : ∃ r, (hi + 0 + c0) % 18446744073709551616 = r := ⟨_, rfl⟩
 have hadd1 : ∀ w, (callFunc 194 #[.int .u64 lo, .int .u64 d, .int .u64 0]).run Tryz.prog w = .ok (.value (.tuple #[.int .u64 r0, .int .u64 c0])) w := fun w => by
  have h := Any7.bits_Add64 Tryz.lays25 lo d 0 (by omega) w
  rw [hr0, hc0] at h
  exact h
 have hadd2 : ∀ w, (callFunc 194 #[.int .u64 hi, .int .u64 0, .int .u64 c0]).run Tryz.prog w = .ok (.value (.tuple #[.int .u64 r1, .int .u64 0])) w := fun w => by
  have h := Any7.bits_Add64 Tryz.lays25 hi 0 c0 (by omega) w
  rw [hr1, show (hi + 0 + c0) / 18446744073709551616 = 0 by omega] at h
  exact h
 have HR := Lib.hid (show W2 (n + d) r1 r0 from ⟨by omega, by omega, by omega⟩)
 clear h1 h2 h3 hr0 hc0 hr1 hn hd
 go_enter Tryz.func188, Tryz.ntmps188
 go_wp2_with (first | ((with_reducible refine iload ?_); first | refine ldb1 HM.out 0 rfl rfl rfl ?_ | refine ldb1 HM.out 1 rfl rfl rfl ?_ | refine ldb1 HM.out 2 rfl rfl rfl ?_) | ((with_reducible refine istore ?_); (first | ((first | refine stbW rfl HM.out 0 rfl rfl rfl rfl rfl rfl ?_ | refine stbW rfl HM.out 1 rfl rfl rfl rfl rfl rfl ?_ | refine stbW rfl HM.out 2 rfl rfl rfl rfl rfl rfl ?_); intro W1 HM1; replace HM := Lib.hid HM1; clear HM1; simp only [List.set] at HM) | ((first | refine stbS rfl HM.out 0 rfl rfl rfl rfl rfl rfl ?_ | refine stbS rfl HM.out 1 rfl rfl rfl rfl rfl rfl ?_ | refine stbS rfl HM.out 2 rfl rfl rfl rfl rfl rfl ?_); intro W1 HM1; replace HM := Lib.hid HM1; clear HM1; simp only [lss, Nat.reduceAdd] at HM))) | ((with_reducible refine ibox (d := some 2) ?_); refine bxA rfl HM.out rfl ?_; intro g2 W1 HM1; replace HM := Lib.hid HM1; clear HM1) | ((with_reducible refine ibox (d := some 3) ?_); refine bxA rfl HM.out rfl ?_; intro g3 W1 HM1; replace HM := Lib.hid HM1; clear HM1) | ((with_reducible refine ialloc (d := some 4) ?_); refine alb rfl HM.out ?_; intro g4 W1 HM1; replace HM := Lib.hid HM1; clear HM1))
 exact bodyPost_ret (res_box_tmp rfl HM.out 0 rfl rfl rfl rfl) rfl ⟨_, _, rfl, HR.out, HM.out.below⟩

theorem dval_snoc (l : List UInt8) (b : UInt8) : dval (l ++ [b]) = dval l * 10 + (b.toNat - 48) := by unfold dval; rw [List.foldl_append]; rfl
theorem dval_lt : ∀ (n : Nat) (l : List UInt8), l.length = n → (∀ b ∈ l, dg b = true) → dval l < 10 ^ n
 | 0, l, hn, _ => by rw [List.eq_nil_of_length_eq_zero hn]; decide
 | n + 1, l, hn, hd => by
  rcases List.eq_nil_or_concat l with rfl | ⟨l', b, rfl⟩
  ·simp at hn
  ·rw [List.concat_eq_append, dval_snoc]
   have h1 := dval_lt n l' (by simpa using hn) (fun x hx => hd x (by simp [hx]))
   have h2 := (Cal.digB_iff b).1 (hd b (by simp))
   rw [Nat.pow_succ]
   omega

set_option maxHeartbeats 4000000 in
theorem wread_any (s : ByteArray) (w : World) (hd : ∀ b ∈ s.data.toList, dg b = true) (h0 : 0 < s.size) (h1 : s.size ≤ 34) (hz : s.data.toList[0]? ≠ some 48) :
  Calls Tryz.prog 166 #[.string s] w fun e w' => ∃ h2 l2 : Nat, e = .returned (.tuple #[.agg #[.int .u64 h2, .int .u64 l2], .int .i64 0]) ∧ W2 (dval s.data.toList) h2 l2 ∧ Below w.heap.size w w' := by
 have HM := Lib.hid (Mem.start w)
 have hlen : s.data.toList.length = s.size := by simp
 have HB := Lib.hid (show ∀ i, i < s.size → ∃ b, s.data.toList[i]? = some b ∧ 48 ≤ b.toNat ∧ b.toNat ≤ 57 from fun i hi => by
  obtain ⟨b, hb⟩ : ∃ b, s.data.toList[i]? = some b := ⟨_, List.getElem?_eq_getElem (by rw [hlen]; exact hi)⟩
  exact ⟨b, hb, (Cal.digB_iff b).1 (hd b (List.mem_of_getElem? hb))⟩)
 have HV := Lib.hid (show ∀ i b, s.data.toList[i]? = some b → dval (s.data.toList.take (i + 1)) = dval (s.data.toList.take i) * 10 + (b.toNat - 48) from fun i b hb => by
  rw [List.take_add_one, hb]; exact dval_snoc _ b)
 have HLt := Lib.hid (show ∀ i, i < s.size → dval (s.data.toList.take i) < 10 ^ 33 from fun i hi => by
  have h2 := dval_lt i (s.data.toList.take i) (by rw [List.length_take, hlen]; omega) (fun b hb => hd b (List.mem_of_mem_take hb))
  exact Nat.lt_of_lt_of_le h2 (Nat.pow_le_pow_right (by omega) (by omega)))
 have hne1 : s.toList.isEmpty = false := by rw [ByteArray.toList_eq]; cases h : s.data.toList with | nil => rw [h] at hlen; simp at hlen; omega | cons a l => rfl
 have hne2 : (s.toList == []) = false := by rw [ByteArray.toList_eq]; cases h : s.data.toList with | nil => rw [h] at hlen; simp at hlen; omega | cons a l => rfl
 obtain ⟨b0, hb0, hb1, hb2⟩ := HB.out 0 h0
 have HB0 := Lib.hid hb0
 have hnz : ¬ b0.toNat = 48 := fun e => hz (by rw [hb0]; exact congrArg some (UInt8.toNat_inj.1 e))
 have HT := Lib.hid (show dval (s.data.toList.take s.size) = dval s.data.toList by rw [List.take_of_length_le (by rw [hlen]; exact Nat.le_refl _)])
 have hq : ((b0.toNat : Int) == 48) = false := by simpa using fun e : (b0.toNat : Int) = 48 => hnz (by omega)
 clear hd hz hb0 hlen
 rcases Nat.lt_or_ge 1 s.size with hs1 | hs1
 all_goals
  go_enter Tryz.func166, Tryz.ntmps166
  go_wp2_with (first | ((with_reducible refine iat 17 ?_); (refine six rfl rfl (i := 0) rfl HB0.out ?_)) | ((with_reducible refine igd ?_); (with_reducible refine skip_op ?_ ?_); (exact rfl)) | ((with_reducible refine iload ?_); first | refine ldbW HM.out 0 rfl rfl rfl ?_ | (refine ldbS HM.out 0 rfl rfl rfl ?_; simp only [List.take, List.drop])) | ((with_reducible refine istore ?_); (first | (refine stbW rfl HM.out 0 rfl rfl rfl rfl rfl rfl ?_; intro W1 HM1; replace HM := Lib.hid HM1; clear HM1; simp only [List.set] at HM) | (refine stbS rfl HM.out 0 rfl rfl rfl rfl rfl rfl ?_; intro W1 HM1; replace HM := Lib.hid HM1; clear HM1; simp only [lss, Nat.reduceAdd] at HM))) | ((with_reducible refine ialloc (d := some 2) ?_); refine alb rfl HM.out ?_; intro g2 W1 HM1; replace HM := Lib.hid HM1; clear HM1) | ((with_reducible refine ialloc ?_); refine alb rfl HM.out ?_; intro g1 W1 HM1; replace HM := Lib.hid HM1; clear HM1))
  go_loopw [24] (fun iv wr => ∃ i : Nat, iv = .int .i64 i ∧ i ≤ s.size ∧ Hid (Mem w wr [.box g2 32 [.int .u64 0, .int .u64 0]])) (fun iv _ => s.size - (intOf iv).toNat)
  case atStart => exact ⟨0, rfl, Nat.zero_le _, HM⟩
  case round =>
   clear HM
   obtain ⟨i, rfl, hi, HM⟩ := hrel
   by_cases hlt : i < s.size
   ·obtain ⟨b, hb, hb3, hb4⟩ := HB.out i hlt
    have hlt3 := Lib.hid (show i + 1 ≤ s.size from hlt)
    have d1 : decide ((i : Int) < s.size) = true := decide_eq_true (by omega)
    have d2 : decide ((b.toNat : Int) < 48) = false := decide_eq_false (by omega)
    have d3 : decide ((57 : Int) < b.toNat) = false := decide_eq_false (by omega)
    have HBi := Lib.hid hb
    clear hb
    go_wp2_with (first | ((with_reducible refine iat 29 ?_); (refine six rfl rfl rfl HBi.out ?_)) | ((with_reducible refine iat 34 ?_); (refine six rfl rfl rfl HBi.out ?_)))
    go_roundw
    case rel => exact ⟨i + 1, by go_num, hlt3.out, HM⟩
    case measure => have := hlt3.out; simp [intOf]; omega
   ·obtain rfl : i = s.size := by omega
    have d1 : decide ((s.size : Int) < s.size) = false := by simp
    go_wp2_with (first | ((with_reducible refine igd ?_); (with_reducible refine skip_op ?_ ?_); (exact rfl)) | ((with_reducible refine iload ?_); first | refine ldbW HM.out 0 rfl rfl rfl ?_ | (refine ldbS HM.out 0 rfl rfl rfl ?_; simp only [List.take, List.drop])) | ((with_reducible refine istore ?_); (first | (refine stbW rfl HM.out 0 rfl rfl rfl rfl rfl rfl ?_; intro W1 HM1; replace HM := Lib.hid HM1; clear HM1; simp only [List.set] at HM) | (refine stbS rfl HM.out 0 rfl rfl rfl rfl rfl rfl ?_; intro W1 HM1; replace HM := Lib.hid HM1; clear HM1; simp only [lss, Nat.reduceAdd] at HM))) | ((with_reducible refine ialloc (d := some 5) ?_); refine alb rfl HM.out ?_; intro g5 W1 HM1; replace HM := Lib.hid HM1; clear HM1) | ((with_reducible refine ialloc ?_); refine alb rfl HM.out ?_; intro g1 W1 HM1; replace HM := Lib.hid HM1; clear HM1))
    go_loopw [41] (fun iv wr => ∃ i hi lo : Nat, iv = .int .i64 i ∧ i ≤ s.size ∧ Hid (W2 (dval (s.data.toList.take i)) hi lo) ∧ Hid (Mem w wr [.box g5 32 [.int .u64 hi, .int .u64 lo], .box g2 32 [.int .u64 0, .int .u64 0]])) (fun iv _ => s.size - (intOf iv).toNat)
    case atStart => exact ⟨0, 0, 0, rfl, Nat.zero_le _, Lib.hid ⟨rfl, by omega, by omega⟩, HM⟩
    case round =>
     clear HM
     obtain ⟨i, hi, lo, rfl, hil, HW, HM⟩ := hrel
     by_cases hlt : i < s.size
     ·obtain ⟨b, hb, hb3, hb4⟩ := HB.out i hlt
      have hlt3 := Lib.hid (show i + 1 ≤ s.size from hlt)
      have d4 : decide ((i : Int) < s.size) = true := decide_eq_true (by omega)
      have hll := HLt.out i hlt
      have hm := HW.out.mul10 (by omega)
      obtain ⟨x1, hx1⟩ : ∃ x, mw1 lo hi 10 0 = x := ⟨_, rfl⟩
      obtain ⟨x0, hx0⟩ : ∃ x, mw0 lo hi 10 0 = x := ⟨_, rfl⟩
      have HMul := Lib.hid (fun W => (show Calls Tryz.prog 175 #[.agg #[.int .u64 hi, .int .u64 lo], .agg #[.int .u64 0, .int .u64 10]] W fun e w' => e = .returned (.agg #[.int .u64 x0, .int .u64 x1, .int .u64 0, .int .u64 0]) ∧ Below W.heap.size W w' from by
       have h := mul_any lo hi 10 0 W HW.out.lo HW.out.hi (by omega) (by omega)
       rw [hm.2.1, hm.2.2, hx0, hx1] at h
       exact h))
      have hm1 := hm.1
      rw [hx0, hx1] at hm1
      have HAdd := Lib.hid (fun W => (show Calls Tryz.prog 188 #[.agg #[.int .u64 x1, .int .u64 x0], .agg #[.int .u64 0, .int .u64 ((b.toNat : Int) - 48)]] W fun e w' => ∃ h2 l2 : Nat, e = .returned (.tuple #[.agg #[.int .u64 h2, .int .u64 l2], .int .i64 0]) ∧ W2 (dval (s.data.toList.take (i + 1))) h2 l2 ∧ Below W.heap.size W w' from by
       have h := wadd_fit _ x1 x0 (b.toNat - 48) W hm1 (by omega) (by omega)
       rw [← HV.out i b hb, show ((b.toNat - 48 : Nat) : Int) = (b.toNat : Int) - 48 by omega] at h
       exact h))
      have HNr := Lib.hid (fun W => narrow_fit x0 x1 W)
      have HBi := Lib.hid hb
      clear hb hm hm1 hx0 hx1 hll
      go_wp2_with (first | (go_at_call 175; (with_reducible refine (HMul.out _).mono ?_); rintro e W1 ⟨rfl, hb⟩; replace HM := Lib.hid (HM.out.next hb); clear hb) | (go_at_call 174; (with_reducible refine (HNr.out _).mono ?_); rintro e W1 ⟨rfl, hb⟩; replace HM := Lib.hid (HM.out.next hb); clear hb) | ((with_reducible refine igd ?_); (with_reducible refine skip_op ?_ ?_); (exact rfl)) | ((with_reducible refine iload ?_); first | refine ldbW HM.out 0 rfl rfl rfl ?_ | refine ldbW HM.out 1 rfl rfl rfl ?_ | refine ldbW HM.out 2 rfl rfl rfl ?_ | ((first | refine ldbS HM.out 0 rfl rfl rfl ?_ | refine ldbS HM.out 1 rfl rfl rfl ?_ | refine ldbS HM.out 2 rfl rfl rfl ?_); simp only [List.take, List.drop])) | ((with_reducible refine istore ?_); (first | ((first | refine stbW rfl HM.out 0 rfl rfl rfl rfl rfl rfl ?_ | refine stbW rfl HM.out 1 rfl rfl rfl rfl rfl rfl ?_ | refine stbW rfl HM.out 2 rfl rfl rfl rfl rfl rfl ?_); intro W1 HM1; replace HM := Lib.hid HM1; clear HM1; simp only [List.set] at HM) | ((first | refine stbS rfl HM.out 0 rfl rfl rfl rfl rfl rfl ?_ | refine stbS rfl HM.out 1 rfl rfl rfl rfl rfl rfl ?_ | refine stbS rfl HM.out 2 rfl rfl rfl rfl rfl rfl ?_); intro W1 HM1; replace HM := Lib.hid HM1; clear HM1; simp only [lss, Nat.reduceAdd] at HM))) | ((with_reducible refine ialloc (d := some 7) ?_); refine alb rfl HM.out ?_; intro g7 W1 HM1; replace HM := Lib.hid HM1; clear HM1) | ((with_reducible refine ialloc ?_); refine alb rfl HM.out ?_; intro g1 W1 HM1; replace HM := Lib.hid HM1; clear HM1))
      refine wp_region_steps2 [(true, 0), (true, 1), (true, 2), (true, 3), (true, 4), (true, 5), (true, 6), (false, 7), (true, 8), (true, 9), (true, 10), (false, 11), (true, 12)] (by kernel_rfl) (by kernel_rfl) rfl (by kernel_rfl) (fun _ _ _ _ _ h => h) HM.out _ (.cons_cons _ (.cons _ (.cons_cons _ .slnil))) ?_
      intro hNE W1 HM1; replace HM := Lib.hid HM1; clear HM1
      have HS0 := Lib.hid (HM.out.sub (.cons_cons _ (.cons _ (.cons_cons _ .slnil))))
      simp only [wpSteps, List.getElem?_cons_succ, List.getElem?_cons_zero]
      (repeat (first | ((with_reducible refine wpQuiet_nil ?_); (try dsimp only)) | ((with_reducible refine qload ?_); first | (refine qdbW HS0.out 0 rfl rfl rfl ?_) | (refine qdbW HS0.out 1 rfl rfl rfl ?_) | (refine qdbS HS0.out 0 rfl rfl rfl ?_; simp only [List.take, List.drop]) | (refine qdbS HS0.out 1 rfl rfl rfl ?_; simp only [List.take, List.drop])) | ((with_reducible refine qat 59 ?_); (refine qsix rfl rfl rfl HBi.out ?_)) | go_big_quiet_step (fail) | quiet_step (fail)))
      go_wp2_with (first | (go_at_call 188; (with_reducible refine (HAdd.out _).mono ?_); rintro e W2 ⟨h2, l2, rfl, hw2, hb⟩; have HW2 := Lib.hid hw2; clear hw2; have HM1 := Lib.hid (HM.out.next hb); clear hb; clear HM; (try clear W1); rename World => W1; have HM := HM1; clear HM1))
      refine ⟨⟨⟨_, HM.out.sub (by repeat (first | exact List.nil_sublist _ | with_reducible refine List.Sublist.cons_cons _ ?_ | refine List.Sublist.cons _ ?_))⟩, rfl⟩, ?_⟩
      (try dsimp only)
      (repeat (first | ((with_reducible refine wpQuiet_nil ?_); (try dsimp only)) | go_big_quiet_step (fail) | quiet_step (fail)))
      go_wp2_with (first | ((with_reducible refine istore ?_); (first | ((first | refine stbW rfl HM.out 0 rfl rfl rfl rfl rfl rfl ?_ | refine stbW rfl HM.out 1 rfl rfl rfl rfl rfl rfl ?_ | refine stbW rfl HM.out 2 rfl rfl rfl rfl rfl rfl ?_); intro W1 HM1; replace HM := Lib.hid HM1; clear HM1; simp only [List.set] at HM) | ((first | refine stbS rfl HM.out 0 rfl rfl rfl rfl rfl rfl ?_ | refine stbS rfl HM.out 1 rfl rfl rfl rfl rfl rfl ?_ | refine stbS rfl HM.out 2 rfl rfl rfl rfl rfl rfl ?_); intro W1 HM1; replace HM := Lib.hid HM1; clear HM1; simp only [lss, Nat.reduceAdd] at HM))))
      refine ⟨⟨⟨_, HM.out.sub (by repeat (first | exact List.nil_sublist _ | with_reducible refine List.Sublist.cons_cons _ ?_ | refine List.Sublist.cons _ ?_))⟩, rfl⟩, ?_⟩
      (try dsimp only)
      (repeat (first | ((with_reducible refine wpQuiet_nil ?_); (try dsimp only)) | go_big_quiet_step (fail) | quiet_step (fail)))
      clear HS0 hNE
      go_wp2_with fail
      go_roundw
      case rel => exact ⟨i + 1, h2, l2, by go_num, hlt3.out, HW2, Lib.hid (HM.out.sub (.cons _ (.refl _)))⟩
      case measure => have := hlt3.out; simp [intOf]; omega
     ·obtain rfl : i = s.size := by omega
      have d4 : decide ((s.size : Int) < s.size) = false := by simp
      go_wp2_with (first | ((with_reducible refine igd ?_); (with_reducible refine skip_op ?_ ?_); (exact rfl)) | ((with_reducible refine iload ?_); first | refine ldbW HM.out 0 rfl rfl rfl ?_ | refine ldbW HM.out 1 rfl rfl rfl ?_ | ((first | refine ldbS HM.out 0 rfl rfl rfl ?_ | refine ldbS HM.out 1 rfl rfl rfl ?_); simp only [List.take, List.drop])) | ((with_reducible refine istore ?_); (first | ((first | refine stbW rfl HM.out 0 rfl rfl rfl rfl rfl rfl ?_ | refine stbW rfl HM.out 1 rfl rfl rfl rfl rfl rfl ?_); intro W1 HM1; replace HM := Lib.hid HM1; clear HM1; simp only [List.set] at HM) | ((first | refine stbS rfl HM.out 0 rfl rfl rfl rfl rfl rfl ?_ | refine stbS rfl HM.out 1 rfl rfl rfl rfl rfl rfl ?_); intro W1 HM1; replace HM := Lib.hid HM1; clear HM1; simp only [lss, Nat.reduceAdd] at HM))) | ((with_reducible refine ialloc ?_); refine alb rfl HM.out ?_; intro g1 W1 HM1; replace HM := Lib.hid HM1; clear HM1))
      exact bodyPost_ret (res_box_tmp rfl HM.out 1 rfl rfl rfl rfl) rfl ⟨hi, lo, rfl, HT.out ▸ HW.out, HM.out.below⟩
end Go.Proofs.YtkackccmhghphaaGreatDoor
