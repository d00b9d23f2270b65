/- The reference's ToLong, To. (fast) -/
import Derived.Test.YtinkdemjjnfphaaGreatDoorRefDecA
import Derived.Test.YtinkdemjjnfphaaGreatDoorRefWords
import Derived.Test.YtinkdemjjnfphaaGreatDoorSepSeq3
namespace Go.Proofs.YtinkdemjjnfphaaGreatDoor
open Go.RowKit
set_option linter.unusedVariables false
set_option linter.unusedSimpArgs false
set_option maxRecDepth 100000

theorem dgt_mono (n : Nat) : ∀ m, m ≤ n → (dgt m).length ≤ (dgt n).length := by
  induction n using Nat.strongRecOn with
  | ind n ih =>
    intro m hm
    by_cases h0 : m = 0
    · subst h0; rw [dgt_zero]; exact Nat.zero_le _
    · rw [dgt_pos h0, dgt_pos (n := n) (by omega), List.length_cons, List.length_cons]
      have := ih (n / 10) (by omega) (m / 10) (by omega)
      omega
/-- Four words are enough. -/
def fitsL (n : Nat) : Bool := decide (n / 2 ^ 256 = 0)
theorem fitsL_len (n : Nat) : (((dgt (n / 2 ^ 256)).length : Int) == 0) = fitsL n := by
  unfold fitsL
  generalize n / 2 ^ 256 = m
  by_cases h : m = 0
  · subst h; rw [dgt_zero]; rfl
  · rw [dgt_pos h, List.length_cons, decide_eq_false h]
    simp; omega
/-- The words as they lie. -/
def wV (n k : Nat) : List Value := [.int .u64 (wd n k 0 : Nat), .int .u64 (wd n k 1 : Nat), .int .u64 (wd n k 2 : Nat), .int .u64 (wd n k 3 : Nat)]
theorem shl_le {b r : Nat} (hb : b ≤ 1) (hr : r < 64) : b * 2 ^ r < 18446744073709551616 := by
  have h1 : 2 ^ r ≤ 2 ^ 63 := Nat.pow_le_pow_right (by omega) (by omega)
  have h2 : b * 2 ^ r ≤ 1 * 2 ^ r := Nat.mul_le_mul_right _ hb
  omega

theorem word_step {n k q r b : Nat} (hk : k = 64 * q + r) (hr : r < 64) (hb : b = n / 2 ^ k % 2) : bits .or .u64 (wd n k q : Nat) (IntKind.u64.wrap ((b : Int) * 2 ^ r)) = (wd n (k + 1) q : Nat) := by
  have hb1 : b ≤ 1 := by omega
  have hs := shl_le hb1 hr
  rw [wd_at hk hr, ← hb, ← bits_or (wd_lt n k q) hs]
  congr 1
  rw [show ((b : Int) * 2 ^ r) = ((b * 2 ^ r : Nat) : Int) by push_cast; rfl]
  generalize b * 2 ^ r = x at hs
  simp [IntKind.wrap, IntKind.signed, IntKind.bits]
  omega
theorem wV_step {n k q r b : Nat} (hk : k = 64 * q + r) (hr : r < 64) (hb : b = n / 2 ^ k % 2) (hq : q < 4) : wV n (k + 1) = (wV n k).set q (.int .u64 (bits .or .u64 (wd n k q : Nat) (IntKind.u64.wrap ((b : Int) * 2 ^ r)))) := by
  rw [word_step hk hr hb]
  have ho : ∀ j, j ≠ q → wd n (k + 1) j = wd n k j := fun j hj => by
    rcases Nat.lt_or_gt_of_ne hj with h | h
    · exact wd_below (by omega)
    · exact wd_above (by omega)
  unfold wV
  match q, hq with
  | 0, _ => rw [ho 1 (by omega), ho 2 (by omega), ho 3 (by omega)]; rfl
  | 1, _ => rw [ho 0 (by omega), ho 2 (by omega), ho 3 (by omega)]; rfl
  | 2, _ => rw [ho 0 (by omega), ho 1 (by omega), ho 3 (by omega)]; rfl
  | 3, _ => rw [ho 0 (by omega), ho 1 (by omega), ho 2 (by omega)]; rfl

set_option maxHeartbeats 8000000 in
theorem rToLong (p : Option Addr) (c m n : Nat) (w : World) (hm : (dgt n).length = m) (hS : Sl w p (nV (dgt n))) (hb : m ≤ 1000) :
    Calls Tryz.prog 75 #[.slice p m c] w fun e w' => e = .returned (.tuple #[.agg (wV n 256).toArray, .bool (fitsL n)]) ∧ Below w.heap.size w w' := by
  have HM := Lib.hid (Mem.start w)
  have HLe := Lib.hid (show ∀ k, (dgt (n / 2 ^ k)).length ≤ 1000 from fun k => Nat.le_trans (dgt_mono n _ (Nat.div_le_self _ _)) (by omega))
  have HF := Lib.hid (fitsL_len n)
  have h0 : m = (dgt (n / 2 ^ 0)).length := by rw [← hm]; simp
  have hS0 : Sl w p (nV (dgt (n / 2 ^ 0))) := by simpa using hS
  have HS := Lib.hid hS0
  have HH := Lib.hid (fun (k : Nat) (p : Option Addr) (c : Nat) W h => rHalf p c (dgt (n / 2 ^ k)).length (n / 2 ^ k) W rfl h (HLe.out k))
  have HD := Lib.hid (show ∀ k, n / 2 ^ k / 2 = n / 2 ^ (k + 1) from fun k => by rw [Nat.div_div_eq_div_mul, Nat.pow_succ])
  obtain ⟨F, hF⟩ : ∃ F : Nat → List Nat, ∀ k, F k = dgt (n / 2 ^ k) := ⟨_, fun k => rfl⟩
  obtain ⟨B, hB⟩ : ∃ B : Nat → Nat, ∀ k, B k = n / 2 ^ k % 2 := ⟨_, fun k => rfl⟩
  have HB1 := Lib.hid (show ∀ k, B k ≤ 1 from fun k => by rw [hB]; omega)
  have HB := Lib.hid hB
  simp only [HD.out, ← hF, ← hB] at HH
  simp only [← hF] at HLe HS h0 HF
  have HW0 := Lib.hid (show wV n 0 = [.int .u64 0, .int .u64 0, .int .u64 0, .int .u64 0] by unfold wV; simp only [wd_nil]; rfl)
  clear hm hS hS0 hF hB
  subst h0
  go_enter Tryz.func75, Tryz.ntmps75
  go_wp2_with (first | ((with_reducible refine iload ?_); first | refine ldb1 HM.out 0 rfl rfl rfl ?_ | refine ldb1 HM.out 1 rfl rfl rfl ?_ | refine ldbW HM.out 0 rfl rfl rfl ?_ | refine ldbW HM.out 1 rfl rfl rfl ?_ | ((first | refine ldbS HM.out 0 rfl rfl rfl ?_ | refine ldbS HM.out 1 rfl rfl rfl ?_); simp only [List.take, List.drop])) | ((with_reducible refine istore ?_); (first | ((first | refine stb1 (v := .int _ _) rfl HM.out 0 rfl rfl rfl rfl rfl ?_ | refine stb1 (v := .int _ _) rfl HM.out 1 rfl rfl rfl rfl rfl ?_ | refine stbW rfl HM.out 0 rfl rfl rfl rfl rfl rfl ?_ | refine stbW rfl HM.out 1 rfl rfl rfl rfl rfl rfl ?_); intro W1 HM1; replace HM := Lib.hid HM1; clear HM1; simp only [List.set] at HM) | ((first | refine stbS rfl HM.out 0 rfl rfl rfl rfl rfl rfl ?_ | refine stbS rfl HM.out 1 rfl rfl rfl rfl rfl rfl ?_); intro W1 HM1; replace HM := Lib.hid HM1; clear HM1; simp only [lss, Nat.reduceAdd] at HM))) | ((with_reducible refine ialloc (d := some 2) ?_); refine alb rfl HM.out ?_; intro g2 W1 HM1; replace HM := Lib.hid HM1; clear HM1) | ((with_reducible refine ialloc (d := some 4) ?_); refine alb rfl HM.out ?_; intro g4 W1 HM1; replace HM := Lib.hid HM1; clear HM1))
  go_loopw [5, 0] (fun iv dv wr => ∃ (k : Nat) (p : Option Addr) (c : Nat), iv = .int .i64 k ∧ dv = .slice p (F k).length c ∧ k ≤ 256 ∧ Hid (Sl wr p (nV (F k))) ∧ Hid (Mem w wr [.box g4 97 (wV n k), .box g2 97 [.int .u64 0, .int .u64 0, .int .u64 0, .int .u64 0]])) (fun iv _ _ => 256 - (intOf iv).toNat)
  case atStart => exact ⟨0, p, c, rfl, rfl, by omega, Lib.hid (HM.out.sl HS.out), by rw [HW0.out]; exact HM⟩
  case round =>
    clear HM HS
    obtain ⟨k, p, c, rfl, rfl, hk, HS, HM⟩ := hrel
    by_cases hlt : k < 256
    · have d1 : decide ((k : Int) < 256) = true := decide_eq_true (by omega)
      have d1' : decide (k < 256) = true := decide_eq_true hlt
      obtain ⟨r, hr⟩ : ∃ r, k % 64 = r := ⟨_, rfl⟩
      have hr64 : r < 64 := by omega
      have hb1 := HB1.out k
      have hq : k / 64 = 0 ∨ k / 64 = 1 ∨ k / 64 = 2 ∨ k / 64 = 3 := by omega
      have hrem : (k : Int) % 64 = (r : Int) := by omega
      rcases hq with hq | hq | hq | hq
      all_goals
        have HST := Lib.hid (wV_step (n := n) (show k = 64 * (k / 64) + r by omega) hr64 (HB.out k) (by omega))
        rw [hq] at HST
        go_wp2_with (first | (go_at_call 92; (with_reducible refine (HH.out k _ _ _ HS.out).mono ?_); rintro e W2 ⟨p2, c2, rfl, hM2⟩; have HS2 := Lib.hid (row_sl (hM2.get (k := 0) rfl)); have HM1 := Lib.hid (HM.out.comp2 hM2); clear HM HS hM2; rename World => W1; have HM := HM1; have HS := HS2; clear HM1 HS2))
        have hdiv : (k : Int) / 64 = ((k / 64 : Nat) : Int) := by push_cast; rfl
        rw [hq] at hdiv
        simp only [List.cons_append, List.nil_append] at HM
        unfold wV at HM
        refine wp_region_mem3 13 [(0, 0), (0, 1), (0, 2), (0, 3), (0, 4), (0, 5), (0, 6), (0, 7), (0, 8), (0, 9), (0, 10), (0, 11), (0, 12), (3, 13)] (by kernel_rfl) (by kernel_rfl) rfl (by kernel_rfl) (fun _ _ _ _ _ h => h) HM.out _ (.cons_cons _ (.cons_cons _ (List.nil_sublist _))) ?_
        intro hNE W1 HM1; replace HM := Lib.hid HM1; clear HM1
        have HS0 := Lib.hid (HM.out.sub (.cons_cons _ (.cons_cons _ (List.nil_sublist _))))
        simp only [wpSteps3, List.getElem?_cons_succ, List.getElem?_cons_zero]
        (repeat (first | ((with_reducible refine wpQuiet_nil ?_); (try dsimp only)) | ((with_reducible refine qload ?_); first | (refine qdb1 HS0.out 0 rfl rfl rfl ?_) | (refine qdb1 HS0.out 1 rfl rfl rfl ?_)) | go_big_quiet_step (fail) | quiet_step (fail)))
        go_wp2_with (first | ((with_reducible refine istore ?_); ((first | refine stb1 (v := .int _ _) rfl HM.out 0 rfl rfl rfl rfl rfl ?_ | refine stb1 (v := .int _ _) rfl HM.out 1 rfl rfl rfl rfl rfl ?_ | refine stb1 (v := .int _ _) rfl HM.out 2 rfl rfl rfl rfl rfl ?_); intro W1 HM1; replace HM := Lib.hid HM1; clear HM1; simp only [List.set] at HM)))
        refine ⟨trivial, ?_⟩
        (try dsimp only)
        clear HS0 hNE
        go_wp2_with fail
        go_roundw
        case rel => exact ⟨k + 1, p2, c2, by go_num, rfl, hlt, Lib.hid (row_sl (HM.out.get (k := 0) rfl)), Lib.hid (by rw [HST.out]; exact HM.out.sub (.cons _ (.refl _)))⟩
        case measure => simp [intOf]; omega
    · obtain rfl : k = 256 := by omega
      go_wp2_with (first | ((with_reducible refine iload ?_); first | refine ldb1 HM.out 0 rfl rfl rfl ?_ | refine ldb1 HM.out 1 rfl rfl rfl ?_ | refine ldbW HM.out 0 rfl rfl rfl ?_ | refine ldbW HM.out 1 rfl rfl rfl ?_ | ((first | refine ldbS HM.out 0 rfl rfl rfl ?_ | refine ldbS HM.out 1 rfl rfl rfl ?_); simp only [List.take, List.drop])) | ((with_reducible refine istore ?_); (first | ((first | refine stb1 (v := .int _ _) rfl HM.out 0 rfl rfl rfl rfl rfl ?_ | refine stb1 (v := .int _ _) rfl HM.out 1 rfl rfl rfl rfl rfl ?_ | refine stbW rfl HM.out 0 rfl rfl rfl rfl rfl rfl ?_ | refine stbW rfl HM.out 1 rfl rfl rfl rfl rfl rfl ?_); intro W1 HM1; replace HM := Lib.hid HM1; clear HM1; simp only [List.set] at HM) | ((first | refine stbS rfl HM.out 0 rfl rfl rfl rfl rfl rfl ?_ | refine stbS rfl HM.out 1 rfl rfl rfl rfl rfl rfl ?_); intro W1 HM1; replace HM := Lib.hid HM1; clear HM1; simp only [lss, Nat.reduceAdd] at HM))) | ((with_reducible refine ialloc ?_); refine alb rfl HM.out ?_; intro g1 W1 HM1; replace HM := Lib.hid HM1; clear HM1))
      rw [HF.out]
      exact bodyPost_ret (res_box_tmp rfl HM.out 1 rfl rfl rfl rfl) rfl ⟨rfl, HM.out.below⟩
end Go.Proofs.YtinkdemjjnfphaaGreatDoor
