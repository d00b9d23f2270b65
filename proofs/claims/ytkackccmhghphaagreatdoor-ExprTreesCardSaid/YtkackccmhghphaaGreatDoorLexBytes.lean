/- The reader's small functions: a letter, a digit, a blank; Cut, CutPrefix; dec's number. (fast) -/
import Derived.Test.YtkackccmhghphaaGreatDoorLexPlain
import Derived.Test.YtkackccmhghphaaGreatDoorSepA
import Derived.Test.YtkackccmhghphaaGreatDoorDateA
namespace Go.Proofs.YtkackccmhghphaaGreatDoor
open Go.RowKit
set_option linter.unusedVariables false
set_option linter.unusedSimpArgs false
set_option maxRecDepth 100000
instance : StrT Tryz.prog 9 := ⟨Tryz.underlying9⟩

set_option maxHeartbeats 1000000 in
theorem lLetter_any (c : Int) (w : World) :
  Calls Tryz.prog 109 #[.int .u8 c] w fun e w' => e = .returned (.bool (letB c)) ∧ w = w' := by
 rcases byte_split c with h | ⟨h, h'⟩ | ⟨h, h'⟩ | ⟨h, h'⟩ | ⟨h, h'⟩ | h | ⟨h, h'⟩ | ⟨h, h'⟩ | h
 all_goals
  first
   | have HL := Lib.hid (letB_f (c := c) (by omega))
   | have HL := Lib.hid (letB_t (c := c) (by omega))
  try subst h
  go_enter Tryz.func109, Tryz.ntmps109
  go_wp2
  go_ret
  exact ⟨c_ret_bool (by rw [HL.out]; try (first | rfl | (simp; done) | (simp <;> omega))), rfl⟩

set_option maxHeartbeats 1000000 in
theorem lDigit_any (c : Int) (w : World) :
  Calls Tryz.prog 105 #[.int .u8 c] w fun e w' => e = .returned (.bool (decB c)) ∧ w = w' := by
 by_cases h : 48 ≤ c
 ·by_cases h' : c ≤ 57
  ·have HL := Lib.hid (decB_t ⟨h, h'⟩)
   go_enter Tryz.func105, Tryz.ntmps105
   go_wp2
   go_ret
   exact ⟨c_ret_bool HL.out.symm, rfl⟩
  ·have HL := Lib.hid (decB_f (c := c) (by omega))
   go_enter Tryz.func105, Tryz.ntmps105
   go_wp2
   go_ret
   exact ⟨c_ret_bool HL.out.symm, rfl⟩
 ·have HL := Lib.hid (decB_f (c := c) (by omega))
  go_enter Tryz.func105, Tryz.ntmps105
  go_wp2
  go_ret
  exact ⟨c_ret_bool HL.out.symm, rfl⟩

theorem lDg (b : UInt8) (w : World) : Calls Tryz.prog 105 #[.int .u8 b.toNat] w fun e w' => e = .returned (.bool (dg b)) ∧ w = w' := decB_dg b ▸ lDigit_any b.toNat w

set_option maxHeartbeats 1000000 in
theorem lWd (b : UInt8) (w : World) : Calls Tryz.prog 110 #[.int .u8 b.toNat] w fun e w' => e = .returned (.bool (wdB b)) ∧ w = w' := by
 have HL := Lib.hid (fun W => lLetter_any b.toNat W)
 have HD := Lib.hid (fun W => lDg b W)
 have HW := Lib.hid (show wdB b = (letB b.toNat || dg b) from rfl)
 cases hb : letB b.toNat
 all_goals
  rw [hb] at HL HW
  go_enter Tryz.func110, Tryz.ntmps110
  go_wp2_with (first | (go_at_call 109; (with_reducible refine (HL.out _).mono ?_); rintro e W2 ⟨rfl, rfl⟩) | (go_at_call 105; (with_reducible refine (HD.out _).mono ?_); rintro e W2 ⟨rfl, rfl⟩))
  go_ret
  exact ⟨by rw [HW.out]; rfl, rfl⟩

theorem blank_idx (b : UInt8) : decide (0 ≤ Lib.indexByte [32, 9, 10, 13] b) = blankB b := by
 have key : ∀ n : Fin 256, decide (0 ≤ Lib.indexByte [32, 9, 10, 13] (UInt8.ofNat n.val)) = blankB (UInt8.ofNat n.val) := by decide
 have h := key ⟨b.toNat, b.toNat_lt⟩
 simpa using h
set_option maxHeartbeats 1000000 in
theorem lBl (b : UInt8) (w : World) : Calls Tryz.prog 69 #[.int .u8 b.toNat] w fun e w' => e = .returned (.bool (blankB b)) ∧ w = w' := by
 have HI := Lib.hid (show ∀ W, Calls Tryz.prog 70 #[.string ⟨#[32, 9, 10, 13]⟩, .int .u8 b.toNat] W fun e w' => e = .returned (.int .i64 (Lib.indexByte [32, 9, 10, 13] b)) ∧ W = w' from fun W =>
  (Tryz.strings_IndexByte ⟨#[32, 9, 10, 13]⟩ b.toNat W).mono fun e w' ⟨h1, h2⟩ => ⟨by rw [h1]; simp, h2.symm⟩)
 have HB := Lib.hid (blank_idx b)
 obtain ⟨k, hk⟩ : ∃ k, Lib.indexByte [32, 9, 10, 13] b = k := ⟨_, rfl⟩
 rw [hk] at HI HB
 clear hk
 go_enter Tryz.func69, Tryz.ntmps69
 go_wp2_with (first | (go_at_call 70; (with_reducible refine (HI.out _).mono ?_); rintro e W2 ⟨rfl, rfl⟩))
 go_ret
 exact ⟨by rw [← HB.out]; rfl, rfl⟩

/-! Cut at a point, and nothing to cut ahead. -/
theorem slCut_none (s : ByteArray) (w : World) (h : Lib.indexByte s.data.toList 46 = -1) :
  Calls Tryz.prog 180 #[.string s, .string ⟨#[46]⟩] w fun e w' => e = .returned (.tuple #[.string s, .string ⟨#[]⟩, .bool false]) ∧ w = w' := by
 have HI := Lib.hid (show ∀ W, Calls Tryz.prog 197 #[.string s, .string ⟨#[46]⟩] W fun e w' => e = .returned (.int .i64 (-1)) ∧ W = w' from fun W =>
  (Tryz.stringslite_Index_one s 46 W).mono fun e w' ⟨h1, h2⟩ => ⟨by rw [h1, h], h2.symm⟩)
 clear h
 go_enter Tryz.func180, Tryz.ntmps180
 go_wp2_with (first | (go_at_call 197; (with_reducible refine (HI.out _).mono ?_); rintro e W2 ⟨rfl, rfl⟩))
 go_ret3
 exact ⟨rfl, rfl⟩
set_option maxHeartbeats 1000000 in
theorem slCut_some (s : ByteArray) (i : Nat) (w : World) (h : Lib.indexByte s.data.toList 46 = i) (hi : i < s.size) (hs : s.size ≤ 9223372036854775806) :
  Calls Tryz.prog 180 #[.string s, .string ⟨#[46]⟩] w fun e w' => e = .returned (.tuple #[.string (s.extract 0 i), .string (s.extract (i + 1) s.size), .bool true]) ∧ Below w.heap.size w w' := by
 have HM := Lib.hid (Mem.start w)
 have HI := Lib.hid (show ∀ W, Calls Tryz.prog 197 #[.string s, .string ⟨#[46]⟩] W fun e w' => e = .returned (.int .i64 i) ∧ W = w' from fun W =>
  (Tryz.stringslite_Index_one s 46 W).mono fun e w' ⟨h1, h2⟩ => ⟨by rw [h1, h], h2.symm⟩)
 clear h
 have d1 : decide ((0 : Int) ≤ i) = true := decide_eq_true (by omega)
 go_enter Tryz.func180, Tryz.ntmps180
 go_wp2_with (first | (go_at_call 197; (with_reducible refine (HI.out _).mono ?_); rintro e W2 ⟨rfl, rfl⟩))
 refine wp_region_mem (by kernel_rfl) (by kernel_rfl) HM.out ?_; intro hNE; (repeat (any_goals (first | ((with_reducible refine qgd ?_); (with_reducible refine skip_q ?_ ?_ ?_); (exact rfl); (rotate_left; (exact (hNE.elim fun p => ⟨p.W, p, rfl⟩)))) | ((with_reducible refine qnilCheck ?_); (refine qnil rfl ?_)) | ((with_reducible refine qat 15 ?_); (refine qsslh rfl rfl rfl (Nat.le_of_lt hi) ?_)) | ((with_reducible refine qat 21 ?_); (refine qsslf rfl rfl (i := i + 1) (by simp) hi ?_)) | go_big_quiet_step (fail) | quiet_step (fail)))); clear hNE; refine wpQuiet_nil ?_; intro W1 HM1; replace HM := Lib.hid HM1; clear HM1
 go_wp2_with fail
 go_ret3
 exact ⟨rfl, HM.out.below⟩
theorem cut_none (s : ByteArray) (w : World) (h : Lib.indexByte s.data.toList 46 = -1) :
  Calls Tryz.prog 162 #[.string s, .string ⟨#[46]⟩] w fun e w' => e = .returned (.tuple #[.string s, .string ⟨#[]⟩, .bool false]) ∧ Below w.heap.size w w' := by
 have HM := Lib.hid (Mem.start w)
 have HI := Lib.hid (fun W => slCut_none s W h)
 go_enter Tryz.func162, Tryz.ntmps162
 go_wp2_with (first | (go_at_call 180; (with_reducible refine (HI.out _).mono ?_); rintro e W2 ⟨rfl, rfl⟩))
 go_ret3
 exact ⟨rfl, HM.out.below⟩
theorem cut_some (s : ByteArray) (i : Nat) (w : World) (h : Lib.indexByte s.data.toList 46 = i) (hi : i < s.size) (hs : s.size ≤ 9223372036854775806) :
  Calls Tryz.prog 162 #[.string s, .string ⟨#[46]⟩] w fun e w' => e = .returned (.tuple #[.string (s.extract 0 i), .string (s.extract (i + 1) s.size), .bool true]) ∧ Below w.heap.size w w' := by
 have HM := Lib.hid (Mem.start w)
 have HI := Lib.hid (fun W => slCut_some s i W h hi hs)
 clear h
 go_enter Tryz.func162, Tryz.ntmps162
 go_wp2_with (first | (go_at_call 180; (with_reducible refine (HI.out _).mono ?_); rintro e W1 ⟨rfl, hb⟩; replace HM := Lib.hid (HM.out.next hb); clear hb))
 go_ret3
 exact ⟨rfl, HM.out.below⟩
theorem cutPre_no (s : ByteArray) (w : World) (h : Lib.hasPrefix s.data.toList [45] = false) :
  Calls Tryz.prog 161 #[.string s, .string ⟨#[45]⟩] w fun e w' => e = .returned (.tuple #[.string s, .bool false]) ∧ Below w.heap.size w w' := by
 have HM := Lib.hid (Mem.start w)
 have HP := Lib.hid (show ∀ W, Calls Tryz.prog 167 #[.string s, .string ⟨#[45]⟩] W fun e w' => e = .returned (.bool false) ∧ W = w' from fun W =>
  (Tryz.stringslite_HasPrefix s ⟨#[45]⟩ W).mono fun e w' ⟨h1, h2⟩ => ⟨by rw [h1]; exact congrArg _ (congrArg _ h), h2.symm⟩)
 have HI := Lib.hid (show ∀ W, Calls Tryz.prog 179 #[.string s, .string ⟨#[45]⟩] W fun e w' => e = .returned (.tuple #[.string s, .bool false]) ∧ W = w' from fun W => by
  go_enter Tryz.func179, Tryz.ntmps179
  go_wp2_with (first | (go_at_call 167; (with_reducible refine (HP.out _).mono ?_); rintro e W2 ⟨rfl, rfl⟩))
  go_ret2
  exact ⟨rfl, rfl⟩)
 clear h
 go_enter Tryz.func161, Tryz.ntmps161
 go_wp2_with (first | (go_at_call 179; (with_reducible refine (HI.out _).mono ?_); rintro e W2 ⟨rfl, rfl⟩))
 go_ret2
 exact ⟨rfl, HM.out.below⟩
theorem number_yes (s : ByteArray) (w : World) (hd : Cal.digs s.data.toList = true) (h0 : s.data.toList ≠ []) (hs : s.size ≤ 9223372036854775807) :
  Calls Tryz.prog 163 #[.string s] w fun e w' => e = .returned (.bool true) ∧ Below w.heap.size w w' := by
 have HM := Lib.hid (Mem.start w)
 have HT := Lib.hid (show ∀ W, Calls Tryz.prog 168 #[.string s, .string ⟨#[48, 49, 50, 51, 52, 53, 54, 55, 56, 57]⟩] W fun e w' => e = .returned (.string ⟨#[]⟩) ∧ Below W.heap.size W w' from fun W =>
  (dtrim_any s W hs).mono fun e w' ⟨h1, h2⟩ => ⟨by rw [h1, Cal.trim_digs hd], h2⟩)
 have hne1 : s.toList.isEmpty = false := by rw [ByteArray.toList_eq]; simpa using h0
 have hne2 : (s.toList == []) = false := by rw [ByteArray.toList_eq]; simpa using h0
 clear hd h0
 go_enter Tryz.func163, Tryz.ntmps163
 go_wp2_with (first | (go_at_call 168; (with_reducible refine (HT.out _).mono ?_); rintro e W1 ⟨rfl, hb⟩; replace HM := Lib.hid (HM.out.next hb); clear hb))
 go_ret
 exact ⟨rfl, HM.out.below⟩
end Go.Proofs.YtkackccmhghphaaGreatDoor
