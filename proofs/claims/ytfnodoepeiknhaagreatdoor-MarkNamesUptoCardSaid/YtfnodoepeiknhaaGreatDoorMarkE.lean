/- mark's reader: take. (short) -/
import Derived.Test.YtfnodoepeiknhaaGreatDoorMarkB
namespace Go.Proofs.YtfnodoepeiknhaaGreatDoor
open Go.RowKit
set_option linter.unusedVariables false
set_option linter.unusedSimpArgs false
set_option maxRecDepth 100000

set_option maxHeartbeats 4000000 in
theorem mtake_yes (w0 W : World) (R : Nat) (T : List Res) (S t : ByteArray) (i : Nat) (ov : Value) (lg dp : Bool) (HM0 : Mem w0 W (.box R 72 [.string S, .int .i64 i, ov, .bool lg, .bool dp] :: T)) (hi : i ≤ S.size) (hs : S.size ≤ 1099511627776) (ht : Lib.hasPrefix (S.data.toList.drop i) t.data.toList = true) :
    Calls Tryz.prog 62 #[.pointer (some ⟨R, 0, none⟩), .string t] W fun e w' => e = .returned (.bool true) ∧ Mem w0 w' (.box R 72 [.string S, .int .i64 (i + t.size : Nat), ov, .bool lg, .bool dp] :: T) := by
  have HM := Lib.hid HM0
  clear HM0
  obtain ⟨X, hX⟩ : ∃ X, S.extract i S.size = X := ⟨_, rfl⟩
  have hXl : X.data.toList = S.data.toList.drop i := by rw [← hX, Lib.extract_data]; exact List.take_of_length_le (by simp)
  have HP := Lib.hid (fun W => by have := Tryz.strings_HasPrefix X t W; rw [hXl, ht] at this; exact (this : Calls Tryz.prog 94 #[.string X, .string t] W fun e w' => e = .returned (.bool true) ∧ w' = W))
  have HP2 := Lib.hid (fun W => (HP.out W).mono fun e w' (h : e = .returned (.bool true) ∧ w' = W) => (⟨h.1, h.2.symm⟩ : e = .returned (.bool true) ∧ W = w'))
  have hts : i + t.size ≤ S.size := by
    have h1 : t.data.toList.isPrefixOf (S.data.toList.drop i) = true := ht
    have := (List.isPrefixOf_iff_prefix.1 h1).length_le
    rw [List.length_drop, size_list, size_list] at this
    omega
  have HX := Lib.hid hX
  clear hX hXl ht HP
  go_enter Tryz.func62, Tryz.ntmps62
  go_wp2_with fail
  refine wp_region_steps2 [(true, 0), (true, 1), (true, 2), (true, 3), (true, 4), (true, 5), (true, 6), (true, 7), (true, 8), (true, 9), (false, 10)] (by kernel_rfl) (by kernel_rfl) rfl (by kernel_rfl) (fun _ _ _ _ _ h => h) HM.out _ (.cons_cons _ (List.nil_sublist _)) ?_
  intro hNE W1 HM1; replace HM := Lib.hid HM1; clear HM1
  have HS0 := Lib.hid (HM.out.sub (.cons_cons _ (List.nil_sublist _)))
  simp only [wpSteps, List.getElem?_cons_succ, List.getElem?_cons_zero]
  (repeat (first | ((with_reducible refine wpQuiet_nil ?_); (try dsimp only)) | refine mQ ?_ | ((with_reducible refine qat 13 ?_); (refine qsslf rfl rfl (i := i) rfl hi ?_; rw [HX.out])) | go_big_quiet_step (fail) | quiet_step (fail)))
  go_wp2_with (first | (go_at_call 94; with_reducible refine cQ (HP2.out _) ?_))
  refine ⟨⟨⟨_, HM.out.sub (by repeat (first | exact List.nil_sublist _ | with_reducible refine List.Sublist.cons_cons _ ?_ | refine List.Sublist.cons _ ?_))⟩, rfl⟩, ?_⟩
  (try dsimp only)
  clear HS0 hNE
  go_wp2_with (first | refine mP ?_ | (refine mS ?_; clear HM; intro W1 HM))
  go_ret
  exact ⟨rfl, HM.out⟩

set_option maxHeartbeats 4000000 in
theorem mtake_no (w0 W : World) (R : Nat) (T : List Res) (S t : ByteArray) (i : Nat) (ov : Value) (lg dp : Bool) (HM0 : Mem w0 W (.box R 72 [.string S, .int .i64 i, ov, .bool lg, .bool dp] :: T)) (hi : i ≤ S.size) (hs : S.size ≤ 1099511627776) (ht : Lib.hasPrefix (S.data.toList.drop i) t.data.toList = false) :
    Calls Tryz.prog 62 #[.pointer (some ⟨R, 0, none⟩), .string t] W fun e w' => e = .returned (.bool false) ∧ Mem w0 w' (.box R 72 [.string S, .int .i64 i, ov, .bool lg, .bool dp] :: T) := by
  have HM := Lib.hid HM0
  clear HM0
  obtain ⟨X, hX⟩ : ∃ X, S.extract i S.size = X := ⟨_, rfl⟩
  have hXl : X.data.toList = S.data.toList.drop i := by rw [← hX, Lib.extract_data]; exact List.take_of_length_le (by simp)
  have HP := Lib.hid (fun W => by have := Tryz.strings_HasPrefix X t W; rw [hXl, ht] at this; exact (this : Calls Tryz.prog 94 #[.string X, .string t] W fun e w' => e = .returned (.bool false) ∧ w' = W))
  have HP2 := Lib.hid (fun W => (HP.out W).mono fun e w' (h : e = .returned (.bool false) ∧ w' = W) => (⟨h.1, h.2.symm⟩ : e = .returned (.bool false) ∧ W = w'))
  have HX := Lib.hid hX
  clear hX hXl ht HP
  go_enter Tryz.func62, Tryz.ntmps62
  go_wp2_with fail
  refine wp_region_steps2 [(true, 0), (true, 1), (true, 2), (true, 3), (true, 4), (true, 5), (true, 6), (true, 7), (true, 8), (true, 9), (false, 10)] (by kernel_rfl) (by kernel_rfl) rfl (by kernel_rfl) (fun _ _ _ _ _ h => h) HM.out _ (.cons_cons _ (List.nil_sublist _)) ?_
  intro hNE W1 HM1; replace HM := Lib.hid HM1; clear HM1
  have HS0 := Lib.hid (HM.out.sub (.cons_cons _ (List.nil_sublist _)))
  simp only [wpSteps, List.getElem?_cons_succ, List.getElem?_cons_zero]
  (repeat (first | ((with_reducible refine wpQuiet_nil ?_); (try dsimp only)) | refine mQ ?_ | ((with_reducible refine qat 13 ?_); (refine qsslf rfl rfl (i := i) rfl hi ?_; rw [HX.out])) | go_big_quiet_step (fail) | quiet_step (fail)))
  go_wp2_with (first | (go_at_call 94; with_reducible refine cQ (HP2.out _) ?_))
  refine ⟨⟨⟨_, HM.out.sub (by repeat (first | exact List.nil_sublist _ | with_reducible refine List.Sublist.cons_cons _ ?_ | refine List.Sublist.cons _ ?_))⟩, rfl⟩, ?_⟩
  (try dsimp only)
  clear HS0 hNE
  go_wp2_with fail
  go_ret
  exact ⟨rfl, HM.out⟩

end Go.Proofs.YtfnodoepeiknhaaGreatDoor
