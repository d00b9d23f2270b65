/- mark's reader: until. (short) -/
import Derived.Test.YtfnodoepeiknhaaGreatDoorMarkB
namespace Go.Proofs.YtfnodoepeiknhaaGreatDoor
open Go.RowKit
set_option linter.unusedVariables false
set_option linter.unusedSimpArgs false
set_option maxRecDepth 100000

set_option maxHeartbeats 4000000 in
theorem muntil_at (w0 W : World) (R : Nat) (T : List Res) (S : ByteArray) (c : UInt8) (i : Nat) (ov : Value) (lg dp : Bool) (m t : List UInt8) (HM0 : Mem w0 W (.box R 72 [.string S, .int .i64 i, ov, .bool lg, .bool dp] :: T)) (hi : i ≤ S.size) (hs : S.size ≤ 1099511627776) (hc : cutL c (S.data.toList.drop i) = some (m, t)) :
    Calls Tryz.prog 64 #[.pointer (some ⟨R, 0, none⟩), .string ⟨#[c]⟩] W fun e w' => e = .returned (.tuple #[.string (S.extract i (i + m.length)), .bool true]) ∧ Mem w0 w' (.box R 72 [.string S, .int .i64 (i + (m.length + 1) : Nat), ov, .bool lg, .bool dp] :: T) := by
  have HM := Lib.hid HM0
  clear HM0
  obtain ⟨X, hX⟩ : ∃ X, S.extract i S.size = X := ⟨_, rfl⟩
  have hXl : X.data.toList = S.data.toList.drop i := by rw [← hX, Lib.extract_data]; exact List.take_of_length_le (by simp)
  have hI : Lib.indexByte X.data.toList c = (m.length : Int) := by rw [hXl, idx_cut, hc]
  have HP := Lib.hid (fun W => (by have := Tryz.strings_Index_one X c W; rw [hI] at this; exact this.mono fun e w' ⟨h1, h2⟩ => (⟨h1, h2.symm⟩ : e = .returned (.int .i64 (m.length : Int)) ∧ W = w') : Calls Tryz.prog 52 #[.string X, .string ⟨#[c]⟩] W fun e w' => e = .returned (.int .i64 (m.length : Int)) ∧ W = w'))
  have hle : i + m.length + 1 ≤ S.size := by
    obtain ⟨e, _⟩ := cutL_some hc
    have := congrArg List.length e
    rw [List.length_drop, size_list] at this
    simp at this
    omega
  have HX := Lib.hid hX
  have hl2 : i + m.length ≤ S.size := by omega
  have hl3 : i ≤ i + m.length := by omega
  generalize m.length = n at *
  obtain ⟨Y, hY⟩ : ∃ Y, S.extract i (i + n) = Y := ⟨_, rfl⟩
  rw [hY]
  have HY := Lib.hid hY
  clear hX hXl hc hI hY
  go_enter Tryz.func64, Tryz.ntmps64
  go_wp2_with fail
  refine wp_region_steps2 [(true, 0), (true, 1), (true, 2), (true, 3), (true, 4), (true, 5), (true, 6), (true, 7), (true, 8), (true, 9), (false, 10), (true, 11)] (by kernel_rfl) (by kernel_rfl) rfl (by kernel_rfl) (fun _ _ _ _ _ h => h) HM.out _ (.cons_cons _ (List.nil_sublist _)) ?_
  intro hNE W1 HM1; replace HM := Lib.hid HM1; clear HM1
  have HS0 := Lib.hid (HM.out.sub (.cons_cons _ (List.nil_sublist _)))
  simp only [wpSteps, List.getElem?_cons_succ, List.getElem?_cons_zero]
  (repeat (first | ((with_reducible refine wpQuiet_nil ?_); (try dsimp only)) | refine mQ ?_ | ((with_reducible refine qat 16 ?_); (refine qsslf rfl rfl (i := i) rfl hi ?_; rw [HX.out])) | go_big_quiet_step (fail) | quiet_step (fail)))
  go_wp2_with (first | (go_at_call 52; with_reducible refine cQ (HP.out _) ?_))
  refine ⟨⟨⟨_, HM.out.sub (by repeat (first | exact List.nil_sublist _ | with_reducible refine List.Sublist.cons_cons _ ?_ | refine List.Sublist.cons _ ?_))⟩, rfl⟩, ?_⟩
  (try dsimp only)
  (repeat (first | ((with_reducible refine wpQuiet_nil ?_); (try dsimp only)) | refine mQ ?_ | go_big_quiet_step (fail) | quiet_step (fail)))
  clear HS0 hNE
  go_wp2_with fail
  refine wp_region_mem (by kernel_rfl) (by kernel_rfl) HM.out ?_; intro hNE; (repeat (any_goals (first | refine mQ ?_ | ((with_reducible refine qat 35 ?_); (refine qssls rfl rfl (i := i) rfl rfl (j := i + n) (by simp) hl3 hl2 ?_; rw [HY.out])) | go_big_quiet_step (fail) | quiet_step (fail)))); clear hNE; refine wpQuiet_nil ?_; intro W1 HM1; replace HM := Lib.hid HM1; clear HM1
  go_wp2_with (first | refine mP ?_ | (refine mS ?_; clear HM; intro W1 HM))
  go_ret2
  exact ⟨rfl, HM.out⟩
end Go.Proofs.YtfnodoepeiknhaaGreatDoor
