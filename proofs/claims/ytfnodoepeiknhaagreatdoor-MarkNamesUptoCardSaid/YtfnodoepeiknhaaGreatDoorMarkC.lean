/- mark's reader: blanks. (short) -/
import Derived.Test.YtfnodoepeiknhaaGreatDoorMarkB
namespace Go.Proofs.YtfnodoepeiknhaaGreatDoor
open Go.RowKit
set_option linter.unusedVariables false
set_option linter.unusedSimpArgs false
set_option maxRecDepth 100000

set_option maxHeartbeats 4000000 in
theorem mblanks_any (w0 W : World) (R : Nat) (T : List Res) (S : ByteArray) (i : Nat) (ov : Value) (lg dp : Bool) (HM0 : Mem w0 W (.box R 72 [.string S, .int .i64 i, ov, .bool lg, .bool dp] :: T)) (hi : i ≤ S.size) (hs : S.size ≤ 1099511627776) :
    Calls Tryz.prog 63 #[.pointer (some ⟨R, 0, none⟩)] W fun e w' => e = .returned (.bool (decide (spE blkB S.data.toList i > i))) ∧ Mem w0 w' (.box R 72 [.string S, .int .i64 (spE blkB S.data.toList i : Nat), ov, .bool lg, .bool dp] :: T) := by
  have HM := Lib.hid HM0
  clear HM0
  obtain ⟨r, hr⟩ : ∃ r, spE blkB S.data.toList i = r := ⟨_, rfl⟩
  rw [hr]
  have HR := Lib.hid hr
  clear hr
  go_enter Tryz.func63, Tryz.ntmps63
  go_wp2_with (first | ((with_reducible refine skip_op ?_ ?_); exact rfl) | refine mP ?_ | (refine mS ?_; clear HM; intro W1 HM))
  go_loopw [30] (fun _ wr => ∃ k : Nat, k ≤ S.size ∧ Hid (spE blkB S.data.toList k = r) ∧ Hid (Mem w0 wr (.box R 72 [.string S, .int .i64 k, ov, .bool lg, .bool dp] :: T))) (fun _ wr => S.size - (intOf ((wr.cell? ⟨R, 1, none⟩).getD undef)).toNat)
  case atStart => exact ⟨i, hi, HR, HM⟩
  case round =>
    clear HM HR
    obtain ⟨k, hk, HR, HM⟩ := hrel
    have HK := Lib.hid (mrd_at HM.out)
    by_cases hlt : k < S.size
    · obtain ⟨b, hb⟩ : ∃ b, S.data.toList[k]? = some b := ⟨_, List.getElem?_eq_getElem (by rw [size_list]; exact hlt)⟩
      have HBi := Lib.hid hb
      have d1 : decide ((k : Int) < S.size) = true := decide_eq_true (by omega)
      have hlt3 := Lib.hid (show k + 1 ≤ S.size from hlt)
      have HFb := Lib.hid (fun W => blk_is b W)
      have hge := blk_idx b
      generalize Lib.indexByte [32, 9, 10, 13] b = I at *
      cases hp : blkB b with
      | true =>
        have HR2 := Lib.hid (show spE blkB S.data.toList (k + 1) = r by rw [← HR.out]; exact spE_yes hb hp)
        rw [hp] at hge
        clear hb hp
        go_wp2_with fail
        refine wp_region_steps2 [(true, 0), (true, 1), (true, 2), (true, 3), (true, 4), (true, 5), (true, 6), (true, 7), (true, 8), (true, 9), (true, 10), (true, 11), (true, 12), (true, 13), (true, 14), (true, 15), (true, 16), (true, 17), (true, 18), (true, 19), (false, 20), (true, 21), (true, 22)] (by kernel_rfl) (by kernel_rfl) rfl (by kernel_rfl) (fun _ _ _ _ _ h => h) HM.out _ (.cons_cons _ (List.nil_sublist _)) ?_
        intro hNE W1 HM1; replace HM := Lib.hid HM1; clear HM1
        have HS0 := Lib.hid (HM.out.sub (.cons_cons _ (List.nil_sublist _)))
        simp only [wpSteps, List.getElem?_cons_succ, List.getElem?_cons_zero]
        (repeat (first | ((with_reducible refine wpQuiet_nil ?_); (try dsimp only)) | ((with_reducible refine qgd ?_); (with_reducible refine skip_q ?_ ?_ ?_); (exact rfl); (rotate_left; (exact (hNE.elim fun p => ⟨p.W, p, rfl⟩)))) | refine mQ ?_ | ((with_reducible refine qload ?_); first | (refine qdb1 HS0.out 0 rfl rfl rfl ?_) | (refine qdbW HS0.out 0 rfl rfl rfl ?_) | (refine qdbS HS0.out 0 rfl rfl rfl ?_; simp only [List.take, List.drop])) | ((with_reducible refine qat 27 ?_); (refine qsix rfl rfl rfl HBi.out ?_)) | go_big_quiet_step (fail) | quiet_step (fail)))
        go_wp2_with (first | ((with_reducible refine igd ?_); (with_reducible refine skip_op ?_ ?_); (exact rfl)) | (go_at_call 95; with_reducible refine cQ (HFb.out _) ?_))
        refine ⟨⟨⟨_, HM.out.sub (by repeat (first | exact List.nil_sublist _ | with_reducible refine List.Sublist.cons_cons _ ?_ | refine List.Sublist.cons _ ?_))⟩, rfl⟩, ?_⟩
        (try dsimp only)
        (repeat (first | ((with_reducible refine wpQuiet_nil ?_); (try dsimp only)) | ((with_reducible refine qgd ?_); (with_reducible refine skip_q ?_ ?_ ?_); (exact rfl); (rotate_left; (exact (hNE.elim fun p => ⟨p.W, p, rfl⟩)))) | refine mQ ?_ | ((with_reducible refine qload ?_); first | (refine qdb1 HS0.out 0 rfl rfl rfl ?_) | (refine qdbW HS0.out 0 rfl rfl rfl ?_) | (refine qdbS HS0.out 0 rfl rfl rfl ?_; simp only [List.take, List.drop])) | ((with_reducible refine qat 27 ?_); (refine qsix rfl rfl rfl HBi.out ?_)) | go_big_quiet_step (fail) | quiet_step (fail)))
        clear HS0 hNE
        go_wp2_with (first | ((with_reducible refine skip_op ?_ ?_); exact rfl) | refine mP ?_ | (refine mS ?_; clear HM; intro W1 HM))
        go_roundw
        case rel => exact ⟨k + 1, hlt3.out, HR2, HM⟩
        case measure => have := hlt3.out; rw [mrd_at (k := k + 1) HM.out, HK.out]; omega
      | false =>
        have HR2 := Lib.hid (show k = r by rw [← HR.out]; exact (spE_no hb hp).symm)
        rw [hp] at hge
        clear hb hp
        go_wp2_with fail
        refine wp_region_steps2 [(true, 0), (true, 1), (true, 2), (true, 3), (true, 4), (true, 5), (true, 6), (true, 7), (true, 8), (true, 9), (true, 10), (true, 11), (true, 12), (true, 13), (true, 14), (true, 15), (true, 16), (true, 17), (true, 18), (true, 19), (false, 20), (true, 21), (true, 22)] (by kernel_rfl) (by kernel_rfl) rfl (by kernel_rfl) (fun _ _ _ _ _ h => h) HM.out _ (.cons_cons _ (List.nil_sublist _)) ?_
        intro hNE W1 HM1; replace HM := Lib.hid HM1; clear HM1
        have HS0 := Lib.hid (HM.out.sub (.cons_cons _ (List.nil_sublist _)))
        simp only [wpSteps, List.getElem?_cons_succ, List.getElem?_cons_zero]
        (repeat (first | ((with_reducible refine wpQuiet_nil ?_); (try dsimp only)) | ((with_reducible refine qgd ?_); (with_reducible refine skip_q ?_ ?_ ?_); (exact rfl); (rotate_left; (exact (hNE.elim fun p => ⟨p.W, p, rfl⟩)))) | refine mQ ?_ | ((with_reducible refine qload ?_); first | (refine qdb1 HS0.out 0 rfl rfl rfl ?_) | (refine qdbW HS0.out 0 rfl rfl rfl ?_) | (refine qdbS HS0.out 0 rfl rfl rfl ?_; simp only [List.take, List.drop])) | ((with_reducible refine qat 27 ?_); (refine qsix rfl rfl rfl HBi.out ?_)) | go_big_quiet_step (fail) | quiet_step (fail)))
        go_wp2_with (first | ((with_reducible refine igd ?_); (with_reducible refine skip_op ?_ ?_); (exact rfl)) | (go_at_call 95; with_reducible refine cQ (HFb.out _) ?_))
        refine ⟨⟨⟨_, HM.out.sub (by repeat (first | exact List.nil_sublist _ | with_reducible refine List.Sublist.cons_cons _ ?_ | refine List.Sublist.cons _ ?_))⟩, rfl⟩, ?_⟩
        (try dsimp only)
        (repeat (first | ((with_reducible refine wpQuiet_nil ?_); (try dsimp only)) | ((with_reducible refine qgd ?_); (with_reducible refine skip_q ?_ ?_ ?_); (exact rfl); (rotate_left; (exact (hNE.elim fun p => ⟨p.W, p, rfl⟩)))) | refine mQ ?_ | ((with_reducible refine qload ?_); first | (refine qdb1 HS0.out 0 rfl rfl rfl ?_) | (refine qdbW HS0.out 0 rfl rfl rfl ?_) | (refine qdbS HS0.out 0 rfl rfl rfl ?_; simp only [List.take, List.drop])) | ((with_reducible refine qat 27 ?_); (refine qsix rfl rfl rfl HBi.out ?_)) | go_big_quiet_step (fail) | quiet_step (fail)))
        clear HS0 hNE
        go_wp2_with (first | ((with_reducible refine skip_op ?_ ?_); exact rfl) | refine mP ?_ | (refine mS ?_; clear HM; intro W1 HM))
        go_ret
        exact ⟨by rw [← HR2.out]; simp, HR2.out ▸ HM.out⟩
    · have HR2 := Lib.hid (show k = r by rw [← HR.out]; exact (spE_end (by rw [size_list]; omega)).symm)
      have d1 : decide ((k : Int) < S.size) = false := decide_eq_false (by omega)
      go_wp2_with fail
      refine wp_region_mem (by kernel_rfl) (by kernel_rfl) HM.out ?_; intro hNE; (repeat (any_goals (first | ((with_reducible refine qgd ?_); (with_reducible refine skip_q ?_ ?_ ?_); (exact rfl); (rotate_left; (exact (hNE.elim fun p => ⟨p.W, p, rfl⟩)))) | refine mQ ?_ | go_big_quiet_step (fail) | quiet_step (fail)))); clear hNE; refine wpQuiet_nil ?_; intro W1 HM1; replace HM := Lib.hid HM1; clear HM1
      go_wp2_with (first | ((with_reducible refine skip_op ?_ ?_); exact rfl) | refine mP ?_ | (refine mS ?_; clear HM; intro W1 HM))
      go_ret
      exact ⟨by rw [← HR2.out]; simp, HR2.out ▸ HM.out⟩

end Go.Proofs.YtfnodoepeiknhaaGreatDoor
