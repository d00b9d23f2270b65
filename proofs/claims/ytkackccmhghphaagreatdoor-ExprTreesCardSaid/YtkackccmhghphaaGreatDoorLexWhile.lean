/- The reader goes behind all bytes of a kind: digits, letters and digits, blanks. (fast) -/
import Derived.Test.YtkackccmhghphaaGreatDoorLexBytes
import Derived.Test.YtkackccmhghphaaGreatDoorTypes
namespace Go.Proofs.YtkackccmhghphaaGreatDoor
open Go.RowKit
set_option linter.unusedVariables false
set_option linter.unusedSimpArgs false
set_option maxRecDepth 100000

theorem rd_at {w0 W : World} {R : Nat} {T : List Res} {s : ByteArray} {k on oc : Nat} {op : Option Addr} {bo bf : Bool} (h : Mem w0 W (.box R 114 [.string s, .int .i64 k, .slice op on oc, .bool bo, .bool bf] :: T)) : (intOf ((W.cell? ⟨R, 1, none⟩).getD undef)).toNat = k := by
 have h1 := box_cells (h.get (k := 0) rfl) 1 0 (.int .i64 k) rfl
 rw [add_none] at h1
 rw [h1]
 simp [intOf]


set_option maxHeartbeats 4000000 in
theorem whileDg (w0 W : World) (R : Nat) (T : List Res) (s : ByteArray) (i on oc : Nat) (op : Option Addr) (bo bf : Bool) (HM0 : Mem w0 W (.box R 114 [.string s, .int .i64 i, .slice op on oc, .bool bo, .bool bf] :: T)) (hi : i ≤ s.size) (hs : s.size ≤ 1000) :
  Calls Tryz.prog 68 #[.pointer (some ⟨R, 0, none⟩), .func (.func 105) #[] #[]] W fun e w' => e = .returned (.tuple #[]) ∧ Mem w0 w' (.box R 114 [.string s, .int .i64 (spanE dg s.data.toList i : Nat), .slice op on oc, .bool bo, .bool bf] :: T) := by
 have HM := Lib.hid HM0
 clear HM0
 have hlen : s.data.toList.length = s.size := by simp
 have HL := Lib.hid hlen
 obtain ⟨r, hr⟩ : ∃ r, spanE dg s.data.toList i = r := ⟨_, rfl⟩
 rw [hr]
 have HR := Lib.hid hr
 have HF := Lib.hid (fun b W => lDg b W)
 clear hr hlen
 go_enter Tryz.func68, Tryz.ntmps68
 go_wp2_with fail
 go_loopw [26] (fun _ wr => ∃ k : Nat, k ≤ s.size ∧ Hid (spanE dg s.data.toList k = r) ∧ Hid (Mem w0 wr (.box R 114 [.string s, .int .i64 k, .slice op on oc, .bool bo, .bool bf] :: T))) (fun _ wr => s.size - (intOf ((wr.cell? ⟨R, 1, none⟩).getD undef)).toNat)
 case atStart => exact ⟨i, hi, HR, HM⟩
 case round =>
  clear HM HR
  obtain ⟨k, hk, HR, HM⟩ := hrel
  have HK := Lib.hid (rd_at HM.out)
  by_cases hlt : k < s.size
  ·obtain ⟨b, hb⟩ : ∃ b, s.data.toList[k]? = some b := ⟨_, List.getElem?_eq_getElem (by rw [HL.out]; exact hlt)⟩
   have HBi := Lib.hid hb
   have d1 : decide ((k : Int) < s.size) = true := decide_eq_true (by omega)
   have hlt3 := Lib.hid (show k + 1 ≤ s.size from hlt)
   have HFb := Lib.hid (fun W => HF.out b W)
   cases hp : dg b with
   | true =>
    have HR2 := Lib.hid (show spanE dg s.data.toList (k + 1) = r by rw [← HR.out]; exact (spanE_yes hb hp).symm)
    rw [hp] at HFb
    clear hb hp
    go_wp2_with fail
    refine wp_region_steps2 [(true, 0), (true, 1), (true, 2), (true, 3), (true, 4), (true, 5), (true, 6), (true, 7), (true, 8), (true, 9), (true, 10), (true, 11), (true, 12), (true, 13), (true, 14), (true, 15), (true, 16), (true, 17), (true, 18), (true, 19), (true, 20), (false, 21), (true, 22)] (by kernel_rfl) (by kernel_rfl) rfl (by kernel_rfl) (fun _ _ _ _ _ h => h) HM.out _ (.cons_cons _ (List.nil_sublist _)) ?_
    intro hNE W1 HM1; replace HM := Lib.hid HM1; clear HM1
    have HS0 := Lib.hid (HM.out.sub (.cons_cons _ (List.nil_sublist _)))
    simp only [wpSteps, List.getElem?_cons_succ, List.getElem?_cons_zero]
    (repeat (first | ((with_reducible refine qgd ?_); (with_reducible refine skip_q ?_ ?_ ?_); (exact rfl); (rotate_left; (exact (hNE.elim fun p => ⟨p.W, p, rfl⟩)))) | ((with_reducible refine qnilCheck ?_); (refine qnil rfl ?_)) | ((with_reducible refine wpQuiet_nil ?_); (try dsimp only)) | ((with_reducible refine qload ?_); first | (refine qdb1 HS0.out 0 rfl rfl rfl ?_)) | ((with_reducible refine qat 24 ?_); (refine qsix rfl rfl rfl HBi.out ?_)) | go_big_quiet_step (fail) | quiet_step (fail)))
    go_wp2_with (first | ((with_reducible refine igd ?_); (with_reducible refine skip_op ?_ ?_); (exact rfl)) | (go_at_call 105; (with_reducible refine (HFb.out _).mono ?_); rintro e W2 ⟨rfl, rfl⟩))
    refine ⟨⟨⟨_, HM.out.sub (by repeat (first | exact List.nil_sublist _ | with_reducible refine List.Sublist.cons_cons _ ?_ | refine List.Sublist.cons _ ?_))⟩, rfl⟩, ?_⟩
    (try dsimp only)
    (repeat (first | ((with_reducible refine wpQuiet_nil ?_); (try dsimp only)) | go_big_quiet_step (fail) | quiet_step (fail)))
    clear HS0 hNE
    go_wp2_with (first | ((with_reducible refine igd ?_); (with_reducible refine skip_op ?_ ?_); (exact rfl)) | ((with_reducible refine inilCheck ?_); (refine lnil rfl ?_)) | ((with_reducible refine iload ?_); first | refine ldb1 HM.out 0 rfl rfl rfl ?_) | ((with_reducible refine istore ?_); (refine stb1 (v := .int _ _) rfl HM.out 0 rfl rfl rfl rfl rfl ?_; intro W1 HM1; replace HM := Lib.hid HM1; clear HM1; simp only [List.set] at HM)))
    go_roundw
    case rel => exact ⟨k + 1, hlt3.out, HR2, HM⟩
    case measure => have := hlt3.out; rw [rd_at (k := k + 1) HM.out, HK.out]; omega
   | false =>
    have HR2 := Lib.hid (show k = r by rw [← HR.out]; exact (spanE_no hb hp).symm)
    rw [hp] at HFb
    clear hb hp
    go_wp2_with fail
    refine wp_region_steps2 [(true, 0), (true, 1), (true, 2), (true, 3), (true, 4), (true, 5), (true, 6), (true, 7), (true, 8), (true, 9), (true, 10), (true, 11), (true, 12), (true, 13), (true, 14), (true, 15), (true, 16), (true, 17), (true, 18), (true, 19), (true, 20), (false, 21), (true, 22)] (by kernel_rfl) (by kernel_rfl) rfl (by kernel_rfl) (fun _ _ _ _ _ h => h) HM.out _ (.cons_cons _ (List.nil_sublist _)) ?_
    intro hNE W1 HM1; replace HM := Lib.hid HM1; clear HM1
    have HS0 := Lib.hid (HM.out.sub (.cons_cons _ (List.nil_sublist _)))
    simp only [wpSteps, List.getElem?_cons_succ, List.getElem?_cons_zero]
    (repeat (first | ((with_reducible refine qgd ?_); (with_reducible refine skip_q ?_ ?_ ?_); (exact rfl); (rotate_left; (exact (hNE.elim fun p => ⟨p.W, p, rfl⟩)))) | ((with_reducible refine qnilCheck ?_); (refine qnil rfl ?_)) | ((with_reducible refine wpQuiet_nil ?_); (try dsimp only)) | ((with_reducible refine qload ?_); first | (refine qdb1 HS0.out 0 rfl rfl rfl ?_)) | ((with_reducible refine qat 24 ?_); (refine qsix rfl rfl rfl HBi.out ?_)) | go_big_quiet_step (fail) | quiet_step (fail)))
    go_wp2_with (first | ((with_reducible refine igd ?_); (with_reducible refine skip_op ?_ ?_); (exact rfl)) | (go_at_call 105; (with_reducible refine (HFb.out _).mono ?_); rintro e W2 ⟨rfl, rfl⟩))
    refine ⟨⟨⟨_, HM.out.sub (by repeat (first | exact List.nil_sublist _ | with_reducible refine List.Sublist.cons_cons _ ?_ | refine List.Sublist.cons _ ?_))⟩, rfl⟩, ?_⟩
    (try dsimp only)
    (repeat (first | ((with_reducible refine wpQuiet_nil ?_); (try dsimp only)) | go_big_quiet_step (fail) | quiet_step (fail)))
    clear HS0 hNE
    go_wp2_with fail
    go_end0
    exact ⟨rfl, HR2.out ▸ HM.out⟩
  ·have HR2 := Lib.hid (show k = r by rw [← HR.out]; exact (spanE_end (by rw [HL.out]; omega)).symm)
   have d1 : decide ((k : Int) < s.size) = false := decide_eq_false (by omega)
   go_wp2_with fail
   refine wp_region_mem (by kernel_rfl) (by kernel_rfl) HM.out ?_; intro hNE; (repeat (any_goals (first | ((with_reducible refine qgd ?_); (with_reducible refine skip_q ?_ ?_ ?_); (exact rfl); (rotate_left; (exact (hNE.elim fun p => ⟨p.W, p, rfl⟩)))) | ((with_reducible refine qnilCheck ?_); (refine qnil rfl ?_)) | ((with_reducible refine qload ?_); first | (refine qdb1 HM.out 0 rfl rfl rfl ?_) | (refine qdbW HM.out 0 rfl rfl rfl ?_) | (refine qdbS HM.out 0 rfl rfl rfl ?_; simp only [List.take, List.drop])) | go_big_quiet_step (fail) | quiet_step (fail)))); clear hNE; refine wpQuiet_nil ?_; intro W1 HM1; replace HM := Lib.hid HM1; clear HM1
   go_wp2_with fail
   go_end0
   exact ⟨rfl, HR2.out ▸ HM.out⟩

set_option maxHeartbeats 4000000 in
theorem whileWd (w0 W : World) (R : Nat) (T : List Res) (s : ByteArray) (i on oc : Nat) (op : Option Addr) (bo bf : Bool) (HM0 : Mem w0 W (.box R 114 [.string s, .int .i64 i, .slice op on oc, .bool bo, .bool bf] :: T)) (hi : i ≤ s.size) (hs : s.size ≤ 1000) :
  Calls Tryz.prog 68 #[.pointer (some ⟨R, 0, none⟩), .func (.func 110) #[] #[]] W fun e w' => e = .returned (.tuple #[]) ∧ Mem w0 w' (.box R 114 [.string s, .int .i64 (spanE wdB s.data.toList i : Nat), .slice op on oc, .bool bo, .bool bf] :: T) := by
 have HM := Lib.hid HM0
 clear HM0
 have hlen : s.data.toList.length = s.size := by simp
 have HL := Lib.hid hlen
 obtain ⟨r, hr⟩ : ∃ r, spanE wdB s.data.toList i = r := ⟨_, rfl⟩
 rw [hr]
 have HR := Lib.hid hr
 have HF := Lib.hid (fun b W => lWd b W)
 clear hr hlen
 go_enter Tryz.func68, Tryz.ntmps68
 go_wp2_with fail
 go_loopw [26] (fun _ wr => ∃ k : Nat, k ≤ s.size ∧ Hid (spanE wdB s.data.toList k = r) ∧ Hid (Mem w0 wr (.box R 114 [.string s, .int .i64 k, .slice op on oc, .bool bo, .bool bf] :: T))) (fun _ wr => s.size - (intOf ((wr.cell? ⟨R, 1, none⟩).getD undef)).toNat)
 case atStart => exact ⟨i, hi, HR, HM⟩
 case round =>
  clear HM HR
  obtain ⟨k, hk, HR, HM⟩ := hrel
  have HK := Lib.hid (rd_at HM.out)
  by_cases hlt : k < s.size
  ·obtain ⟨b, hb⟩ : ∃ b, s.data.toList[k]? = some b := ⟨_, List.getElem?_eq_getElem (by rw [HL.out]; exact hlt)⟩
   have HBi := Lib.hid hb
   have d1 : decide ((k : Int) < s.size) = true := decide_eq_true (by omega)
   have hlt3 := Lib.hid (show k + 1 ≤ s.size from hlt)
   have HFb := Lib.hid (fun W => HF.out b W)
   cases hp : wdB b with
   | true =>
    have HR2 := Lib.hid (show spanE wdB s.data.toList (k + 1) = r by rw [← HR.out]; exact (spanE_yes hb hp).symm)
    rw [hp] at HFb
    clear hb hp
    go_wp2_with fail
    refine wp_region_steps2 [(true, 0), (true, 1), (true, 2), (true, 3), (true, 4), (true, 5), (true, 6), (true, 7), (true, 8), (true, 9), (true, 10), (true, 11), (true, 12), (true, 13), (true, 14), (true, 15), (true, 16), (true, 17), (true, 18), (true, 19), (true, 20), (false, 21), (true, 22)] (by kernel_rfl) (by kernel_rfl) rfl (by kernel_rfl) (fun _ _ _ _ _ h => h) HM.out _ (.cons_cons _ (List.nil_sublist _)) ?_
    intro hNE W1 HM1; replace HM := Lib.hid HM1; clear HM1
    have HS0 := Lib.hid (HM.out.sub (.cons_cons _ (List.nil_sublist _)))
    simp only [wpSteps, List.getElem?_cons_succ, List.getElem?_cons_zero]
    (repeat (first | ((with_reducible refine qgd ?_); (with_reducible refine skip_q ?_ ?_ ?_); (exact rfl); (rotate_left; (exact (hNE.elim fun p => ⟨p.W, p, rfl⟩)))) | ((with_reducible refine qnilCheck ?_); (refine qnil rfl ?_)) | ((with_reducible refine wpQuiet_nil ?_); (try dsimp only)) | ((with_reducible refine qload ?_); first | (refine qdb1 HS0.out 0 rfl rfl rfl ?_)) | ((with_reducible refine qat 24 ?_); (refine qsix rfl rfl rfl HBi.out ?_)) | go_big_quiet_step (fail) | quiet_step (fail)))
    go_wp2_with (first | ((with_reducible refine igd ?_); (with_reducible refine skip_op ?_ ?_); (exact rfl)) | (go_at_call 110; (with_reducible refine (HFb.out _).mono ?_); rintro e W2 ⟨rfl, rfl⟩))
    refine ⟨⟨⟨_, HM.out.sub (by repeat (first | exact List.nil_sublist _ | with_reducible refine List.Sublist.cons_cons _ ?_ | refine List.Sublist.cons _ ?_))⟩, rfl⟩, ?_⟩
    (try dsimp only)
    (repeat (first | ((with_reducible refine wpQuiet_nil ?_); (try dsimp only)) | go_big_quiet_step (fail) | quiet_step (fail)))
    clear HS0 hNE
    go_wp2_with (first | ((with_reducible refine igd ?_); (with_reducible refine skip_op ?_ ?_); (exact rfl)) | ((with_reducible refine inilCheck ?_); (refine lnil rfl ?_)) | ((with_reducible refine iload ?_); first | refine ldb1 HM.out 0 rfl rfl rfl ?_) | ((with_reducible refine istore ?_); (refine stb1 (v := .int _ _) rfl HM.out 0 rfl rfl rfl rfl rfl ?_; intro W1 HM1; replace HM := Lib.hid HM1; clear HM1; simp only [List.set] at HM)))
    go_roundw
    case rel => exact ⟨k + 1, hlt3.out, HR2, HM⟩
    case measure => have := hlt3.out; rw [rd_at (k := k + 1) HM.out, HK.out]; omega
   | false =>
    have HR2 := Lib.hid (show k = r by rw [← HR.out]; exact (spanE_no hb hp).symm)
    rw [hp] at HFb
    clear hb hp
    go_wp2_with fail
    refine wp_region_steps2 [(true, 0), (true, 1), (true, 2), (true, 3), (true, 4), (true, 5), (true, 6), (true, 7), (true, 8), (true, 9), (true, 10), (true, 11), (true, 12), (true, 13), (true, 14), (true, 15), (true, 16), (true, 17), (true, 18), (true, 19), (true, 20), (false, 21), (true, 22)] (by kernel_rfl) (by kernel_rfl) rfl (by kernel_rfl) (fun _ _ _ _ _ h => h) HM.out _ (.cons_cons _ (List.nil_sublist _)) ?_
    intro hNE W1 HM1; replace HM := Lib.hid HM1; clear HM1
    have HS0 := Lib.hid (HM.out.sub (.cons_cons _ (List.nil_sublist _)))
    simp only [wpSteps, List.getElem?_cons_succ, List.getElem?_cons_zero]
    (repeat (first | ((with_reducible refine qgd ?_); (with_reducible refine skip_q ?_ ?_ ?_); (exact rfl); (rotate_left; (exact (hNE.elim fun p => ⟨p.W, p, rfl⟩)))) | ((with_reducible refine qnilCheck ?_); (refine qnil rfl ?_)) | ((with_reducible refine wpQuiet_nil ?_); (try dsimp only)) | ((with_reducible refine qload ?_); first | (refine qdb1 HS0.out 0 rfl rfl rfl ?_)) | ((with_reducible refine qat 24 ?_); (refine qsix rfl rfl rfl HBi.out ?_)) | go_big_quiet_step (fail) | quiet_step (fail)))
    go_wp2_with (first | ((with_reducible refine igd ?_); (with_reducible refine skip_op ?_ ?_); (exact rfl)) | (go_at_call 110; (with_reducible refine (HFb.out _).mono ?_); rintro e W2 ⟨rfl, rfl⟩))
    refine ⟨⟨⟨_, HM.out.sub (by repeat (first | exact List.nil_sublist _ | with_reducible refine List.Sublist.cons_cons _ ?_ | refine List.Sublist.cons _ ?_))⟩, rfl⟩, ?_⟩
    (try dsimp only)
    (repeat (first | ((with_reducible refine wpQuiet_nil ?_); (try dsimp only)) | go_big_quiet_step (fail) | quiet_step (fail)))
    clear HS0 hNE
    go_wp2_with fail
    go_end0
    exact ⟨rfl, HR2.out ▸ HM.out⟩
  ·have HR2 := Lib.hid (show k = r by rw [← HR.out]; exact (spanE_end (by rw [HL.out]; omega)).symm)
   have d1 : decide ((k : Int) < s.size) = false := decide_eq_false (by omega)
   go_wp2_with fail
   refine wp_region_mem (by kernel_rfl) (by kernel_rfl) HM.out ?_; intro hNE; (repeat (any_goals (first | ((with_reducible refine qgd ?_); (with_reducible refine skip_q ?_ ?_ ?_); (exact rfl); (rotate_left; (exact (hNE.elim fun p => ⟨p.W, p, rfl⟩)))) | ((with_reducible refine qnilCheck ?_); (refine qnil rfl ?_)) | ((with_reducible refine qload ?_); first | (refine qdb1 HM.out 0 rfl rfl rfl ?_) | (refine qdbW HM.out 0 rfl rfl rfl ?_) | (refine qdbS HM.out 0 rfl rfl rfl ?_; simp only [List.take, List.drop])) | go_big_quiet_step (fail) | quiet_step (fail)))); clear hNE; refine wpQuiet_nil ?_; intro W1 HM1; replace HM := Lib.hid HM1; clear HM1
   go_wp2_with fail
   go_end0
   exact ⟨rfl, HR2.out ▸ HM.out⟩

set_option maxHeartbeats 4000000 in
theorem whileBl (w0 W : World) (R : Nat) (T : List Res) (s : ByteArray) (i on oc : Nat) (op : Option Addr) (bo bf : Bool) (HM0 : Mem w0 W (.box R 114 [.string s, .int .i64 i, .slice op on oc, .bool bo, .bool bf] :: T)) (hi : i ≤ s.size) (hs : s.size ≤ 1000) :
  Calls Tryz.prog 68 #[.pointer (some ⟨R, 0, none⟩), .func (.func 69) #[] #[]] W fun e w' => e = .returned (.tuple #[]) ∧ Mem w0 w' (.box R 114 [.string s, .int .i64 (spanE blankB s.data.toList i : Nat), .slice op on oc, .bool bo, .bool bf] :: T) := by
 have HM := Lib.hid HM0
 clear HM0
 have hlen : s.data.toList.length = s.size := by simp
 have HL := Lib.hid hlen
 obtain ⟨r, hr⟩ : ∃ r, spanE blankB s.data.toList i = r := ⟨_, rfl⟩
 rw [hr]
 have HR := Lib.hid hr
 have HF := Lib.hid (fun b W => lBl b W)
 clear hr hlen
 go_enter Tryz.func68, Tryz.ntmps68
 go_wp2_with fail
 go_loopw [26] (fun _ wr => ∃ k : Nat, k ≤ s.size ∧ Hid (spanE blankB s.data.toList k = r) ∧ Hid (Mem w0 wr (.box R 114 [.string s, .int .i64 k, .slice op on oc, .bool bo, .bool bf] :: T))) (fun _ wr => s.size - (intOf ((wr.cell? ⟨R, 1, none⟩).getD undef)).toNat)
 case atStart => exact ⟨i, hi, HR, HM⟩
 case round =>
  clear HM HR
  obtain ⟨k, hk, HR, HM⟩ := hrel
  have HK := Lib.hid (rd_at HM.out)
  by_cases hlt : k < s.size
  ·obtain ⟨b, hb⟩ : ∃ b, s.data.toList[k]? = some b := ⟨_, List.getElem?_eq_getElem (by rw [HL.out]; exact hlt)⟩
   have HBi := Lib.hid hb
   have d1 : decide ((k : Int) < s.size) = true := decide_eq_true (by omega)
   have hlt3 := Lib.hid (show k + 1 ≤ s.size from hlt)
   have HFb := Lib.hid (fun W => HF.out b W)
   cases hp : blankB b with
   | true =>
    have HR2 := Lib.hid (show spanE blankB s.data.toList (k + 1) = r by rw [← HR.out]; exact (spanE_yes hb hp).symm)
    rw [hp] at HFb
    clear hb hp
    go_wp2_with fail
    refine wp_region_steps2 [(true, 0), (true, 1), (true, 2), (true, 3), (true, 4), (true, 5), (true, 6), (true, 7), (true, 8), (true, 9), (true, 10), (true, 11), (true, 12), (true, 13), (true, 14), (true, 15), (true, 16), (true, 17), (true, 18), (true, 19), (true, 20), (false, 21), (true, 22)] (by kernel_rfl) (by kernel_rfl) rfl (by kernel_rfl) (fun _ _ _ _ _ h => h) HM.out _ (.cons_cons _ (List.nil_sublist _)) ?_
    intro hNE W1 HM1; replace HM := Lib.hid HM1; clear HM1
    have HS0 := Lib.hid (HM.out.sub (.cons_cons _ (List.nil_sublist _)))
    simp only [wpSteps, List.getElem?_cons_succ, List.getElem?_cons_zero]
    (repeat (first | ((with_reducible refine qgd ?_); (with_reducible refine skip_q ?_ ?_ ?_); (exact rfl); (rotate_left; (exact (hNE.elim fun p => ⟨p.W, p, rfl⟩)))) | ((with_reducible refine qnilCheck ?_); (refine qnil rfl ?_)) | ((with_reducible refine wpQuiet_nil ?_); (try dsimp only)) | ((with_reducible refine qload ?_); first | (refine qdb1 HS0.out 0 rfl rfl rfl ?_)) | ((with_reducible refine qat 24 ?_); (refine qsix rfl rfl rfl HBi.out ?_)) | go_big_quiet_step (fail) | quiet_step (fail)))
    go_wp2_with (first | ((with_reducible refine igd ?_); (with_reducible refine skip_op ?_ ?_); (exact rfl)) | (go_at_call 69; (with_reducible refine (HFb.out _).mono ?_); rintro e W2 ⟨rfl, rfl⟩))
    refine ⟨⟨⟨_, HM.out.sub (by repeat (first | exact List.nil_sublist _ | with_reducible refine List.Sublist.cons_cons _ ?_ | refine List.Sublist.cons _ ?_))⟩, rfl⟩, ?_⟩
    (try dsimp only)
    (repeat (first | ((with_reducible refine wpQuiet_nil ?_); (try dsimp only)) | go_big_quiet_step (fail) | quiet_step (fail)))
    clear HS0 hNE
    go_wp2_with (first | ((with_reducible refine igd ?_); (with_reducible refine skip_op ?_ ?_); (exact rfl)) | ((with_reducible refine inilCheck ?_); (refine lnil rfl ?_)) | ((with_reducible refine iload ?_); first | refine ldb1 HM.out 0 rfl rfl rfl ?_) | ((with_reducible refine istore ?_); (refine stb1 (v := .int _ _) rfl HM.out 0 rfl rfl rfl rfl rfl ?_; intro W1 HM1; replace HM := Lib.hid HM1; clear HM1; simp only [List.set] at HM)))
    go_roundw
    case rel => exact ⟨k + 1, hlt3.out, HR2, HM⟩
    case measure => have := hlt3.out; rw [rd_at (k := k + 1) HM.out, HK.out]; omega
   | false =>
    have HR2 := Lib.hid (show k = r by rw [← HR.out]; exact (spanE_no hb hp).symm)
    rw [hp] at HFb
    clear hb hp
    go_wp2_with fail
    refine wp_region_steps2 [(true, 0), (true, 1), (true, 2), (true, 3), (true, 4), (true, 5), (true, 6), (true, 7), (true, 8), (true, 9), (true, 10), (true, 11), (true, 12), (true, 13), (true, 14), (true, 15), (true, 16), (true, 17), (true, 18), (true, 19), (true, 20), (false, 21), (true, 22)] (by kernel_rfl) (by kernel_rfl) rfl (by kernel_rfl) (fun _ _ _ _ _ h => h) HM.out _ (.cons_cons _ (List.nil_sublist _)) ?_
    intro hNE W1 HM1; replace HM := Lib.hid HM1; clear HM1
    have HS0 := Lib.hid (HM.out.sub (.cons_cons _ (List.nil_sublist _)))
    simp only [wpSteps, List.getElem?_cons_succ, List.getElem?_cons_zero]
    (repeat (first | ((with_reducible refine qgd ?_); (with_reducible refine skip_q ?_ ?_ ?_); (exact rfl); (rotate_left; (exact (hNE.elim fun p => ⟨p.W, p, rfl⟩)))) | ((with_reducible refine qnilCheck ?_); (refine qnil rfl ?_)) | ((with_reducible refine wpQuiet_nil ?_); (try dsimp only)) | ((with_reducible refine qload ?_); first | (refine qdb1 HS0.out 0 rfl rfl rfl ?_)) | ((with_reducible refine qat 24 ?_); (refine qsix rfl rfl rfl HBi.out ?_)) | go_big_quiet_step (fail) | quiet_step (fail)))
    go_wp2_with (first | ((with_reducible refine igd ?_); (with_reducible refine skip_op ?_ ?_); (exact rfl)) | (go_at_call 69; (with_reducible refine (HFb.out _).mono ?_); rintro e W2 ⟨rfl, rfl⟩))
    refine ⟨⟨⟨_, HM.out.sub (by repeat (first | exact List.nil_sublist _ | with_reducible refine List.Sublist.cons_cons _ ?_ | refine List.Sublist.cons _ ?_))⟩, rfl⟩, ?_⟩
    (try dsimp only)
    (repeat (first | ((with_reducible refine wpQuiet_nil ?_); (try dsimp only)) | go_big_quiet_step (fail) | quiet_step (fail)))
    clear HS0 hNE
    go_wp2_with fail
    go_end0
    exact ⟨rfl, HR2.out ▸ HM.out⟩
  ·have HR2 := Lib.hid (show k = r by rw [← HR.out]; exact (spanE_end (by rw [HL.out]; omega)).symm)
   have d1 : decide ((k : Int) < s.size) = false := decide_eq_false (by omega)
   go_wp2_with fail
   refine wp_region_mem (by kernel_rfl) (by kernel_rfl) HM.out ?_; intro hNE; (repeat (any_goals (first | ((with_reducible refine qgd ?_); (with_reducible refine skip_q ?_ ?_ ?_); (exact rfl); (rotate_left; (exact (hNE.elim fun p => ⟨p.W, p, rfl⟩)))) | ((with_reducible refine qnilCheck ?_); (refine qnil rfl ?_)) | ((with_reducible refine qload ?_); first | (refine qdb1 HM.out 0 rfl rfl rfl ?_) | (refine qdbW HM.out 0 rfl rfl rfl ?_) | (refine qdbS HM.out 0 rfl rfl rfl ?_; simp only [List.take, List.drop])) | go_big_quiet_step (fail) | quiet_step (fail)))); clear hNE; refine wpQuiet_nil ?_; intro W1 HM1; replace HM := Lib.hid HM1; clear HM1
   go_wp2_with fail
   go_end0
   exact ⟨rfl, HR2.out ▸ HM.out⟩
end Go.Proofs.YtkackccmhghphaaGreatDoor
