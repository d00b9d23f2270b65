/- mark's reader: blanks, name, take, until. (short) mark's reader: blanks. (short) mark's reader: name. (short) mark's reader: take. (short) mark's reader: until. (short) -/
import Derived.Test.YtanncakdlflopaaGreatDoorMarkA
import Derived.Test.YtanncakdlflopaaGreatDoorShelf2
import Derived.Test.YtanncakdlflopaaGreatDoorNumA
import Derived.Test.YtanncakdlflopaaGreatDoorTypes
namespace Go.Proofs.YtanncakdlflopaaGreatDoor
open Go.RowKit
set_option linter.unusedVariables false
set_option linter.unusedSimpArgs false
set_option maxRecDepth 100000

/-- The place behind the bytes of a kind. -/
def spE (p : UInt8 → Bool) (l : List UInt8) (i : Nat) : Nat := i + ((l.drop i).takeWhile p).length
theorem spE_yes {p : UInt8 → Bool} {l : List UInt8} {i : Nat} {b : UInt8} (h : l[i]? = some b) (hp : p b = true) : spE p l (i + 1) = spE p l i := by
 obtain ⟨hi, e⟩ := List.getElem?_eq_some_iff.1 h
 unfold spE
 rw [List.drop_eq_getElem_cons hi, e, List.takeWhile_cons, if_pos hp, List.length_cons]
 omega
theorem spE_no {p : UInt8 → Bool} {l : List UInt8} {i : Nat} {b : UInt8} (h : l[i]? = some b) (hp : p b = false) : spE p l i = i := by
 obtain ⟨hi, e⟩ := List.getElem?_eq_some_iff.1 h
 unfold spE
 rw [List.drop_eq_getElem_cons hi, e, List.takeWhile_cons, if_neg (by rw [hp]; decide)]
 rfl
theorem spE_end {p : UInt8 → Bool} {l : List UInt8} {i : Nat} (h : l.length ≤ i) : spE p l i = i := by
 unfold spE; rw [List.drop_of_length_le h]; rfl
theorem spE_le {p : UInt8 → Bool} {l : List UInt8} {i : Nat} (h : i ≤ l.length) : i ≤ spE p l i ∧ spE p l i ≤ l.length := by
 unfold spE
 have h1 : ((l.drop i).takeWhile p).length ≤ (l.drop i).length := (List.takeWhile_sublist p).length_le
 rw [List.length_drop] at h1
 omega

theorem mrd_at {w0 W : World} {R : Nat} {T : List Res} {S : ByteArray} {k : Nat} {ov : Value} {lg dp : Bool} (h : Mem w0 W (.box R 85 [.string S, .int .i64 k, ov, .bool lg, .bool dp] :: T)) : (intOf ((W.cell? ⟨R, 1, none⟩).getD undef)).toNat = k := by
 have h1 := box_cells (h.get (k := 0) rfl) 1 0 (.int .i64 k) rfl
 rw [add_none] at h1
 rw [h1]
 simp [intOf]
def blkB (b : UInt8) : Bool := b == 32 || b == 9 || b == 10 || b == 13
theorem blk_idx (b : UInt8) : decide (Lib.indexByte [32, 9, 10, 13] b ≥ 0) = blkB b := by
 have h : ∀ n : Fin 256, decide (Lib.indexByte [32, 9, 10, 13] (UInt8.ofNat n.val) ≥ 0) = blkB (UInt8.ofNat n.val) := by decide +kernel
 have := h ⟨b.toNat, b.toNat_lt⟩
 simpa using this
theorem blk_is (b : UInt8) (w : World) : Calls Tryz.prog 96 #[.string ⟨#[32, 9, 10, 13]⟩, .int .u8 b.toNat] w fun e w' => e = .returned (.int .i64 (Lib.indexByte [32, 9, 10, 13] b)) ∧ w = w' := by
 refine (Tryz.strings_IndexByte ⟨#[32, 9, 10, 13]⟩ b.toNat w).mono ?_
 rintro e w' ⟨rfl, rfl⟩
 have e1 : ((b.toNat : Int)).toNat.toUInt8 = b := by simp
 rw [e1]
 exact ⟨rfl, rfl⟩
def insU (b : UInt8) : Bool := insB b.toNat

end Go.Proofs.YtanncakdlflopaaGreatDoor

namespace Go.Proofs.YtanncakdlflopaaGreatDoor
open Go.RowKit
set_option linter.unusedVariables false
set_option linter.unusedSimpArgs false
set_option maxRecDepth 100000

set_option maxHeartbeats 4000000 in
theorem mblanks_any (w0 W : World) (R : Nat) (T : List Res) (S : ByteArray) (i : Nat) (ov : Value) (lg dp : Bool) (HM0 : Mem w0 W (.box R 85 [.string S, .int .i64 i, ov, .bool lg, .bool dp] :: T)) (hi : i ≤ S.size) (hs : S.size ≤ 1099511627776) :
  Calls Tryz.prog 64 #[.pointer (some ⟨R, 0, none⟩)] W fun e w' => e = .returned (.bool (decide (spE blkB S.data.toList i > i))) ∧ Mem w0 w' (.box R 85 [.string S, .int .i64 (spE blkB S.data.toList i : Nat), ov, .bool lg, .bool dp] :: T) := by
 have HM := Lib.hid HM0
 clear HM0
 obtain ⟨r, hr⟩ : ∃ r, spE blkB S.data.toList i = r := ⟨_, rfl⟩
 rw [hr]
 have HR := Lib.hid hr
 clear hr
 go_enter Tryz.func64, Tryz.ntmps64
 go_wp2_with (first | ((with_reducible refine skip_op ?_ ?_); exact rfl) | refine mP ?_ | (refine mS ?_; clear HM; intro W1 HM))
 go_loopw [30] (fun _ wr => ∃ k : Nat, k ≤ S.size ∧ Hid (spE blkB S.data.toList k = r) ∧ Hid (Mem w0 wr (.box R 85 [.string S, .int .i64 k, ov, .bool lg, .bool dp] :: T))) (fun _ wr => S.size - (intOf ((wr.cell? ⟨R, 1, none⟩).getD undef)).toNat)
 case atStart => exact ⟨i, hi, HR, HM⟩
 case round =>
  clear HM HR
  obtain ⟨k, hk, HR, HM⟩ := hrel
  have HK := Lib.hid (mrd_at HM.out)
  by_cases hlt : k < S.size
  ·obtain ⟨b, hb⟩ : ∃ b, S.data.toList[k]? = some b := ⟨_, List.getElem?_eq_getElem (by rw [size_list]; exact hlt)⟩
   have HBi := Lib.hid hb
   have d1 : decide ((k : Int) < S.size) = true := decide_eq_true (by omega)
   have hlt3 := Lib.hid (show k + 1 ≤ S.size from hlt)
   have HFb := Lib.hid (fun W => blk_is b W)
   have hge := blk_idx b
   generalize Lib.indexByte [32, 9, 10, 13] b = I at *
   cases hp : blkB b with
   | true =>
    have HR2 := Lib.hid (show spE blkB S.data.toList (k + 1) = r by rw [← HR.out]; exact spE_yes hb hp)
    rw [hp] at hge
    clear hb hp
    go_wp2_with fail
    refine wp_region_steps2 [(true, 0), (true, 1), (true, 2), (true, 3), (true, 4), (true, 5), (true, 6), (true, 7), (true, 8), (true, 9), (true, 10), (true, 11), (true, 12), (true, 13), (true, 14), (true, 15), (true, 16), (true, 17), (true, 18), (true, 19), (false, 20), (true, 21), (true, 22)] (by kernel_rfl) (by kernel_rfl) rfl (by kernel_rfl) (fun _ _ _ _ _ h => h) HM.out _ (.cons_cons _ (List.nil_sublist _)) ?_
    intro hNE W1 HM1; replace HM := Lib.hid HM1; clear HM1
    have HS0 := Lib.hid (HM.out.sub (.cons_cons _ (List.nil_sublist _)))
    simp only [wpSteps, List.getElem?_cons_succ, List.getElem?_cons_zero]
    (repeat (first | ((with_reducible refine wpQuiet_nil ?_); (try dsimp only)) | ((with_reducible refine qgd ?_); (with_reducible refine skip_q ?_ ?_ ?_); (exact rfl); (rotate_left; (exact (hNE.elim fun p => ⟨p.W, p, rfl⟩)))) | refine mQ ?_ | ((with_reducible refine qload ?_); first | (refine qdb1 HS0.out 0 rfl rfl rfl ?_) | (refine qdbW HS0.out 0 rfl rfl rfl ?_) | (refine qdbS HS0.out 0 rfl rfl rfl ?_; simp only [List.take, List.drop])) | ((with_reducible refine qat 27 ?_); (refine qsix rfl rfl rfl HBi.out ?_)) | go_big_quiet_step (fail) | quiet_step (fail)))
    go_wp2_with (first | ((with_reducible refine igd ?_); (with_reducible refine skip_op ?_ ?_); (exact rfl)) | (go_at_call 96; with_reducible refine cQ (HFb.out _) ?_))
    refine ⟨⟨⟨_, HM.out.sub (by repeat (first | exact List.nil_sublist _ | with_reducible refine List.Sublist.cons_cons _ ?_ | refine List.Sublist.cons _ ?_))⟩, rfl⟩, ?_⟩
    (try dsimp only)
    (repeat (first | ((with_reducible refine wpQuiet_nil ?_); (try dsimp only)) | ((with_reducible refine qgd ?_); (with_reducible refine skip_q ?_ ?_ ?_); (exact rfl); (rotate_left; (exact (hNE.elim fun p => ⟨p.W, p, rfl⟩)))) | refine mQ ?_ | ((with_reducible refine qload ?_); first | (refine qdb1 HS0.out 0 rfl rfl rfl ?_) | (refine qdbW HS0.out 0 rfl rfl rfl ?_) | (refine qdbS HS0.out 0 rfl rfl rfl ?_; simp only [List.take, List.drop])) | ((with_reducible refine qat 27 ?_); (refine qsix rfl rfl rfl HBi.out ?_)) | go_big_quiet_step (fail) | quiet_step (fail)))
    clear HS0 hNE
    go_wp2_with (first | ((with_reducible refine skip_op ?_ ?_); exact rfl) | refine mP ?_ | (refine mS ?_; clear HM; intro W1 HM))
    go_roundw
    case rel => exact ⟨k + 1, hlt3.out, HR2, HM⟩
    case measure => have := hlt3.out; rw [mrd_at (k := k + 1) HM.out, HK.out]; omega
   | false =>
    have HR2 := Lib.hid (show k = r by rw [← HR.out]; exact (spE_no hb hp).symm)
    rw [hp] at hge
    clear hb hp
    go_wp2_with fail
    refine wp_region_steps2 [(true, 0), (true, 1), (true, 2), (true, 3), (true, 4), (true, 5), (true, 6), (true, 7), (true, 8), (true, 9), (true, 10), (true, 11), (true, 12), (true, 13), (true, 14), (true, 15), (true, 16), (true, 17), (true, 18), (true, 19), (false, 20), (true, 21), (true, 22)] (by kernel_rfl) (by kernel_rfl) rfl (by kernel_rfl) (fun _ _ _ _ _ h => h) HM.out _ (.cons_cons _ (List.nil_sublist _)) ?_
    intro hNE W1 HM1; replace HM := Lib.hid HM1; clear HM1
    have HS0 := Lib.hid (HM.out.sub (.cons_cons _ (List.nil_sublist _)))
    simp only [wpSteps, List.getElem?_cons_succ, List.getElem?_cons_zero]
    (repeat (first | ((with_reducible refine wpQuiet_nil ?_); (try dsimp only)) | ((with_reducible refine qgd ?_); (with_reducible refine skip_q ?_ ?_ ?_); (exact rfl); (rotate_left; (exact (hNE.elim fun p => ⟨p.W, p, rfl⟩)))) | refine mQ ?_ | ((with_reducible refine qload ?_); first | (refine qdb1 HS0.out 0 rfl rfl rfl ?_) | (refine qdbW HS0.out 0 rfl rfl rfl ?_) | (refine qdbS HS0.out 0 rfl rfl rfl ?_; simp only [List.take, List.drop])) | ((with_reducible refine qat 27 ?_); (refine qsix rfl rfl rfl HBi.out ?_)) | go_big_quiet_step (fail) | quiet_step (fail)))
    go_wp2_with (first | ((with_reducible refine igd ?_); (with_reducible refine skip_op ?_ ?_); (exact rfl)) | (go_at_call 96; with_reducible refine cQ (HFb.out _) ?_))
    refine ⟨⟨⟨_, HM.out.sub (by repeat (first | exact List.nil_sublist _ | with_reducible refine List.Sublist.cons_cons _ ?_ | refine List.Sublist.cons _ ?_))⟩, rfl⟩, ?_⟩
    (try dsimp only)
    (repeat (first | ((with_reducible refine wpQuiet_nil ?_); (try dsimp only)) | ((with_reducible refine qgd ?_); (with_reducible refine skip_q ?_ ?_ ?_); (exact rfl); (rotate_left; (exact (hNE.elim fun p => ⟨p.W, p, rfl⟩)))) | refine mQ ?_ | ((with_reducible refine qload ?_); first | (refine qdb1 HS0.out 0 rfl rfl rfl ?_) | (refine qdbW HS0.out 0 rfl rfl rfl ?_) | (refine qdbS HS0.out 0 rfl rfl rfl ?_; simp only [List.take, List.drop])) | ((with_reducible refine qat 27 ?_); (refine qsix rfl rfl rfl HBi.out ?_)) | go_big_quiet_step (fail) | quiet_step (fail)))
    clear HS0 hNE
    go_wp2_with (first | ((with_reducible refine skip_op ?_ ?_); exact rfl) | refine mP ?_ | (refine mS ?_; clear HM; intro W1 HM))
    go_ret
    exact ⟨by rw [← HR2.out]; simp, HR2.out ▸ HM.out⟩
  ·have HR2 := Lib.hid (show k = r by rw [← HR.out]; exact (spE_end (by rw [size_list]; omega)).symm)
   have d1 : decide ((k : Int) < S.size) = false := decide_eq_false (by omega)
   go_wp2_with fail
   refine wp_region_mem (by kernel_rfl) (by kernel_rfl) HM.out ?_; intro hNE; (repeat (any_goals (first | ((with_reducible refine qgd ?_); (with_reducible refine skip_q ?_ ?_ ?_); (exact rfl); (rotate_left; (exact (hNE.elim fun p => ⟨p.W, p, rfl⟩)))) | refine mQ ?_ | go_big_quiet_step (fail) | quiet_step (fail)))); clear hNE; refine wpQuiet_nil ?_; intro W1 HM1; replace HM := Lib.hid HM1; clear HM1
   go_wp2_with (first | ((with_reducible refine skip_op ?_ ?_); exact rfl) | refine mP ?_ | (refine mS ?_; clear HM; intro W1 HM))
   go_ret
   exact ⟨by rw [← HR2.out]; simp, HR2.out ▸ HM.out⟩

end Go.Proofs.YtanncakdlflopaaGreatDoor

namespace Go.Proofs.YtanncakdlflopaaGreatDoor
open Go.RowKit
set_option linter.unusedVariables false
set_option linter.unusedSimpArgs false
set_option maxRecDepth 100000

set_option maxHeartbeats 4000000 in
theorem mword_any (w0 W : World) (R : Nat) (T : List Res) (S : ByteArray) (i : Nat) (ov : Value) (lg dp : Bool) (HM0 : Mem w0 W (.box R 85 [.string S, .int .i64 i, ov, .bool lg, .bool dp] :: T)) (hi : i ≤ S.size) (hs : S.size ≤ 1099511627776) :
  Calls Tryz.prog 68 #[.pointer (some ⟨R, 0, none⟩)] W fun e w' => e = .returned (.tuple #[.string (S.extract i (spE insU S.data.toList i)), .bool (nameM (S.extract i (spE insU S.data.toList i)))]) ∧ Mem w0 w' (.box R 85 [.string S, .int .i64 (spE insU S.data.toList i : Nat), ov, .bool lg, .bool dp] :: T) := by
 have HM := Lib.hid HM0
 clear HM0
 obtain ⟨r, hr⟩ : ∃ r, spE insU S.data.toList i = r := ⟨_, rfl⟩
 have hle := spE_le (p := insU) (l := S.data.toList) (i := i) (by rw [size_list]; exact hi)
 rw [hr, size_list] at hle
 obtain ⟨hir, hrs⟩ := hle
 rw [hr]
 have HR := Lib.hid hr
 obtain ⟨N, hN⟩ : ∃ N, S.extract i r = N := ⟨_, rfl⟩
 have hNs : N.size ≤ S.size := by rw [← hN, ByteArray.size_extract]; omega
 rw [hN]
 have HN := Lib.hid hN
 have HNm := Lib.hid (fun W => mname_any N W (by omega))
 generalize nameM N = nb at *
 clear hr hN
 go_enter Tryz.func68, Tryz.ntmps68
 go_wp2_with (first | ((with_reducible refine skip_op ?_ ?_); exact rfl) | refine mP ?_ | (refine mS ?_; clear HM; intro W1 HM))
 go_loopw [31] (fun _ wr => ∃ k : Nat, k ≤ S.size ∧ Hid (spE insU S.data.toList k = r) ∧ Hid (Mem w0 wr (.box R 85 [.string S, .int .i64 k, ov, .bool lg, .bool dp] :: T))) (fun _ wr => S.size - (intOf ((wr.cell? ⟨R, 1, none⟩).getD undef)).toNat)
 case atStart => exact ⟨i, hi, HR, HM⟩
 case round =>
  clear HM HR
  obtain ⟨k, hk, HR, HM⟩ := hrel
  have HK := Lib.hid (mrd_at HM.out)
  by_cases hlt : k < S.size
  ·obtain ⟨b, hb⟩ : ∃ b, S.data.toList[k]? = some b := ⟨_, List.getElem?_eq_getElem (by rw [size_list]; exact hlt)⟩
   have HBi := Lib.hid hb
   have d1 : decide ((k : Int) < S.size) = true := decide_eq_true (by omega)
   have hlt3 := Lib.hid (show k + 1 ≤ S.size from hlt)
   have HFb := Lib.hid (fun W => minside_any (b.toNat : Int) W)
   cases hp : insU b with
   | true =>
    have HR2 := Lib.hid (show spE insU S.data.toList (k + 1) = r by rw [← HR.out]; exact spE_yes hb hp)
    unfold insU at hp
    rw [hp] at HFb
    clear hb hp
    go_wp2_with fail
    refine wp_region_steps2 [(true, 0), (true, 1), (true, 2), (true, 3), (true, 4), (true, 5), (true, 6), (true, 7), (true, 8), (true, 9), (true, 10), (true, 11), (true, 12), (true, 13), (true, 14), (true, 15), (true, 16), (true, 17), (true, 18), (true, 19), (false, 20), (true, 21)] (by kernel_rfl) (by kernel_rfl) rfl (by kernel_rfl) (fun _ _ _ _ _ h => h) HM.out _ (.cons_cons _ (List.nil_sublist _)) ?_
    intro hNE W1 HM1; replace HM := Lib.hid HM1; clear HM1
    have HS0 := Lib.hid (HM.out.sub (.cons_cons _ (List.nil_sublist _)))
    simp only [wpSteps, List.getElem?_cons_succ, List.getElem?_cons_zero]
    (repeat (first | ((with_reducible refine wpQuiet_nil ?_); (try dsimp only)) | ((with_reducible refine qgd ?_); (with_reducible refine skip_q ?_ ?_ ?_); (exact rfl); (rotate_left; (exact (hNE.elim fun p => ⟨p.W, p, rfl⟩)))) | refine mQ ?_ | ((with_reducible refine qat 29 ?_); (refine qsix rfl rfl rfl HBi.out ?_)) | go_big_quiet_step (fail) | quiet_step (fail)))
    go_wp2_with (first | ((with_reducible refine igd ?_); (with_reducible refine skip_op ?_ ?_); (exact rfl)) | (go_at_call 69; with_reducible refine cQ (HFb.out _) ?_))
    refine ⟨⟨⟨_, HM.out.sub (by repeat (first | exact List.nil_sublist _ | with_reducible refine List.Sublist.cons_cons _ ?_ | refine List.Sublist.cons _ ?_))⟩, rfl⟩, ?_⟩
    (try dsimp only)
    (repeat (first | ((with_reducible refine wpQuiet_nil ?_); (try dsimp only)) | refine mQ ?_ | go_big_quiet_step (fail) | quiet_step (fail)))
    clear HS0 hNE
    go_wp2_with (first | ((with_reducible refine skip_op ?_ ?_); exact rfl) | refine mP ?_ | (refine mS ?_; clear HM; intro W1 HM))
    go_roundw
    case rel => exact ⟨k + 1, hlt3.out, HR2, HM⟩
    case measure => have := hlt3.out; rw [mrd_at (k := k + 1) HM.out, HK.out]; omega
   | false =>
    have hR2 : k = r := by rw [← HR.out]; exact (spE_no hb hp).symm
    unfold insU at hp
    rw [hp] at HFb
    clear hb hp
    subst hR2
    go_wp2_with fail
    refine wp_region_steps2 [(true, 0), (true, 1), (true, 2), (true, 3), (true, 4), (true, 5), (true, 6), (true, 7), (true, 8), (true, 9), (true, 10), (true, 11), (true, 12), (true, 13), (true, 14), (true, 15), (true, 16), (true, 17), (true, 18), (true, 19), (false, 20), (true, 21)] (by kernel_rfl) (by kernel_rfl) rfl (by kernel_rfl) (fun _ _ _ _ _ h => h) HM.out _ (.cons_cons _ (List.nil_sublist _)) ?_
    intro hNE W1 HM1; replace HM := Lib.hid HM1; clear HM1
    have HS0 := Lib.hid (HM.out.sub (.cons_cons _ (List.nil_sublist _)))
    simp only [wpSteps, List.getElem?_cons_succ, List.getElem?_cons_zero]
    (repeat (first | ((with_reducible refine wpQuiet_nil ?_); (try dsimp only)) | ((with_reducible refine qgd ?_); (with_reducible refine skip_q ?_ ?_ ?_); (exact rfl); (rotate_left; (exact (hNE.elim fun p => ⟨p.W, p, rfl⟩)))) | refine mQ ?_ | ((with_reducible refine qat 29 ?_); (refine qsix rfl rfl rfl HBi.out ?_)) | go_big_quiet_step (fail) | quiet_step (fail)))
    go_wp2_with (first | ((with_reducible refine igd ?_); (with_reducible refine skip_op ?_ ?_); (exact rfl)) | (go_at_call 69; with_reducible refine cQ (HFb.out _) ?_))
    refine ⟨⟨⟨_, HM.out.sub (by repeat (first | exact List.nil_sublist _ | with_reducible refine List.Sublist.cons_cons _ ?_ | refine List.Sublist.cons _ ?_))⟩, rfl⟩, ?_⟩
    (try dsimp only)
    (repeat (first | ((with_reducible refine wpQuiet_nil ?_); (try dsimp only)) | refine mQ ?_ | go_big_quiet_step (fail) | quiet_step (fail)))
    clear HS0 hNE
    go_wp2_with fail
    refine wp_region_mem (by kernel_rfl) (by kernel_rfl) HM.out ?_; intro hNE; (repeat (any_goals (first | ((with_reducible refine qgd ?_); (with_reducible refine skip_q ?_ ?_ ?_); (exact rfl); (rotate_left; (exact (hNE.elim fun p => ⟨p.W, p, rfl⟩)))) | refine mQ ?_ | ((with_reducible refine qat 48 ?_); (refine qssls rfl rfl (i := i) rfl rfl (j := k) rfl hir hrs ?_; rw [HN.out])) | go_big_quiet_step (fail) | quiet_step (fail)))); clear hNE; refine wpQuiet_nil ?_; intro W1 HM1; replace HM := Lib.hid HM1; clear HM1
    go_wp2_with (first | (go_at_call 44; (with_reducible refine cB HM (HNm.out _) ?_); clear HM; intro W1 HM))
    go_ret2
    exact ⟨rfl, HM.out⟩
  ·have hR2 : k = r := by rw [← HR.out]; exact (spE_end (by rw [size_list]; omega)).symm
   have d1 : decide ((k : Int) < S.size) = false := decide_eq_false (by omega)
   subst hR2
   go_wp2_with fail
   refine wp_region_mem (by kernel_rfl) (by kernel_rfl) HM.out ?_; intro hNE; (repeat (any_goals (first | ((with_reducible refine qgd ?_); (with_reducible refine skip_q ?_ ?_ ?_); (exact rfl); (rotate_left; (exact (hNE.elim fun p => ⟨p.W, p, rfl⟩)))) | refine mQ ?_ | go_big_quiet_step (fail) | quiet_step (fail)))); clear hNE; refine wpQuiet_nil ?_; intro W1 HM1; replace HM := Lib.hid HM1; clear HM1
   go_wp2_with fail
   refine wp_region_mem (by kernel_rfl) (by kernel_rfl) HM.out ?_; intro hNE; (repeat (any_goals (first | ((with_reducible refine qgd ?_); (with_reducible refine skip_q ?_ ?_ ?_); (exact rfl); (rotate_left; (exact (hNE.elim fun p => ⟨p.W, p, rfl⟩)))) | refine mQ ?_ | ((with_reducible refine qat 48 ?_); (refine qssls rfl rfl (i := i) rfl rfl (j := k) rfl hir hrs ?_; rw [HN.out])) | go_big_quiet_step (fail) | quiet_step (fail)))); clear hNE; refine wpQuiet_nil ?_; intro W1 HM1; replace HM := Lib.hid HM1; clear HM1
   go_wp2_with (first | (go_at_call 44; (with_reducible refine cB HM (HNm.out _) ?_); clear HM; intro W1 HM))
   go_ret2
   exact ⟨rfl, HM.out⟩

end Go.Proofs.YtanncakdlflopaaGreatDoor

namespace Go.Proofs.YtanncakdlflopaaGreatDoor
open Go.RowKit
set_option linter.unusedVariables false
set_option linter.unusedSimpArgs false
set_option maxRecDepth 100000

set_option maxHeartbeats 4000000 in
theorem mtake_yes (w0 W : World) (R : Nat) (T : List Res) (S t : ByteArray) (i : Nat) (ov : Value) (lg dp : Bool) (HM0 : Mem w0 W (.box R 85 [.string S, .int .i64 i, ov, .bool lg, .bool dp] :: T)) (hi : i ≤ S.size) (hs : S.size ≤ 1099511627776) (ht : Lib.hasPrefix (S.data.toList.drop i) t.data.toList = true) :
  Calls Tryz.prog 63 #[.pointer (some ⟨R, 0, none⟩), .string t] W fun e w' => e = .returned (.bool true) ∧ Mem w0 w' (.box R 85 [.string S, .int .i64 (i + t.size : Nat), ov, .bool lg, .bool dp] :: T) := by
 have HM := Lib.hid HM0
 clear HM0
 obtain ⟨X, hX⟩ : ∃ X, S.extract i S.size = X := ⟨_, rfl⟩
 have hXl : X.data.toList = S.data.toList.drop i := by rw [← hX, Lib.extract_data]; exact List.take_of_length_le (by simp)
 have HP := Lib.hid (fun W => by have := Tryz.strings_HasPrefix X t W; rw [hXl, ht] at this; exact (this : Calls Tryz.prog 85 #[.string X, .string t] W fun e w' => e = .returned (.bool true) ∧ w' = W))
 have HP2 := Lib.hid (fun W => (HP.out W).mono fun e w' (h : e = .returned (.bool true) ∧ w' = W) => (⟨h.1, h.2.symm⟩ : e = .returned (.bool true) ∧ W = w'))
 have hts : i + t.size ≤ S.size := by
  have h1 : t.data.toList.isPrefixOf (S.data.toList.drop i) = true := ht
  have := (List.isPrefixOf_iff_prefix.1 h1).length_le
  rw [List.length_drop, size_list, size_list] at this
  omega
 have HX := Lib.hid hX
 clear hX hXl ht HP
 go_enter Tryz.func63, Tryz.ntmps63
 go_wp2_with fail
 refine wp_region_steps2 [(true, 0), (true, 1), (true, 2), (true, 3), (true, 4), (true, 5), (true, 6), (true, 7), (true, 8), (true, 9), (false, 10)] (by kernel_rfl) (by kernel_rfl) rfl (by kernel_rfl) (fun _ _ _ _ _ h => h) HM.out _ (.cons_cons _ (List.nil_sublist _)) ?_
 intro hNE W1 HM1; replace HM := Lib.hid HM1; clear HM1
 have HS0 := Lib.hid (HM.out.sub (.cons_cons _ (List.nil_sublist _)))
 simp only [wpSteps, List.getElem?_cons_succ, List.getElem?_cons_zero]
 (repeat (first | ((with_reducible refine wpQuiet_nil ?_); (try dsimp only)) | refine mQ ?_ | ((with_reducible refine qat 13 ?_); (refine qsslf rfl rfl (i := i) rfl hi ?_; rw [HX.out])) | go_big_quiet_step (fail) | quiet_step (fail)))
 go_wp2_with (first | (go_at_call 85; with_reducible refine cQ (HP2.out _) ?_))
 refine ⟨⟨⟨_, HM.out.sub (by repeat (first | exact List.nil_sublist _ | with_reducible refine List.Sublist.cons_cons _ ?_ | refine List.Sublist.cons _ ?_))⟩, rfl⟩, ?_⟩
 (try dsimp only)
 clear HS0 hNE
 go_wp2_with (first | refine mP ?_ | (refine mS ?_; clear HM; intro W1 HM))
 go_ret
 exact ⟨rfl, HM.out⟩

set_option maxHeartbeats 4000000 in
theorem mtake_no (w0 W : World) (R : Nat) (T : List Res) (S t : ByteArray) (i : Nat) (ov : Value) (lg dp : Bool) (HM0 : Mem w0 W (.box R 85 [.string S, .int .i64 i, ov, .bool lg, .bool dp] :: T)) (hi : i ≤ S.size) (hs : S.size ≤ 1099511627776) (ht : Lib.hasPrefix (S.data.toList.drop i) t.data.toList = false) :
  Calls Tryz.prog 63 #[.pointer (some ⟨R, 0, none⟩), .string t] W fun e w' => e = .returned (.bool false) ∧ Mem w0 w' (.box R 85 [.string S, .int .i64 i, ov, .bool lg, .bool dp] :: T) := by
 have HM := Lib.hid HM0
 clear HM0
 obtain ⟨X, hX⟩ : ∃ X, S.extract i S.size = X := ⟨_, rfl⟩
 have hXl : X.data.toList = S.data.toList.drop i := by rw [← hX, Lib.extract_data]; exact List.take_of_length_le (by simp)
 have HP := Lib.hid (fun W => by have := Tryz.strings_HasPrefix X t W; rw [hXl, ht] at this; exact (this : Calls Tryz.prog 85 #[.string X, .string t] W fun e w' => e = .returned (.bool false) ∧ w' = W))
 have HP2 := Lib.hid (fun W => (HP.out W).mono fun e w' (h : e = .returned (.bool false) ∧ w' = W) => (⟨h.1, h.2.symm⟩ : e = .returned (.bool false) ∧ W = w'))
 have HX := Lib.hid hX
 clear hX hXl ht HP
 go_enter Tryz.func63, Tryz.ntmps63
 go_wp2_with fail
 refine wp_region_steps2 [(true, 0), (true, 1), (true, 2), (true, 3), (true, 4), (true, 5), (true, 6), (true, 7), (true, 8), (true, 9), (false, 10)] (by kernel_rfl) (by kernel_rfl) rfl (by kernel_rfl) (fun _ _ _ _ _ h => h) HM.out _ (.cons_cons _ (List.nil_sublist _)) ?_
 intro hNE W1 HM1; replace HM := Lib.hid HM1; clear HM1
 have HS0 := Lib.hid (HM.out.sub (.cons_cons _ (List.nil_sublist _)))
 simp only [wpSteps, List.getElem?_cons_succ, List.getElem?_cons_zero]
 (repeat (first | ((with_reducible refine wpQuiet_nil ?_); (try dsimp only)) | refine mQ ?_ | ((with_reducible refine qat 13 ?_); (refine qsslf rfl rfl (i := i) rfl hi ?_; rw [HX.out])) | go_big_quiet_step (fail) | quiet_step (fail)))
 go_wp2_with (first | (go_at_call 85; with_reducible refine cQ (HP2.out _) ?_))
 refine ⟨⟨⟨_, HM.out.sub (by repeat (first | exact List.nil_sublist _ | with_reducible refine List.Sublist.cons_cons _ ?_ | refine List.Sublist.cons _ ?_))⟩, rfl⟩, ?_⟩
 (try dsimp only)
 clear HS0 hNE
 go_wp2_with fail
 go_ret
 exact ⟨rfl, HM.out⟩

end Go.Proofs.YtanncakdlflopaaGreatDoor

namespace Go.Proofs.YtanncakdlflopaaGreatDoor
open Go.RowKit
set_option linter.unusedVariables false
set_option linter.unusedSimpArgs false
set_option maxRecDepth 100000

end Go.Proofs.YtanncakdlflopaaGreatDoor
