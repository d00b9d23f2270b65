/- The reader's interval. (fast) -/
import Derived.Test.YtkackccmhghphaaGreatDoorExprRd1
namespace Go.Proofs.YtkackccmhghphaaGreatDoor
open Go.RowKit
set_option linter.unusedVariables false
set_option linter.unusedSimpArgs false
set_option maxRecDepth 100000

section
variable {T : List TokD} {k : Nat} {d : Int} {b : Bool} {t : TokD}
theorem ivl_step (h : ivlF T (T.length - k) k d = b) (ht : T[k]? = some t) : (if t.kind = 6 then
        if t.text.toList = [40] ∨ t.text.toList = [91] ∨ t.text.toList = [123] then ivlF T (T.length - (k + 1)) (k + 1) (d + 1)
        else if t.text.toList = [41] ∨ t.text.toList = [93] ∨ t.text.toList = [125] then (if d - 1 = 0 then false else ivlF T (T.length - (k + 1)) (k + 1) (d - 1))
        else if t.text.toList = [46, 46] then (if d = 1 then true else ivlF T (T.length - (k + 1)) (k + 1) d)
        else ivlF T (T.length - (k + 1)) (k + 1) d
      else ivlF T (T.length - (k + 1)) (k + 1) d) = b := by
 have hk := some_lt ht
 rw [show T.length - k = (T.length - (k + 1)) + 1 by omega] at h
 unfold ivlF at h
 rw [ht] at h
 exact h
theorem ivl_end (h : ivlF T (T.length - k) k d = b) (hk : T.length ≤ k) : false = b := by
 rw [show T.length - k = 0 by omega] at h
 exact h
end

set_option maxHeartbeats 16000000 in
theorem xInterval (T : List TokD) (w0 W : World) (R : Nat) (tp : Option Addr) (tc i : Nat) (V : Value) (rest : List Res) (HT : Sl w0 tp (T.flatMap TokD.cs)) (HM0 : Mem w0 W (.box R 94 [.slice tp T.length tc, .int .i64 i, V] :: rest)) (hT : T.length ≤ 1000) (hi : i ≤ T.length) :
  Calls Tryz.prog 147 #[.pointer (some ⟨R, 0, none⟩)] W fun e w' => e = .returned (.bool (ivl T i)) ∧ Mem w0 w' (.box R 94 [.slice tp T.length tc, .int .i64 i, V] :: rest) := by
 have HM := Lib.hid HM0
 obtain ⟨b, hb⟩ : ∃ b, ivl T i = b := ⟨_, rfl⟩
 rw [hb]
 have HB := Lib.hid (show ivlF T (T.length - i) i 0 = b from hb)
 have HTk := Lib.hid HT
 clear HM0 hb HT
 go_enter Tryz.func147, Tryz.ntmps147
 go_wp2_with (first | ((with_reducible refine inilCheck ?_); (refine lnil rfl ?_)) | ((with_reducible refine iload ?_); first | refine ldb1 HM.out 0 rfl rfl rfl ?_))
 go_loopw [4, 3] (fun kv dv wr => ∃ (k : Nat) (d : Int), kv = .int .i64 k ∧ dv = .int .i64 d ∧ k ≤ T.length ∧ -(k : Int) ≤ d ∧ d ≤ k ∧ Hid (ivlF T (T.length - k) k d = b) ∧ Hid (Mem w0 wr (.box R 94 [.slice tp T.length tc, .int .i64 i, V] :: rest))) (fun kv _ _ => T.length - (intOf kv).toNat)
 case atStart => exact ⟨i, 0, rfl, rfl, hi, by omega, by omega, HB, HM⟩
 case round =>
  clear HM HB
  obtain ⟨k, d, rfl, rfl, hk, hd1, hd2, HB, HM⟩ := hrel
  by_cases hlt : k < T.length
  ·obtain ⟨t, ht⟩ : ∃ t, T[k]? = some t := ⟨_, List.getElem?_eq_getElem hlt⟩
   have hstep := ivl_step HB.out ht
   obtain ⟨a, rfl, ha⟩ := tokAt HTk.out ht
   obtain ⟨kd, tx, nu, sc, dy, pt⟩ := t
   have HE := Lib.hid ha
   have hlt3 := Lib.hid (show k + 1 ≤ T.length from hlt)
   have d1 : decide ((k : Int) < T.length) = true := decide_eq_true (by omega)
   dsimp only at hstep
   clear HB ha ht
   by_cases h6 : kd = 6
   ·subst h6
    rw [if_pos rfl] at hstep
    by_cases g0 : (tx.toList == [40]) = true
    ·have e : tx.toList = [40] := by simpa using g0
     rw [if_pos (by rw [e]; decide)] at hstep
     have HB := Lib.hid hstep
     clear hstep e
     go_wp2_with (first | ((with_reducible refine iat 23 ?_); (refine ixa rfl rfl rfl hlt ?_)) | ((with_reducible refine iat 25 ?_); (refine ldx0 (HM.out.olds HE.out) rfl rfl ?_)) | ((with_reducible refine iat 32 ?_); (refine ixa rfl rfl rfl hlt ?_)) | ((with_reducible refine iat 34 ?_); (refine ldxf (HM.out.olds HE.out) rfl rfl rfl ?_)) | ((with_reducible refine inilCheck ?_); (refine lnil rfl ?_)) | ((with_reducible refine iload ?_); first | refine ldb1 HM.out 0 rfl rfl rfl ?_))
     go_roundw
     case rel => exact ⟨k + 1, d + 1, by go_num, rfl, hlt3.out, by omega, by omega, HB, HM⟩
     case measure => have := hlt3.out; simp [intOf]; omega
    rw [Bool.not_eq_true] at g0
    by_cases g1 : (tx.toList == [91]) = true
    ·have e : tx.toList = [91] := by simpa using g1
     rw [if_pos (by rw [e]; decide)] at hstep
     have HB := Lib.hid hstep
     clear hstep e
     go_wp2_with (first | ((with_reducible refine iat 23 ?_); (refine ixa rfl rfl rfl hlt ?_)) | ((with_reducible refine iat 25 ?_); (refine ldx0 (HM.out.olds HE.out) rfl rfl ?_)) | ((with_reducible refine iat 32 ?_); (refine ixa rfl rfl rfl hlt ?_)) | ((with_reducible refine iat 34 ?_); (refine ldxf (HM.out.olds HE.out) rfl rfl rfl ?_)) | ((with_reducible refine inilCheck ?_); (refine lnil rfl ?_)) | ((with_reducible refine iload ?_); first | refine ldb1 HM.out 0 rfl rfl rfl ?_))
     go_roundw
     case rel => exact ⟨k + 1, d + 1, by go_num, rfl, hlt3.out, by omega, by omega, HB, HM⟩
     case measure => have := hlt3.out; simp [intOf]; omega
    rw [Bool.not_eq_true] at g1
    by_cases g2 : (tx.toList == [123]) = true
    ·have e : tx.toList = [123] := by simpa using g2
     rw [if_pos (by rw [e]; decide)] at hstep
     have HB := Lib.hid hstep
     clear hstep e
     go_wp2_with (first | ((with_reducible refine iat 23 ?_); (refine ixa rfl rfl rfl hlt ?_)) | ((with_reducible refine iat 25 ?_); (refine ldx0 (HM.out.olds HE.out) rfl rfl ?_)) | ((with_reducible refine iat 32 ?_); (refine ixa rfl rfl rfl hlt ?_)) | ((with_reducible refine iat 34 ?_); (refine ldxf (HM.out.olds HE.out) rfl rfl rfl ?_)) | ((with_reducible refine inilCheck ?_); (refine lnil rfl ?_)) | ((with_reducible refine iload ?_); first | refine ldb1 HM.out 0 rfl rfl rfl ?_))
     go_roundw
     case rel => exact ⟨k + 1, d + 1, by go_num, rfl, hlt3.out, by omega, by omega, HB, HM⟩
     case measure => have := hlt3.out; simp [intOf]; omega
    rw [Bool.not_eq_true] at g2
    by_cases g3 : (tx.toList == [41]) = true
    ·have e : tx.toList = [41] := by simpa using g3
     rw [if_neg (by rw [e]; decide), if_pos (by rw [e]; decide)] at hstep
     clear e
     by_cases hz : d - 1 = 0
     ·rw [if_pos hz] at hstep
      have q0 : (d - 1 == 0) = true := by simpa using hz
      clear hz
      have HB := Lib.hid hstep
      clear hstep
      go_wp2_with (first | ((with_reducible refine iat 23 ?_); (refine ixa rfl rfl rfl hlt ?_)) | ((with_reducible refine iat 25 ?_); (refine ldx0 (HM.out.olds HE.out) rfl rfl ?_)) | ((with_reducible refine iat 32 ?_); (refine ixa rfl rfl rfl hlt ?_)) | ((with_reducible refine iat 34 ?_); (refine ldxf (HM.out.olds HE.out) rfl rfl rfl ?_)) | ((with_reducible refine inilCheck ?_); (refine lnil rfl ?_)) | ((with_reducible refine iload ?_); first | refine ldb1 HM.out 0 rfl rfl rfl ?_))
      (first | go_ret | go_ret2)
      rw [← HB.out]
      exact ⟨rfl, HM.out⟩
     ·rw [if_neg hz] at hstep
      have q0 : (d - 1 == 0) = false := by simpa using hz
      have HB := Lib.hid hstep
      clear hstep
      go_wp2_with (first | ((with_reducible refine iat 23 ?_); (refine ixa rfl rfl rfl hlt ?_)) | ((with_reducible refine iat 25 ?_); (refine ldx0 (HM.out.olds HE.out) rfl rfl ?_)) | ((with_reducible refine iat 32 ?_); (refine ixa rfl rfl rfl hlt ?_)) | ((with_reducible refine iat 34 ?_); (refine ldxf (HM.out.olds HE.out) rfl rfl rfl ?_)) | ((with_reducible refine inilCheck ?_); (refine lnil rfl ?_)) | ((with_reducible refine iload ?_); first | refine ldb1 HM.out 0 rfl rfl rfl ?_))
      go_roundw
      case rel => exact ⟨k + 1, d - 1, by go_num, rfl, hlt3.out, by omega, by omega, HB, HM⟩
      case measure => have := hlt3.out; simp [intOf]; omega
    rw [Bool.not_eq_true] at g3
    by_cases g4 : (tx.toList == [93]) = true
    ·have e : tx.toList = [93] := by simpa using g4
     rw [if_neg (by rw [e]; decide), if_pos (by rw [e]; decide)] at hstep
     clear e
     by_cases hz : d - 1 = 0
     ·rw [if_pos hz] at hstep
      have q0 : (d - 1 == 0) = true := by simpa using hz
      clear hz
      have HB := Lib.hid hstep
      clear hstep
      go_wp2_with (first | ((with_reducible refine iat 23 ?_); (refine ixa rfl rfl rfl hlt ?_)) | ((with_reducible refine iat 25 ?_); (refine ldx0 (HM.out.olds HE.out) rfl rfl ?_)) | ((with_reducible refine iat 32 ?_); (refine ixa rfl rfl rfl hlt ?_)) | ((with_reducible refine iat 34 ?_); (refine ldxf (HM.out.olds HE.out) rfl rfl rfl ?_)) | ((with_reducible refine inilCheck ?_); (refine lnil rfl ?_)) | ((with_reducible refine iload ?_); first | refine ldb1 HM.out 0 rfl rfl rfl ?_))
      (first | go_ret | go_ret2)
      rw [← HB.out]
      exact ⟨rfl, HM.out⟩
     ·rw [if_neg hz] at hstep
      have q0 : (d - 1 == 0) = false := by simpa using hz
      have HB := Lib.hid hstep
      clear hstep
      go_wp2_with (first | ((with_reducible refine iat 23 ?_); (refine ixa rfl rfl rfl hlt ?_)) | ((with_reducible refine iat 25 ?_); (refine ldx0 (HM.out.olds HE.out) rfl rfl ?_)) | ((with_reducible refine iat 32 ?_); (refine ixa rfl rfl rfl hlt ?_)) | ((with_reducible refine iat 34 ?_); (refine ldxf (HM.out.olds HE.out) rfl rfl rfl ?_)) | ((with_reducible refine inilCheck ?_); (refine lnil rfl ?_)) | ((with_reducible refine iload ?_); first | refine ldb1 HM.out 0 rfl rfl rfl ?_))
      go_roundw
      case rel => exact ⟨k + 1, d - 1, by go_num, rfl, hlt3.out, by omega, by omega, HB, HM⟩
      case measure => have := hlt3.out; simp [intOf]; omega
    rw [Bool.not_eq_true] at g4
    by_cases g5 : (tx.toList == [125]) = true
    ·have e : tx.toList = [125] := by simpa using g5
     rw [if_neg (by rw [e]; decide), if_pos (by rw [e]; decide)] at hstep
     clear e
     by_cases hz : d - 1 = 0
     ·rw [if_pos hz] at hstep
      have q0 : (d - 1 == 0) = true := by simpa using hz
      clear hz
      have HB := Lib.hid hstep
      clear hstep
      go_wp2_with (first | ((with_reducible refine iat 23 ?_); (refine ixa rfl rfl rfl hlt ?_)) | ((with_reducible refine iat 25 ?_); (refine ldx0 (HM.out.olds HE.out) rfl rfl ?_)) | ((with_reducible refine iat 32 ?_); (refine ixa rfl rfl rfl hlt ?_)) | ((with_reducible refine iat 34 ?_); (refine ldxf (HM.out.olds HE.out) rfl rfl rfl ?_)) | ((with_reducible refine inilCheck ?_); (refine lnil rfl ?_)) | ((with_reducible refine iload ?_); first | refine ldb1 HM.out 0 rfl rfl rfl ?_))
      (first | go_ret | go_ret2)
      rw [← HB.out]
      exact ⟨rfl, HM.out⟩
     ·rw [if_neg hz] at hstep
      have q0 : (d - 1 == 0) = false := by simpa using hz
      have HB := Lib.hid hstep
      clear hstep
      go_wp2_with (first | ((with_reducible refine iat 23 ?_); (refine ixa rfl rfl rfl hlt ?_)) | ((with_reducible refine iat 25 ?_); (refine ldx0 (HM.out.olds HE.out) rfl rfl ?_)) | ((with_reducible refine iat 32 ?_); (refine ixa rfl rfl rfl hlt ?_)) | ((with_reducible refine iat 34 ?_); (refine ldxf (HM.out.olds HE.out) rfl rfl rfl ?_)) | ((with_reducible refine inilCheck ?_); (refine lnil rfl ?_)) | ((with_reducible refine iload ?_); first | refine ldb1 HM.out 0 rfl rfl rfl ?_))
      go_roundw
      case rel => exact ⟨k + 1, d - 1, by go_num, rfl, hlt3.out, by omega, by omega, HB, HM⟩
      case measure => have := hlt3.out; simp [intOf]; omega
    rw [Bool.not_eq_true] at g5
    by_cases g6 : (tx.toList == [46, 46]) = true
    ·have e : tx.toList = [46, 46] := by simpa using g6
     rw [if_neg (by rw [e]; decide), if_neg (by rw [e]; decide), if_pos e] at hstep
     clear e
     by_cases hz : d = 1
     ·rw [if_pos hz] at hstep
      have q0 : (d == 1) = true := by simpa using hz
      clear hz
      have HB := Lib.hid hstep
      clear hstep
      go_wp2_with (first | ((with_reducible refine iat 23 ?_); (refine ixa rfl rfl rfl hlt ?_)) | ((with_reducible refine iat 25 ?_); (refine ldx0 (HM.out.olds HE.out) rfl rfl ?_)) | ((with_reducible refine iat 32 ?_); (refine ixa rfl rfl rfl hlt ?_)) | ((with_reducible refine iat 34 ?_); (refine ldxf (HM.out.olds HE.out) rfl rfl rfl ?_)) | ((with_reducible refine inilCheck ?_); (refine lnil rfl ?_)) | ((with_reducible refine iload ?_); first | refine ldb1 HM.out 0 rfl rfl rfl ?_))
      (first | go_ret | go_ret2)
      rw [← HB.out]
      exact ⟨rfl, HM.out⟩
     ·rw [if_neg hz] at hstep
      have q0 : (d == 1) = false := by simpa using hz
      have HB := Lib.hid hstep
      clear hstep
      go_wp2_with (first | ((with_reducible refine iat 23 ?_); (refine ixa rfl rfl rfl hlt ?_)) | ((with_reducible refine iat 25 ?_); (refine ldx0 (HM.out.olds HE.out) rfl rfl ?_)) | ((with_reducible refine iat 32 ?_); (refine ixa rfl rfl rfl hlt ?_)) | ((with_reducible refine iat 34 ?_); (refine ldxf (HM.out.olds HE.out) rfl rfl rfl ?_)) | ((with_reducible refine inilCheck ?_); (refine lnil rfl ?_)) | ((with_reducible refine iload ?_); first | refine ldb1 HM.out 0 rfl rfl rfl ?_))
      go_roundw
      case rel => exact ⟨k + 1, d, by go_num, rfl, hlt3.out, by omega, by omega, HB, HM⟩
      case measure => have := hlt3.out; simp [intOf]; omega
    rw [Bool.not_eq_true] at g6
    rw [if_neg, if_neg, if_neg] at hstep
    ·have HB := Lib.hid hstep
     clear hstep
     go_wp2_with (first | ((with_reducible refine iat 23 ?_); (refine ixa rfl rfl rfl hlt ?_)) | ((with_reducible refine iat 25 ?_); (refine ldx0 (HM.out.olds HE.out) rfl rfl ?_)) | ((with_reducible refine iat 32 ?_); (refine ixa rfl rfl rfl hlt ?_)) | ((with_reducible refine iat 34 ?_); (refine ldxf (HM.out.olds HE.out) rfl rfl rfl ?_)) | ((with_reducible refine inilCheck ?_); (refine lnil rfl ?_)) | ((with_reducible refine iload ?_); first | refine ldb1 HM.out 0 rfl rfl rfl ?_))
     go_roundw
     case rel => exact ⟨k + 1, d, by go_num, rfl, hlt3.out, by omega, by omega, HB, HM⟩
     case measure => have := hlt3.out; simp [intOf]; omega
    ·intro h; rw [h] at g6; exact absurd g6 (by decide)
    ·rintro (h | h | h)
     ·rw [h] at g3; exact absurd g3 (by decide)
     ·rw [h] at g4; exact absurd g4 (by decide)
     ·rw [h] at g5; exact absurd g5 (by decide)
    ·rintro (h | h | h)
     ·rw [h] at g0; exact absurd g0 (by decide)
     ·rw [h] at g1; exact absurd g1 (by decide)
     ·rw [h] at g2; exact absurd g2 (by decide)
   ·rw [if_neg h6] at hstep
    have q6 : (kd != 6) = true := by simpa using h6
    have HB := Lib.hid hstep
    clear hstep
    go_wp2_with (first | ((with_reducible refine iat 23 ?_); (refine ixa rfl rfl rfl hlt ?_)) | ((with_reducible refine iat 25 ?_); (refine ldx0 (HM.out.olds HE.out) rfl rfl ?_)) | ((with_reducible refine iat 32 ?_); (refine ixa rfl rfl rfl hlt ?_)) | ((with_reducible refine iat 34 ?_); (refine ldxf (HM.out.olds HE.out) rfl rfl rfl ?_)) | ((with_reducible refine inilCheck ?_); (refine lnil rfl ?_)) | ((with_reducible refine iload ?_); first | refine ldb1 HM.out 0 rfl rfl rfl ?_))
    go_roundw
    case rel => exact ⟨k + 1, d, by go_num, rfl, hlt3.out, by omega, by omega, HB, HM⟩
    case measure => have := hlt3.out; simp [intOf]; omega
  ·have HE := Lib.hid (ivl_end HB.out (by omega))
   have d1 : decide ((k : Int) < T.length) = false := decide_eq_false (by omega)
   go_wp2_with (first | ((with_reducible refine inilCheck ?_); (refine lnil rfl ?_)) | ((with_reducible refine iload ?_); first | refine ldb1 HM.out 0 rfl rfl rfl ?_))
   (first | go_ret | go_ret2)
   rw [← HE.out]
   exact ⟨rfl, HM.out⟩
end Go.Proofs.YtkackccmhghphaaGreatDoor
