/- Is an element right by itself: the package's right, the reference's elem. (short) -/
import Derived.Test.YtanncakdlflopaaGreatDoorTreeAB
namespace Go.Proofs.YtanncakdlflopaaGreatDoor
open Go.RowKit
set_option linter.unusedVariables false
set_option linter.unusedSimpArgs false
set_option maxRecDepth 100000

set_option maxHeartbeats 16000000 in
theorem tright_any (n t : ByteArray) (up : Int) (l : List AtD) (p : Option Addr) (c : Nat) (W : World) (hT : U8 W) (hA : Sl W p (l.flatMap AtD.cs)) (hc : l.length ≤ c) (hz : szOk ⟨n, up, l, t⟩) :
  Calls Tryz.prog 26 #[.agg #[.string n, .int .i64 up, .slice p l.length c, .string t]] W fun e w' => e = .returned (.bool (rightB ⟨n, up, l, t⟩)) ∧ Below W.heap.size W w' := by
 obtain ⟨hzn, hzt, hza⟩ := hz
 dsimp only at hzn hzt hza
 have HM := Lib.hid (Mem.start W)
 have HT := Lib.hid hT
 have HA := Lib.hid hA
 have HZ := Lib.hid hza
 have HN := Lib.hid (fun W => mname_any n W hzn)
 have HV := Lib.hid (fun W h => valid_any t W (by omega) h)
 obtain ⟨rr, hrr⟩ : ∃ x, rightB ⟨n, up, l, t⟩ = x := ⟨_, rfl⟩
 rw [hrr]
 have HR := Lib.hid hrr
 clear hT hA hza hrr
 cases h1 : nameM n with
 | false =>
  rw [h1] at HN
  have HF := Lib.hid ((HR.out).symm.trans (right_name h1))
  clear h1
  as_aux_lemma =>
  go_enter Tryz.func26, Tryz.ntmps26
  go_wp2_with (first | (go_at_call 44; (with_reducible refine cB HM (HN.out _) ?_); clear HM; intro W1 HM) | (go_at_call 41; (with_reducible refine cB HM (HV.out _ (HT.out.below HM.out.below)) ?_); clear HM; intro W1 HM) | ((with_reducible refine skip_op ?_ ?_); exact rfl) | refine mP ?_ | (refine mS ?_; clear HM; intro W1 HM) | ((with_reducible refine iat 1 ?_); refine mB ?_; clear HM; intro g1 W1 HM) | (refine hal HM rfl ?_; clear HM; intro g1 W1 HM))
  go_ret
  exact ⟨by rw [HF.out]; rfl, HM.out.below⟩
 | true =>
 rw [h1] at HN
 cases h2 : textB t with
 | false =>
  rw [h2] at HV
  have HF := Lib.hid ((HR.out).symm.trans (right_text h2))
  clear h1 h2
  as_aux_lemma =>
  go_enter Tryz.func26, Tryz.ntmps26
  go_wp2_with (first | (go_at_call 44; (with_reducible refine cB HM (HN.out _) ?_); clear HM; intro W1 HM) | (go_at_call 41; (with_reducible refine cB HM (HV.out _ (HT.out.below HM.out.below)) ?_); clear HM; intro W1 HM) | ((with_reducible refine skip_op ?_ ?_); exact rfl) | refine mP ?_ | (refine mS ?_; clear HM; intro W1 HM) | ((with_reducible refine iat 1 ?_); refine mB ?_; clear HM; intro g1 W1 HM) | (refine hal HM rfl ?_; clear HM; intro g1 W1 HM))
  go_ret
  exact ⟨by rw [HF.out]; rfl, HM.out.below⟩
 | true =>
 rw [h2] at HV
 by_cases h3 : 16 < l.length
 ·have d0 : decide ((16 : Int) < (l.length : Int)) = true := decide_eq_true (by omega)
  have HF := Lib.hid ((HR.out).symm.trans (right_many h3))
  clear h1 h2 h3
  as_aux_lemma =>
  go_enter Tryz.func26, Tryz.ntmps26
  go_wp2_with (first | (go_at_call 44; (with_reducible refine cB HM (HN.out _) ?_); clear HM; intro W1 HM) | (go_at_call 41; (with_reducible refine cB HM (HV.out _ (HT.out.below HM.out.below)) ?_); clear HM; intro W1 HM) | ((with_reducible refine skip_op ?_ ?_); exact rfl) | refine mP ?_ | (refine mS ?_; clear HM; intro W1 HM) | ((with_reducible refine iat 1 ?_); refine mB ?_; clear HM; intro g1 W1 HM) | (refine hal HM rfl ?_; clear HM; intro g1 W1 HM))
  go_ret
  exact ⟨by rw [HF.out]; rfl, HM.out.below⟩
 have d0 : decide ((16 : Int) < (l.length : Int)) = false := decide_eq_false (by omega)
 have HY := Lib.hid (fun h4 h5 => (HR.out).symm.trans (right_yes (up := up) h1 h2 h3 h4 h5))
 clear h1 h2
 go_enter Tryz.func26, Tryz.ntmps26
 go_wp2_with (first | (go_at_call 44; (with_reducible refine cB HM (HN.out _) ?_); clear HM; intro W1 HM) | (go_at_call 41; (with_reducible refine cB HM (HV.out _ (HT.out.below HM.out.below)) ?_); clear HM; intro W1 HM) | ((with_reducible refine skip_op ?_ ?_); exact rfl) | refine mP ?_ | (refine mS ?_; clear HM; intro W1 HM) | ((with_reducible refine iat 1 ?_); refine mB ?_; clear HM; intro g1 W1 HM) | (refine hal HM rfl ?_; clear HM; intro g1 W1 HM))
 clear HN HV
 go_loopw [26] (fun iv wr => ∃ i : Nat, iv = .int .i64 i ∧ i ≤ l.length ∧ Hid ((l.take i).all atOk = true) ∧ Hid (dupA (l.take i) = false) ∧ Hid (Mem W wr [.box g1 42 [.string n, .int .i64 up, .slice p l.length c, .string t]])) (fun iv _ => l.length - (intOf iv).toNat)
 case atStart => exact ⟨0, rfl, by omega, Lib.hid rfl, Lib.hid rfl, HM⟩
 case round =>
  clear HM
  obtain ⟨i, rfl, hi, HQ, HU, HM⟩ := hrel
  by_cases hlt : i < l.length
  ·obtain ⟨b, rfl, hb⟩ := HA.out.some_at AtD.cs_len (by decide) hlt
   obtain ⟨a, ha⟩ : ∃ x, l[i]? = some x := ⟨_, List.getElem?_eq_getElem hlt⟩
   have hza := HZ.out a (List.mem_of_getElem? ha)
   obtain ⟨a1, a2⟩ := a
   have EA := Lib.hid (show Cells W (b.add (i * 2)) [.string a1, .string a2] from hb.elem AtD.cs 2 AtD.cs_len ha)
   have HC := Lib.hid hb
   have HI := Lib.hid ha
   have d1 : decide ((i : Int) < l.length) = true := decide_eq_true (by omega)
   have hlt3 := Lib.hid (show i + 1 ≤ l.length from hlt)
   have HN := Lib.hid (fun W => mname_any a1 W hza.1)
   have HV := Lib.hid (fun W h => valid_any a2 W (by have := hza.2; dsimp only at this; omega) h)
   clear hb hza
   cases h1 : nameM a1 with
   | false =>
    rw [h1] at HN
    have HF := Lib.hid ((HR.out).symm.trans (right_at ha (by unfold atOk; rw [h1]; rfl)))
    clear h1 ha
    as_aux_lemma =>
    go_wp2_with (first | ((with_reducible refine iat 29 ?_); (refine ixa (i := i) rfl rfl rfl hlt ?_)) | ((with_reducible refine iat 30 ?_); (refine ldxW (HM.out.olds EA.out) rfl rfl ?_)) | (go_at_call 44; (with_reducible refine cB HM (HN.out _) ?_); clear HM; intro W1 HM) | (go_at_call 41; (with_reducible refine cB HM (HV.out _ (HT.out.below HM.out.below)) ?_); clear HM; intro W1 HM) | ((with_reducible refine skip_op ?_ ?_); exact rfl) | refine mP ?_ | (refine mS ?_; clear HM; intro W1 HM) | (refine hal (dst := some 4) HM rfl ?_; clear HM; intro g4 W1 HM) | (refine hal HM rfl ?_; clear HM; intro g1 W1 HM) | (refine mB ?_; clear HM; intro g1 W1 HM))
    go_ret
    exact ⟨by rw [HF.out]; rfl, HM.out.below⟩
   | true =>
   rw [h1] at HN
   cases h2 : textB a2 with
   | false =>
    rw [h2] at HV
    have HF := Lib.hid ((HR.out).symm.trans (right_at ha (by unfold atOk; rw [h2, Bool.and_false])))
    clear h1 h2 ha
    as_aux_lemma =>
    go_wp2_with (first | ((with_reducible refine iat 29 ?_); (refine ixa (i := i) rfl rfl rfl hlt ?_)) | ((with_reducible refine iat 30 ?_); (refine ldxW (HM.out.olds EA.out) rfl rfl ?_)) | (go_at_call 44; (with_reducible refine cB HM (HN.out _) ?_); clear HM; intro W1 HM) | (go_at_call 41; (with_reducible refine cB HM (HV.out _ (HT.out.below HM.out.below)) ?_); clear HM; intro W1 HM) | ((with_reducible refine skip_op ?_ ?_); exact rfl) | refine mP ?_ | (refine mS ?_; clear HM; intro W1 HM) | (refine hal (dst := some 4) HM rfl ?_; clear HM; intro g4 W1 HM) | (refine hal HM rfl ?_; clear HM; intro g1 W1 HM) | (refine mB ?_; clear HM; intro g1 W1 HM))
    go_ret
    exact ⟨by rw [HF.out]; rfl, HM.out.below⟩
   | true =>
   rw [h2] at HV
   have HQ2 := Lib.hid (all_next ha HQ.out (by unfold atOk; rw [h1, h2]; rfl))
   have HDn := Lib.hid (dupA_next ha)
   have hic : i ≤ c := by omega
   clear h1 h2 ha HQ
   as_aux_lemma =>
   go_wp2_with (first | ((with_reducible refine iat 29 ?_); (refine ixa (i := i) rfl rfl rfl hlt ?_)) | ((with_reducible refine iat 30 ?_); (refine ldxW (HM.out.olds EA.out) rfl rfl ?_)) | ((with_reducible refine iat 44 ?_); (refine sltx rfl rfl rfl hic ?_)) | (go_at_call 44; (with_reducible refine cB HM (HN.out _) ?_); clear HM; intro W1 HM) | (go_at_call 41; (with_reducible refine cB HM (HV.out _ (HT.out.below HM.out.below)) ?_); clear HM; intro W1 HM) | ((with_reducible refine skip_op ?_ ?_); exact rfl) | refine mP ?_ | (refine mS ?_; clear HM; intro W1 HM) | (refine hal (dst := some 4) HM rfl ?_; clear HM; intro g4 W1 HM) | (refine hal HM rfl ?_; clear HM; intro g1 W1 HM) | (refine mB ?_; clear HM; intro g1 W1 HM))
   clear HN HV
   go_loopw [46] (fun jv wr => ∃ j : Nat, jv = .int .i64 j ∧ j ≤ i ∧ Hid (((l.take j).any fun b => a1.toList == b.1.toList) = false) ∧ Hid (Mem W wr [.box g4 44 [.string a1, .string a2], .box g1 42 [.string n, .int .i64 up, .slice (some b) l.length c, .string t]])) (fun jv _ => i - (intOf jv).toNat)
   case atStart => exact ⟨0, rfl, by omega, Lib.hid rfl, HM⟩
   case round =>
    clear HM
    obtain ⟨j, rfl, hj, HJ, HM⟩ := hrel
    by_cases hji : j < i
    ·obtain ⟨bb, hbb⟩ : ∃ x, l[j]? = some x := ⟨_, List.getElem?_eq_getElem (by omega)⟩
     have HNj := Lib.hid (any_next (fun b : AtD => a1.toList == b.1.toList) hbb)
     have HJj := Lib.hid hbb
     obtain ⟨b1, b2⟩ := bb
     have EB := Lib.hid (show Cells W (b.add (j * 2)) [.string b1, .string b2] from HC.out.elem AtD.cs 2 AtD.cs_len hbb)
     have d2 : decide ((j : Int) < (i : Int)) = true := decide_eq_true (by omega)
     have hj3 := Lib.hid (show j + 1 ≤ i from hji)
     clear hbb
     cases hq : (a1.toList == b1.toList) with
     | true =>
      have HF := Lib.hid ((HR.out).symm.trans (right_dup HI.out HJj.out hji hq))
      as_aux_lemma =>
      go_wp2_with (first | ((with_reducible refine iat 48 ?_); (refine ixa (i := j) rfl rfl rfl hji ?_)) | ((with_reducible refine iat 49 ?_); (refine ldxW (HM.out.olds EB.out) rfl rfl ?_)) | ((with_reducible refine skip_op ?_ ?_); exact rfl) | refine mP ?_ | (refine mS ?_; clear HM; intro W1 HM) | (refine hal (dst := some 6) HM rfl ?_; clear HM; intro g6 W1 HM) | (refine hal HM rfl ?_; clear HM; intro g1 W1 HM) | (refine mB ?_; clear HM; intro g1 W1 HM))
      go_ret
      exact ⟨by rw [HF.out]; rfl, HM.out.below⟩
     | false =>
      have HJ2 := Lib.hid (show ((l.take (j + 1)).any fun b => a1.toList == b.1.toList) = false by rw [HNj.out, HJ.out, hq]; rfl)
      as_aux_lemma =>
      go_wp2_with (first | ((with_reducible refine iat 48 ?_); (refine ixa (i := j) rfl rfl rfl hji ?_)) | ((with_reducible refine iat 49 ?_); (refine ldxW (HM.out.olds EB.out) rfl rfl ?_)) | ((with_reducible refine skip_op ?_ ?_); exact rfl) | refine mP ?_ | (refine mS ?_; clear HM; intro W1 HM) | (refine hal (dst := some 6) HM rfl ?_; clear HM; intro g6 W1 HM) | (refine hal HM rfl ?_; clear HM; intro g1 W1 HM) | (refine mB ?_; clear HM; intro g1 W1 HM))
      go_roundw
      case rel => exact ⟨j + 1, by go_num, hj3.out, HJ2, Lib.hid (HM.out.sub (.cons _ (.refl _)))⟩
      case measure => have := hj3.out; simp [intOf]; omega
    ·obtain rfl : j = i := by omega
     have d2 : decide ((j : Int) < (j : Int)) = false := by simp
     have HU2 := Lib.hid (show dupA (l.take (j + 1)) = false by rw [HDn.out, HU.out, HJ.out]; rfl)
     as_aux_lemma =>
     go_wp2_with fail
     go_roundw
     case rel => exact ⟨j + 1, by go_num, hlt3.out, HQ2, HU2, Lib.hid (HM.out.sub (.cons _ (.refl _)))⟩
     case measure => have := hlt3.out; simp [intOf]; omega
  ·obtain rfl : i = l.length := by omega
   have d1 : decide ((l.length : Int) < l.length) = false := by simp
   have HF := Lib.hid (HY.out (by have := HQ.out; rwa [List.take_length] at this) (by have := HU.out; rwa [List.take_length] at this))
   as_aux_lemma =>
   go_wp2_with fail
   go_ret
   exact ⟨by rw [HF.out]; rfl, HM.out.below⟩

set_option maxHeartbeats 16000000 in
theorem relem_any (n t : ByteArray) (up : Int) (l : List AtD) (p : Option Addr) (c : Nat) (W : World) (hA : Sl W p (l.flatMap AtD.cs)) (hz : szOk ⟨n, up, l, t⟩) :
  Calls Tryz.prog 27 #[.agg #[.string n, .int .i64 up, .slice p l.length c, .string t]] W fun e w' => e = .returned (.bool (rightB ⟨n, up, l, t⟩)) ∧ Below W.heap.size W w' := by
 obtain ⟨hzn, hzt, hza⟩ := hz
 dsimp only at hzn hzt hza
 have HM := Lib.hid (Mem.start W)
 have HA := Lib.hid hA
 have HZ := Lib.hid hza
 have HN := Lib.hid (fun W => rmname_q n W hzn)
 have HV := Lib.hid (fun W => rValid_any t W hzt)
 obtain ⟨rr, hrr⟩ : ∃ x, rightB ⟨n, up, l, t⟩ = x := ⟨_, rfl⟩
 rw [hrr]
 have HR := Lib.hid hrr
 clear hA hza hrr
 cases h1 : nameM n with
 | false =>
  rw [h1] at HN
  have HF := Lib.hid ((HR.out).symm.trans (right_name h1))
  clear h1
  as_aux_lemma =>
  go_enter Tryz.func27, Tryz.ntmps27
  go_wp2_with (first | (go_at_call 45; with_reducible refine cQ (HN.out _) ?_) | (go_at_call 36; (with_reducible refine cB HM (HV.out _) ?_); clear HM; intro W1 HM) | ((with_reducible refine skip_op ?_ ?_); exact rfl) | refine mP ?_ | ((with_reducible refine iat 1 ?_); refine mB ?_; clear HM; intro g1 W1 HM))
  go_ret
  exact ⟨by rw [HF.out]; rfl, HM.out.below⟩
 | true =>
 rw [h1] at HN
 cases h2 : textB t with
 | false =>
  rw [h2] at HV
  have HF := Lib.hid ((HR.out).symm.trans (right_text h2))
  clear h1 h2
  as_aux_lemma =>
  go_enter Tryz.func27, Tryz.ntmps27
  go_wp2_with (first | (go_at_call 45; with_reducible refine cQ (HN.out _) ?_) | (go_at_call 36; (with_reducible refine cB HM (HV.out _) ?_); clear HM; intro W1 HM) | ((with_reducible refine skip_op ?_ ?_); exact rfl) | refine mP ?_ | ((with_reducible refine iat 1 ?_); refine mB ?_; clear HM; intro g1 W1 HM))
  go_ret
  exact ⟨by rw [HF.out]; rfl, HM.out.below⟩
 | true =>
 rw [h2] at HV
 by_cases h3 : 16 < l.length
 ·have d0 : decide ((16 : Int) < (l.length : Int)) = true := decide_eq_true (by omega)
  have HF := Lib.hid ((HR.out).symm.trans (right_many h3))
  clear h1 h2 h3
  as_aux_lemma =>
  go_enter Tryz.func27, Tryz.ntmps27
  go_wp2_with (first | (go_at_call 45; with_reducible refine cQ (HN.out _) ?_) | (go_at_call 36; (with_reducible refine cB HM (HV.out _) ?_); clear HM; intro W1 HM) | ((with_reducible refine skip_op ?_ ?_); exact rfl) | refine mP ?_ | ((with_reducible refine iat 1 ?_); refine mB ?_; clear HM; intro g1 W1 HM))
  go_ret
  exact ⟨by rw [HF.out]; rfl, HM.out.below⟩
 have d0 : decide ((16 : Int) < (l.length : Int)) = false := decide_eq_false (by omega)
 have HY := Lib.hid (fun h4 h5 => (HR.out).symm.trans (right_yes (up := up) h1 h2 h3 h4 h5))
 clear h1 h2
 go_enter Tryz.func27, Tryz.ntmps27
 go_wp2_with (first | (go_at_call 45; with_reducible refine cQ (HN.out _) ?_) | (go_at_call 36; (with_reducible refine cB HM (HV.out _) ?_); clear HM; intro W1 HM) | ((with_reducible refine skip_op ?_ ?_); exact rfl) | refine mP ?_ | ((with_reducible refine iat 1 ?_); refine mB ?_; clear HM; intro g1 W1 HM))
 clear HN HV
 go_loopw [3] (fun iv wr => ∃ i : Nat, iv = .int .i64 i ∧ i ≤ l.length ∧ Hid ((l.take i).all atOk = true) ∧ Hid (dupA (l.take i) = false) ∧ Hid (Mem W wr [.box g1 42 [.string n, .int .i64 up, .slice p l.length c, .string t]])) (fun iv _ => l.length - (intOf iv).toNat)
 case atStart => exact ⟨0, rfl, by omega, Lib.hid rfl, Lib.hid rfl, HM⟩
 case round =>
  clear HM
  obtain ⟨i, rfl, hi, HQ, HU, HM⟩ := hrel
  by_cases hlt : i < l.length
  ·obtain ⟨b, rfl, hb⟩ := HA.out.some_at AtD.cs_len (by decide) hlt
   obtain ⟨a, ha⟩ : ∃ x, l[i]? = some x := ⟨_, List.getElem?_eq_getElem hlt⟩
   have hza := HZ.out a (List.mem_of_getElem? ha)
   obtain ⟨a1, a2⟩ := a
   have EA := Lib.hid (show Cells W (b.add (i * 2)) [.string a1, .string a2] from hb.elem AtD.cs 2 AtD.cs_len ha)
   have HC := Lib.hid hb
   have HI := Lib.hid ha
   have d1 : decide ((i : Int) < l.length) = true := decide_eq_true (by omega)
   have hlt3 := Lib.hid (show i + 1 ≤ l.length from hlt)
   have HN := Lib.hid (fun W => rmname_q a1 W hza.1)
   have HV := Lib.hid (fun W => rValid_any a2 W hza.2)
   clear hb hza
   cases h1 : nameM a1 with
   | false =>
    rw [h1] at HN
    have HF := Lib.hid ((HR.out).symm.trans (right_at ha (by unfold atOk; rw [h1]; rfl)))
    clear h1 ha
    as_aux_lemma =>
    go_wp2_with (first | ((with_reducible refine iat 31 ?_); (refine ixa (i := i) rfl rfl rfl hlt ?_)) | ((with_reducible refine iat 33 ?_); (refine ldx0 (HM.out.olds EA.out) rfl rfl ?_)) | ((with_reducible refine iat 40 ?_); (refine ixa (i := i) rfl rfl rfl hlt ?_)) | ((with_reducible refine iat 42 ?_); (refine ldx1 (HM.out.olds EA.out 1 _ rfl) rfl ?_)) | (go_at_call 45; with_reducible refine cQ (HN.out _) ?_) | (go_at_call 36; (with_reducible refine cB HM (HV.out _) ?_); clear HM; intro W1 HM) | ((with_reducible refine skip_op ?_ ?_); exact rfl) | refine mP ?_ | (refine mB ?_; clear HM; intro g1 W1 HM))
    go_ret
    exact ⟨by rw [HF.out]; rfl, HM.out.below⟩
   | true =>
   rw [h1] at HN
   cases h2 : textB a2 with
   | false =>
    rw [h2] at HV
    have HF := Lib.hid ((HR.out).symm.trans (right_at ha (by unfold atOk; rw [h2, Bool.and_false])))
    clear h1 h2 ha
    as_aux_lemma =>
    go_wp2_with (first | ((with_reducible refine iat 31 ?_); (refine ixa (i := i) rfl rfl rfl hlt ?_)) | ((with_reducible refine iat 33 ?_); (refine ldx0 (HM.out.olds EA.out) rfl rfl ?_)) | ((with_reducible refine iat 40 ?_); (refine ixa (i := i) rfl rfl rfl hlt ?_)) | ((with_reducible refine iat 42 ?_); (refine ldx1 (HM.out.olds EA.out 1 _ rfl) rfl ?_)) | (go_at_call 45; with_reducible refine cQ (HN.out _) ?_) | (go_at_call 36; (with_reducible refine cB HM (HV.out _) ?_); clear HM; intro W1 HM) | ((with_reducible refine skip_op ?_ ?_); exact rfl) | refine mP ?_ | (refine mB ?_; clear HM; intro g1 W1 HM))
    go_ret
    exact ⟨by rw [HF.out]; rfl, HM.out.below⟩
   | true =>
   rw [h2] at HV
   have HQ2 := Lib.hid (all_next ha HQ.out (by unfold atOk; rw [h1, h2]; rfl))
   have HDn := Lib.hid (dupA_next ha)
   clear h1 h2 ha HQ
   as_aux_lemma =>
   go_wp2_with (first | ((with_reducible refine iat 31 ?_); (refine ixa (i := i) rfl rfl rfl hlt ?_)) | ((with_reducible refine iat 33 ?_); (refine ldx0 (HM.out.olds EA.out) rfl rfl ?_)) | ((with_reducible refine iat 40 ?_); (refine ixa (i := i) rfl rfl rfl hlt ?_)) | ((with_reducible refine iat 42 ?_); (refine ldx1 (HM.out.olds EA.out 1 _ rfl) rfl ?_)) | (go_at_call 45; with_reducible refine cQ (HN.out _) ?_) | (go_at_call 36; (with_reducible refine cB HM (HV.out _) ?_); clear HM; intro W1 HM) | ((with_reducible refine skip_op ?_ ?_); exact rfl) | refine mP ?_ | (refine mB ?_; clear HM; intro g1 W1 HM))
   clear HN HV
   go_loopw [4] (fun jv wr => ∃ j : Nat, jv = .int .i64 j ∧ j ≤ i ∧ Hid (((l.take j).any fun b => a1.toList == b.1.toList) = false) ∧ Hid (Mem W wr [.box g1 42 [.string n, .int .i64 up, .slice (some b) l.length c, .string t]])) (fun jv _ => i - (intOf jv).toNat)
   case atStart => exact ⟨0, rfl, by omega, Lib.hid rfl, HM⟩
   case round =>
    clear HM
    obtain ⟨j, rfl, hj, HJ, HM⟩ := hrel
    by_cases hji : j < i
    ·have hjl : j < l.length := by omega
     obtain ⟨bb, hbb⟩ : ∃ x, l[j]? = some x := ⟨_, List.getElem?_eq_getElem hjl⟩
     have HNj := Lib.hid (any_next (fun b : AtD => a1.toList == b.1.toList) hbb)
     have HJj := Lib.hid hbb
     obtain ⟨b1, b2⟩ := bb
     have EB := Lib.hid (show Cells W (b.add (j * 2)) [.string b1, .string b2] from HC.out.elem AtD.cs 2 AtD.cs_len hbb)
     have d2 : decide ((j : Int) < (i : Int)) = true := decide_eq_true (by omega)
     have hj3 := Lib.hid (show j + 1 ≤ i from hji)
     clear hbb
     cases hq : (a1.toList == b1.toList) with
     | true =>
      have hq2 : (b1.toList == a1.toList) = true := by rw [BEq.comm]; exact hq
      have HF := Lib.hid ((HR.out).symm.trans (right_dup HI.out HJj.out hji hq))
      clear hq
      as_aux_lemma =>
      go_wp2_with fail
      refine wp_region_mem (by kernel_rfl) (by kernel_rfl) HM.out ?_; intro hNE; (repeat (any_goals (first | ((with_reducible refine qgd ?_); (with_reducible refine skip_q ?_ ?_ ?_); (exact rfl); (rotate_left; (exact (hNE.elim fun p => ⟨p.W, p, rfl⟩)))) | refine mQ ?_ | ((with_reducible refine qat 54 ?_); (refine qixa (i := j) rfl rfl rfl hjl ?_)) | ((with_reducible refine qat 60 ?_); (refine qixa (i := i) rfl rfl rfl hlt ?_)) | ((with_reducible refine qat 56 ?_); (refine qdx0 EB.out rfl rfl ?_)) | ((with_reducible refine qat 62 ?_); (refine qdx0 EA.out rfl rfl ?_)) | go_big_quiet_step (fail) | quiet_step (fail)))); clear hNE; refine wpQuiet_nil ?_; intro W1 HM1; replace HM := Lib.hid HM1; clear HM1
      go_wp2_with fail
      go_ret
      exact ⟨by rw [HF.out]; rfl, HM.out.below⟩
     | false =>
      have hq2 : (b1.toList == a1.toList) = false := by rw [BEq.comm]; exact hq
      have HJ2 := Lib.hid (show ((l.take (j + 1)).any fun b => a1.toList == b.1.toList) = false by rw [HNj.out, HJ.out, hq]; rfl)
      clear hq
      as_aux_lemma =>
      go_wp2_with fail
      refine wp_region_mem (by kernel_rfl) (by kernel_rfl) HM.out ?_; intro hNE; (repeat (any_goals (first | ((with_reducible refine qgd ?_); (with_reducible refine skip_q ?_ ?_ ?_); (exact rfl); (rotate_left; (exact (hNE.elim fun p => ⟨p.W, p, rfl⟩)))) | refine mQ ?_ | ((with_reducible refine qat 54 ?_); (refine qixa (i := j) rfl rfl rfl hjl ?_)) | ((with_reducible refine qat 60 ?_); (refine qixa (i := i) rfl rfl rfl hlt ?_)) | ((with_reducible refine qat 56 ?_); (refine qdx0 EB.out rfl rfl ?_)) | ((with_reducible refine qat 62 ?_); (refine qdx0 EA.out rfl rfl ?_)) | go_big_quiet_step (fail) | quiet_step (fail)))); clear hNE; refine wpQuiet_nil ?_; intro W1 HM1; replace HM := Lib.hid HM1; clear HM1
      go_wp2_with fail
      go_roundw
      case rel => exact ⟨j + 1, by go_num, hj3.out, HJ2, HM⟩
      case measure => have := hj3.out; simp [intOf]; omega
    ·obtain rfl : j = i := by omega
     have d2 : decide ((j : Int) < (j : Int)) = false := by simp
     have HU2 := Lib.hid (show dupA (l.take (j + 1)) = false by rw [HDn.out, HU.out, HJ.out]; rfl)
     as_aux_lemma =>
     go_wp2_with fail
     go_roundw
     case rel => exact ⟨j + 1, by go_num, hlt3.out, HQ2, HU2, HM⟩
     case measure => have := hlt3.out; simp [intOf]; omega
  ·obtain rfl : i = l.length := by omega
   have d1 : decide ((l.length : Int) < l.length) = false := by simp
   have HF := Lib.hid (HY.out (by have := HQ.out; rwa [List.take_length] at this) (by have := HU.out; rwa [List.take_length] at this))
   as_aux_lemma =>
   go_wp2_with (first | ((with_reducible refine skip_op ?_ ?_); exact rfl) | refine mP ?_ | (refine mB ?_; clear HM; intro g1 W1 HM))
   go_ret
   exact ⟨by rw [HF.out]; rfl, HM.out.below⟩
end Go.Proofs.YtanncakdlflopaaGreatDoor
