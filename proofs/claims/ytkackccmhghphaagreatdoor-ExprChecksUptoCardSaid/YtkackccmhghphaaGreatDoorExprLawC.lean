/- The law ExprChecks: its walk. (fast) -/
import Derived.Test.YtkackccmhghphaaGreatDoorExprLawK
import Derived.Test.YtkackccmhghphaaGreatDoorExprParts
import Derived.Test.YtkackccmhghphaaGreatDoorRefCheck
namespace Go.Proofs.YtkackccmhghphaaGreatDoor
open Go.RowKit
set_option linter.unusedVariables false
set_option linter.unusedSimpArgs false
set_option maxRecDepth 100000

theorem placeF_lens (ns : List NodeD) : ∀ (m i : Nat) (hs : List Nat) (ps parts : List (List Nat)) (hv : List Nat), hs.length ≤ i → (∀ (j : Nat) (l : List Nat), ps[j]? = some l → l.length ≤ j) → ps.length = i → placeF ns m i hs ps = some (parts, hv) → ∀ (j : Nat) (l : List Nat), parts[j]? = some l → l.length ≤ j
 | 0, i, hs, ps, parts, hv, h1, h2, h3, h => by
  simp only [placeF, Option.some.injEq, Prod.mk.injEq] at h
  rw [← h.1]
  exact h2
 | m + 1, i, hs, ps, parts, hv, h1, h2, h3, h => by
  unfold placeF at h
  cases hn : ns[i]? with
  | none => rw [hn] at h; cases h
  | some n =>
   rw [hn] at h
   simp only at h
   split at h
   ·refine placeF_lens ns m (i + 1) _ _ parts hv (by rw [List.length_append, List.length_take]; simp; omega) (fun j l hj => ?_) (by rw [List.length_append, h3]; rfl) h
    rw [List.getElem?_append] at hj
    split at hj
    ·exact h2 j l hj
    ·rw [List.getElem?_singleton] at hj
     split at hj
     ·cases hj
      rw [List.length_drop]
      omega
     ·cases hj
   ·cases h
theorem partsV_len (ns : List NodeD) (at_ : Int) : (partsV ns at_).1.length ≤ 300 := by
 unfold partsV
 by_cases h1 : 300 < ns.length
 ·rw [if_pos h1]; exact Nat.zero_le _
 rw [if_neg h1]
 by_cases h2 : at_ < 0 ∨ (ns.length : Int) ≤ at_
 ·rw [if_pos h2]; exact Nat.zero_le _
 rw [if_neg h2]
 cases hp : placeF ns (at_.toNat + 1) 0 [] [] with
 | none => exact Nat.zero_le _
 | some x =>
  obtain ⟨parts, hv⟩ := x
  show (parts.getD at_.toNat []).length ≤ 300
  rw [List.getD_eq_getElem?_getD]
  cases hx : parts[at_.toNat]? with
  | none => exact Nat.zero_le _
  | some l =>
   have := placeF_lens ns _ 0 [] [] parts hv (Nat.le_refl _) (fun j l h => by simp at h) rfl hp _ l hx
   have h3 := not_or.1 h2
   show l.length ≤ 300
   omega
set_option maxHeartbeats 16000000 in
theorem exprChecks_walk (p : Option Addr) (c : Nat) (l : List NodeD) (tests : Bool) (at_ : Int) (w : World) (hN : Sl w p (l.flatMap NodeD.cs)) (hwf : ∀ (i : Nat) (n : NodeD), l[i]? = some n → n.wf) (hl : l.length ≤ 1048576) (hc : l.length ≤ c) (hT : U8 w) :
  Calls Tryz.prog 6 #[.slice p l.length c, .bool tests, .int .i64 at_] w fun e w' => e = .returned (.bool true) ∧ Below w.heap.size w w' := by
 have HM := Lib.hid (Mem.start w)
 have HT := Lib.hid hT
 have HN := Lib.hid hN
 obtain ⟨v, hv⟩ : ∃ v, checkC l tests = v := ⟨_, rfl⟩
 have HA := Lib.hid (fun W h1 h2 => eCheck_any p c l tests W h1 hwf (by omega) h2)
 have HB := Lib.hid (fun W h1 => rCheck_any p c l tests W h1 hwf (by omega))
 rw [hv] at HA HB
 obtain ⟨⟨P, er⟩, hP⟩ : ∃ r, partsV l at_ = r := ⟨_, rfl⟩
 have HC := Lib.hid (fun W h1 => rparts_any p c l at_ W h1 (by omega))
 have HD := Lib.hid (fun W h1 => parts_any p c l at_ W h1 hc (by omega))
 unfold PartsPost at HC HD
 simp only [hP] at HC HD
 have q0 : (v != v) = false := by simp
 have q1 : (er != er) = false := by simp
 have q2 : ((P.length : Int) != P.length) = false := by simp
 have hPb : P.length ≤ 4611686018427387904 := by have := partsV_len l at_; rw [hP] at this; exact Nat.le_trans this (by decide)
 clear hT hN hwf hv hP
 go_enter Tryz.func6, Tryz.ntmps6
 go_wp2_with (first | (go_at_call 11; (with_reducible refine (xknown_any _ (U8.below HT.out HM.out.below)).mono ?_); rintro e W1 ⟨rfl, hb⟩; replace HM := Lib.hid (HM.out.next hb); clear hb) | (go_at_call 15; (with_reducible refine (HA.out _ (HM.out.sl HN.out) (U8.below HT.out HM.out.below)).mono ?_); rintro e W1 ⟨rfl, hb⟩; replace HM := Lib.hid (HM.out.next hb); clear hb) | (go_at_call 18; (with_reducible refine (HB.out _ (HM.out.sl HN.out)).mono ?_); rintro e W1 ⟨rfl, hb⟩; replace HM := Lib.hid (HM.out.next hb); clear hb) | (go_at_call 19; (with_reducible refine (HC.out _ (HM.out.sl HN.out)).mono ?_); rintro e W2 ⟨q, dd, rfl, hM2⟩; have HM1 := Lib.hid (HM.out.comp2 hM2); clear HM hM2; (try clear W1); rename World => W1; have HM := HM1; clear HM1; simp only [List.cons_append, List.nil_append] at HM) | (go_at_call 20; (with_reducible refine (HD.out _ (HM.out.sl HN.out)).mono ?_); rintro e W2 ⟨q', dd', rfl, hM2⟩; have HM1 := Lib.hid (HM.out.comp2 hM2); clear HM hM2; (try clear W1); rename World => W1; have HM := HM1; clear HM1; simp only [List.cons_append, List.nil_append] at HM) | ((with_reducible refine igd ?_); (with_reducible refine skip_op ?_ ?_); (exact rfl)) | ((with_reducible refine iload ?_); first | refine ldb1 HM.out 0 rfl rfl rfl ?_))
 go_loopw [11] (fun iv wr => ∃ i : Nat, iv = .int .i64 i ∧ i ≤ P.length ∧ Hid (Mem w wr [.row q' dd' 3 1 P.length (intL P), .row q dd 3 1 P.length (intL P)])) (fun iv _ => P.length - (intOf iv).toNat)
 case atStart => exact ⟨0, rfl, Nat.zero_le _, HM⟩
 case round =>
  clear HM
  obtain ⟨i, rfl, hi, HM⟩ := hrel
  by_cases hlt : i < P.length
  ·obtain ⟨b1, rfl, -⟩ := (row_sl (HM.out.get (k := 1) rfl)).some_at intC_len (by decide) hlt
   obtain ⟨b2, rfl, -⟩ := (row_sl (HM.out.get (k := 0) rfl)).some_at intC_len (by decide) hlt
   obtain ⟨pl, hpl⟩ : ∃ pl, P[i]? = some pl := ⟨_, List.getElem?_eq_getElem hlt⟩
   have HPi := Lib.hid (intL_at hpl)
   have e3 : decide ((i : Int) < P.length) = true := decide_eq_true (by omega)
   have q3 : ((pl : Int) != pl) = false := by simp
   clear hpl
   go_wp2_with fail
   refine wp_region_mem (by kernel_rfl) (by kernel_rfl) HM.out ?_; intro hNE; (repeat (any_goals (first | ((with_reducible refine qgd ?_); (with_reducible refine skip_q ?_ ?_ ?_); (exact rfl); (rotate_left; (exact (hNE.elim fun p => ⟨p.W, p, rfl⟩)))) | ((with_reducible refine qnilCheck ?_); (refine qnil rfl ?_)) | ((with_reducible refine qat 53 ?_); (refine qixa rfl rfl rfl hlt ?_)) | ((with_reducible refine qat 57 ?_); (refine qixa rfl rfl rfl hlt ?_)) | ((with_reducible refine qat 54 ?_); (refine qd1 (v := .int .i64 (pl : Int)) rfl (fun W ⟨q, hq⟩ => hq ▸ row_cell (q.mem.get (k := 1) rfl) HPi.out) ?_)) | ((with_reducible refine qat 58 ?_); (refine qd1 (v := .int .i64 (pl : Int)) rfl (fun W ⟨q, hq⟩ => hq ▸ row_cell (q.mem.get (k := 0) rfl) HPi.out) ?_)) | go_big_quiet_step (fail) | quiet_step (fail)))); clear hNE; refine wpQuiet_nil ?_; intro W1 HM1; replace HM := Lib.hid HM1; clear HM1
   go_wp2_with fail
   go_roundw
   case rel => exact ⟨i + 1, by go_num, by omega, HM⟩
   case measure => simp [intOf]; omega
  ·obtain rfl : i = P.length := by omega
   have e3 : decide ((P.length : Int) < P.length) = false := decide_eq_false (by omega)
   go_wp2_with fail
   first | go_ret | go_ret2
   exact ⟨rfl, HM.out.below⟩
end Go.Proofs.YtkackccmhghphaaGreatDoor
