/- Lists: the reader of expressions. (fast) -/
import Derived.Test.YtkackccmhghphaaGreatDoorExprRd4
namespace Go.Proofs.YtkackccmhghphaaGreatDoor
open Go.RowKit
set_option linter.unusedVariables false
set_option linter.unusedSimpArgs false
set_option maxRecDepth 100000

set_option maxHeartbeats 8000000 in
theorem xListE {T : List TokD} (hT : TksOk T) (fuel : Nat) (ihE : ∀ g, g ≤ fuel → XC T 49 .expr g) (ch : UInt8) (x : ByteArray) (hx : x.data.toList = [ch]) (w0 W : World) (R : Nat) (tp : Option Addr) (tc i : Nat) (op : Option Addr) (oc : Nat) (acc : List NodeD) (rest : List Res) (HTk : Sl w0 tp (T.flatMap TokD.cs)) (HM0 : Mem w0 W (.box R 94 [.slice tp T.length tc, .int .i64 i, .slice op acc.length oc] :: .row op oc 36 8 acc.length (acc.flatMap NodeD.cs) :: rest))
  (hi : i ≤ T.length) (ha : acc.length ≤ i + 2) (hne : G T (fuel + 1) (.list ch) i ≠ .out) :
  Calls Tryz.prog 219 #[.pointer (some ⟨R, 0, none⟩), .string x, .func (.func 49) #[.pointer (some ⟨R, 0, none⟩)] #[]] W (XPost (G T (fuel + 1) (.list ch) i) cntV w0 R tp T.length tc acc rest) := by
 obtain ⟨r, hr⟩ : ∃ r, G T (fuel + 1) (.list ch) i = r := ⟨_, rfl⟩
 rw [hr] at hne ⊢
 have HR := Lib.hid hr
 clear hr
 have hr : r ≠ .out := hne
 have HM := Lib.hid HM0
 have HTk := Lib.hid HTk
 have hT1 := hT.len
 clear HM0 hne
 simp only [G] at HR
 cases hb : isT T i [ch] with
 | true =>
  rw [hb, if_pos rfl] at HR
  have HB := Lib.hid hb
  clear hb
  go_enter Tryz.func219, Tryz.ntmps219
  go_wp2_with (first | (go_at_call 72; (with_reducible refine (take_yes HB.out HTk.out HM.out (by omega) hT1 (by omega) hx).mono ?_); rintro e W2 ⟨rfl, hM2⟩; have HM1 := Lib.hid hM2; clear HM hM2; (try clear W1); rename World => W1; have HM := HM1; clear HM1))
  all_goals (first | go_ret | go_ret2)
  exact XPost.ok_ (v := cntV) HR.out (by simp only [List.append_nil]) HM.out
 | false =>
  rw [hb, if_neg (by simp)] at HR
  have HB := Lib.hid hb
  clear hb
  go_enter Tryz.func219, Tryz.ntmps219
  go_wp2_with (first | (go_at_call 72; (with_reducible refine (take_no HB.out HTk.out HM.out (by omega) hT1 (by omega) hx).mono ?_); rintro e W2 ⟨rfl, hM2⟩; have HM1 := Lib.hid hM2; clear HM hM2; (try clear W1); rename World => W1; have HM := HM1; clear HM1))
  go_loopw [7] (fun nv wr => ∃ (g j oc m : Nat) (op : Option Addr) (a : List NodeD), nv = .int .i64 m ∧ g ≤ fuel ∧ j ≤ T.length ∧ i + a.length ≤ j ∧ m ≤ j ∧ Hid (G T g (.listL ch a m) j = r) ∧ Hid (Mem w0 wr (.box R 94 [.slice tp T.length tc, .int .i64 j, .slice op (acc ++ a).length oc] :: .row op oc 36 8 (acc ++ a).length ((acc ++ a).flatMap NodeD.cs) :: rest))) (fun _ wr => T.length - (intOf ((wr.cell? ⟨R, 1, none⟩).getD undef)).toNat)
  case atStart => exact ⟨fuel, _, _, 0, _, [], rfl, Nat.le_refl _, hi, Nat.le_refl _, Nat.zero_le _, HR, Lib.hid (by simpa only [List.append_nil] using HM.out)⟩
  case round =>
   clear HM HR HB
   obtain ⟨g, j0, oc2, m0, op2, a, rfl, hg, hj0, hla, hm, HR, HM⟩ := hrel
   have HK := Lib.hid (xrd_at HM.out)
   cases g with
   | zero => exact absurd HR.out.symm hr
   | succ g =>
    have hR2 := HR.out
    simp only [G] at hR2
    have HR1 := Lib.hid hR2
    clear HR hR2
    have HR := HR1
    clear HR1
    go_wp2_with (first | (go_at_call 72; refine take_use HR.out HTk.out HM.out (by omega) hT1 (by omega) hx ?_ ?_; all_goals (intro hb hR2 W2 hM2; (try have hlt := isT_lt hb); clear hb; have HR1 := Lib.hid hR2; clear HR hR2; have HR := HR1; clear HR1; have HM1 := Lib.hid hM2; clear HM hM2; (try clear W1); rename World => W1; have HM := HM1; clear HM1)) | (go_at_call 49; refine XC.use (ihE g (by omega)) HR.out hr HTk.out HM.out (by omega) (by omega) (by (first | omega | (simp only [List.length_append, List.length_cons, List.length_nil]; omega))) (fun hno W2 hb => (show _ ∧ _ from ⟨rfl, XPost.no_ hno hb⟩)) ?_; intro l m j hR2 hG op1 oc1 W2 hM2; have hg := (hG (by simp)).lenc 0 rfl rfl rfl; clear hG; obtain ⟨hL, hF, hJ⟩ := hg; have HR1 := Lib.hid hR2; clear HR hR2; have HR := HR1; clear HR1; have HM1 := Lib.hid hM2; clear HM hM2; (try clear W1); rename World => W1; have HM := HM1; clear HM1) | (go_at_call 76; refine must_use HR.out HTk.out HM.out (by omega) hT1 (by omega) rfl (fun hno W2 hb => (show _ ∧ _ from ⟨rfl, XPost.no_ hno hb⟩)) ?_; intro hb hR2 W2 hM2; have hlt := isT_lt hb; clear hb; have HR1 := Lib.hid hR2; clear HR hR2; have HR := HR1; clear HR1; have HM1 := Lib.hid hM2; clear HM hM2; (try clear W1); rename World => W1; have HM := HM1; clear HM1))
    all_goals first
     |(go_roundw
       case rel => exact ⟨g, _, _, _, _, _, by go_num, by omega, by omega, by (simp only [List.length_append]; omega), by omega, HR, Lib.hid (by simpa only [List.append_assoc] using HM.out)⟩
       case measure => rw [xrd_at HM.out, HK.out]; omega)
     |(go_ret; exact XPost.ok_ (v := cntV) HR.out (by simp only [List.append_assoc]) HM.out)
     |(go_ret2; exact XPost.ok_ (v := cntV) HR.out (by simp only [List.append_assoc]) HM.out)
end Go.Proofs.YtkackccmhghphaaGreatDoor
