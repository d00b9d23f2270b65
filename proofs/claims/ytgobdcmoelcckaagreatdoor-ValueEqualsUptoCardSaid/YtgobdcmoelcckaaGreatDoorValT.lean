/- The fixed fact of the laws on values. (short) -/
import Derived.Test.YtgobdcmoelcckaaGreatDoorValS
namespace Go.Proofs.YtgobdcmoelcckaaGreatDoor
open Go.RowKit
set_option linter.unusedVariables false
set_option linter.unusedSimpArgs false
set_option maxRecDepth 100000

set_option maxHeartbeats 8000000 in
theorem tell12 (b : Nat) (w0 W : World) (L : List Res) (h : Mem w0 W (.box b 61 (bldC (.pointer none) none 0 0) :: L)) :
    Calls Tryz.prog 52 #[.pointer (some ⟨b, 0, none⟩), .agg (knC 12).toArray] W fun e W' => e = .returned (.tuple #[]) ∧ ∃ p cap, Mem w0 W' (.box b 61 (bldC (.pointer (some ⟨b, 0, none⟩)) p 2 cap) :: .row p cap 5 1 2 (Lib.byteCells [49, 50]) :: L) := by
  have HM := Lib.hid (bld_new h)
  have HP := Lib.hid (fun W => (show Calls Tryz.prog 81 #[.agg #[.bool false, .int .u64 0, .int .u64 12, .int .i64 0]] W fun e w' => e = .returned (.tuple #[.string ⟨#[49, 50]⟩, .int .i64 0]) ∧ RowKit.Below W.heap.size W w' from by
    have h := dPrint_nat 0 12 W k_ok ⟨by decide, by decide⟩
    rw [k_txt] at h
    exact h))
  clear h
  unfold knC
  go_enter Tryz.func52, Tryz.ntmps52
  go_wp2_with (first | refine mP ?_ | ((with_reducible refine iat 3 ?_); refine mB ?_; clear HM; intro g3 W1 HM) | (go_at_call 81; (with_reducible refine cB HM (HP.out _) ?_); clear HM; intro W1 HM) | (go_at_call 80; refine (bwrite_any b 0 0 none (.pointer none) (Or.inl rfl) [] ⟨#[49, 50]⟩ w0 _ L (HM.out.sub (.cons _ (.refl _))) (by decide)).mono ?_; rintro e W2 ⟨rfl, p2, cap2, hM⟩; clear HM; have HM := Lib.hid hM; clear hM))
  go_end0
  exact ⟨rfl, _, _, HM.out⟩

set_option maxHeartbeats 8000000 in
theorem print12 (w : World) (hu : U8 w) :
    Calls Tryz.prog 27 #[.agg (knC 12).toArray] w fun e w' => e = .returned (.tuple #[.string ⟨#[49, 50]⟩, .int .i64 0]) ∧ RowKit.Below w.heap.size w w' := by
  have HM := Lib.hid (Mem.start w)
  have HU := Lib.hid hu
  have HCk := Lib.hid (show ∀ W g t, RowKit.Below w.heap.size w W → (Res.box g t (knC 12)).holds w.heap.size W → Calls Tryz.prog 34 #[.slice (some ⟨g, 0, none⟩) 1 1] W fun e w' => e = .returned (.int .i64 0) ∧ RowKit.Below W.heap.size W w' from fun W g t hb hbox => by
    rw [← kn12, ← chk1]
    obtain ⟨h1, h2⟩ := sl_one hbox (knD_at 12 W)
    exact vchecks_any _ _ [knD 12] _ W h1 h2 (by simp only [VD.wfL]; exact ⟨knD_wf (by decide), trivial⟩) (by simp) (U8.below HU.out hb))
  clear hu
  unfold knC at HCk
  go_enter Tryz.func27, Tryz.ntmps27
  go_wp2_with (first | refine mP ?_ | (refine mL ?_; clear HM; intro g1 W1 HM) | ((with_reducible refine iat 1 ?_); refine mB ?_; clear HM; intro g1 W1 HM) | (refine hal (dst := some 5) HM rfl ?_; clear HM; intro g5 W1 HM) | (go_at_call 34; (with_reducible refine cB HM (HCk.out _ _ _ HM.out.below (HM.out.get (k := 0) rfl)) ?_); clear HM; intro W1 HM) | (go_at_call 52; refine (tell12 g5 w _ _ HM.out).mono ?_; rintro e W2 ⟨rfl, p2, cap2, hM⟩; clear HM; have HM := Lib.hid hM; clear hM) | (go_at_call 53; refine (bstring_any _ _ _ _ _ [49, 50] (by decide) rfl w _ _ HM.out).mono ?_; rintro e W2 ⟨rfl, hM⟩; clear HM; have HM := Lib.hid hM; clear hM))
  go_ret2
  exact ⟨rfl, HM.out.below⟩

set_option maxHeartbeats 8000000 in
theorem vknown_any (w : World) (hu : U8 w) :
    Calls Tryz.prog 9 #[] w fun e w' => e = .returned (.bool true) ∧ RowKit.Below w.heap.size w w' := by
  have HM := Lib.hid (Mem.start w)
  have HU := Lib.hid hu
  have HN1 := Lib.hid (fun W => num_any 1 W)
  have HN2 := Lib.hid (fun W => num_any 2 W)
  have HN12 := Lib.hid (fun W => num_any 12 W)
  have HE := Lib.hid (fun W (h : U8 W) => (show Calls Tryz.prog 11 #[.agg (knC 1).toArray, .agg ktC.toArray] W fun e w' => e = .returned (.tuple #[truV none, .int .i64 0]) ∧ RowKit.Below W.heap.size W w' from by
    have h := vEqual_any (knD 1) ktD _ _ W (knD_at 1 W) (ktD_at W) (knD_wf (by decide)) ktD_wf h
    rw [chk2, kn1, if_pos rfl, kt1, if_pos rfl, k_eq] at h
    exact h))
  have HL := Lib.hid (fun W (h : U8 W) => (show Calls Tryz.prog 13 #[.agg (knC 1).toArray, .agg (knC 2).toArray] W fun e w' => e = .returned (.tuple #[truV (some true), .int .i64 0]) ∧ RowKit.Below W.heap.size W w' from by
    have h := vLess_any (knD 1) (knD 2) _ _ W (knD_at 1 W) (knD_at 2 W) (knD_wf (by decide)) (knD_wf (by decide)) h
    rw [chk2, kn1, if_pos rfl, kn2, if_pos rfl, k_less] at h
    exact h))
  have HP := Lib.hid (fun W (h : U8 W) => print12 W h)
  clear hu
  unfold knC at HN1 HN2 HN12 HE HL HP
  unfold ktC at HE
  go_enter Tryz.func9, Tryz.ntmps9
  go_wp2_with (first | ((with_reducible refine skip_op ?_ ?_); exact rfl) | refine mP ?_ | (refine mS ?_; clear HM; intro W1 HM) | (refine hal (dst := some 1) HM rfl ?_; clear HM; intro g1 W1 HM) | (refine hal (dst := some 3) HM rfl ?_; clear HM; intro g3 W1 HM) | (go_at_call 31; first | ((with_reducible refine cB HM (HN1.out _) ?_); clear HM; intro W1 HM) | ((with_reducible refine cB HM (HN2.out _) ?_); clear HM; intro W1 HM) | ((with_reducible refine cB HM (HN12.out _) ?_); clear HM; intro W1 HM)) | (go_at_call 11; (with_reducible refine cB HM (HE.out _ (U8.below HU.out HM.out.below)) ?_); clear HM; intro W1 HM) | (go_at_call 13; (with_reducible refine cB HM (HL.out _ (U8.below HU.out HM.out.below)) ?_); clear HM; intro W1 HM) | (go_at_call 27; (with_reducible refine cB HM (HP.out _ (U8.below HU.out HM.out.below)) ?_); clear HM; intro W1 HM))
  go_ret
  exact ⟨rfl, HM.out.below⟩
end Go.Proofs.YtgobdcmoelcckaaGreatDoor
