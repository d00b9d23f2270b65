/- And, Or, Not of the reference; the law's own same. (short) -/
import Derived.Test.YtgobdcmoelcckaaGreatDoorValN
namespace Go.Proofs.YtgobdcmoelcckaaGreatDoor
open Go.RowKit
set_option linter.unusedVariables false
set_option linter.unusedSimpArgs false
set_option maxRecDepth 100000

/-- A truth as a value. -/
def tvc (o : Option Bool) : List Value := vcs (if o.isSome then 1 else 0) (o.getD false) ⟨false, 0, 0, 0⟩ ⟨#[]⟩ 0 (.slice none 0 0) (.slice none 0 0)
def tvD (o : Option Bool) : VD := .mk (if o.isSome then 1 else 0) (o.getD false) ⟨false, 0, 0, 0⟩ ⟨#[]⟩ 0 [] []
theorem tvc_lit (o : Option Bool) : truV o = .agg (tvc o).toArray := rfl
theorem tvD_at (o : Option Bool) (W : World) : (tvD o).at W (tvc o) := by
  unfold tvD
  simp only [VD.at]
  exact ⟨none, none, 0, 0, [], rfl, ⟨Nat.le_refl _, Nat.le_refl _⟩, ⟨fun _ => rfl, fun a e => by cases e⟩, ⟨fun _ => rfl, fun a e => by cases e⟩, by simp only [VD.ats]⟩
theorem tvD_truth (o : Option Bool) : (tvD o).truth = o := by
  rcases o with _ | _ | _ <;> rfl
theorem tvD_wf (o : Option Bool) : (tvD o).wf 1048576 := by
  unfold tvD
  simp only [VD.wf, VD.wfL]
  exact ⟨by decide, by decide, by decide, by decide, by decide, by simp, trivial⟩
theorem tvD_parts (o : Option Bool) : (tvD o).parts = 1 := by
  unfold tvD
  simp only [VD.parts, VD.partsL]
theorem truth_tOf (v : VD) : v.truth = tOf v.k v.yes := rfl
theorem allT_snoc (l : List (Option Bool)) (x : Option Bool) : allT (l ++ [x]) = bothT (allT l) x := by
  rw [allT_append]; simp only [allT, bothT_true']
theorem allT_mem {l : List (Option Bool)} (h : some false ∈ l) : allT l = some false := allT_false.2 h

set_option maxHeartbeats 8000000 in
theorem rall_any (p : Option Addr) (c : Nat) (l : List VD) (ls : List Value) (w : World) (hS : Sl w p ls) (ha : VD.ats w l ls) (hl : l.length ≤ 1048576) : Calls Tryz.prog 59 #[.slice p l.length c] w fun e w' => e = .returned (truV (allT (l.map VD.truth))) ∧ RowKit.Below w.heap.size w w' := by
  have HM := Lib.hid (Mem.start w)
  have HS := Lib.hid hS
  have HA := Lib.hid ha
  have HT := Lib.hid (fun b W => rTruth_any b W)
  obtain ⟨r, hr⟩ : ∃ r, allT (l.map VD.truth) = r := ⟨_, rfl⟩
  rw [hr]
  have HR := Lib.hid hr
  clear hS ha hr
  go_enter Tryz.func59, Tryz.ntmps59
  go_wp2_with (first | refine mP ?_ | (refine mS ?_; clear HM; intro W1 HM) | (refine hal (dst := some 2) HM rfl ?_; clear HM; intro g2 W1 HM) | (refine hal (dst := some 3) HM rfl ?_; clear HM; intro g3 W1 HM) | (go_at_call 57; (with_reducible refine cB HM (HT.out _ _) ?_); clear HM; intro W1 HM))
  go_loopw [4] (fun iv wr => ∃ (i : Nat) (o : Option Bool), iv = .int .i64 i ∧ i ≤ l.length ∧ Hid (o ≠ some false) ∧ Hid (allT ((l.take i).map VD.truth) = o) ∧ Hid (Mem w wr [.box g3 30 (tvc o), .box g2 30 (tvc none)])) (fun iv _ => l.length - (intOf iv).toNat)
  case atStart => exact ⟨0, some true, rfl, by omega, Lib.hid (by simp), Lib.hid (by simp [allT]), HM⟩
  case round =>
    clear HM
    obtain ⟨i, o, rfl, hi0, HNF, HI, HM⟩ := hrel
    by_cases hlt : i < l.length
    · obtain ⟨x, hx⟩ : ∃ x, l[i]? = some x := ⟨_, List.getElem?_eq_getElem hlt⟩
      obtain ⟨b, cx, rfl, hxa, hxc⟩ := vrow HS.out HA.out hx
      have HC := Lib.hid hxc
      have HNx := Lib.hid (show allT ((l.take (i + 1)).map VD.truth) = bothT o x.truth by rw [take_get hx, List.map_append, allT_append, HI.out]; simp [allT, bothT_true'])
      have HMm := Lib.hid (show x.truth = some false → r = some false from fun h => by
        rw [← HR.out]
        exact allT_mem (List.mem_map.2 ⟨x, List.mem_of_getElem? hx, h⟩))
      obtain ⟨k1, y1, ⟨ng1, hi1, lo1, sc1⟩, t1, d1, l1, ns1⟩ := x
      simp only [VD.at, vcs] at hxa
      obtain ⟨lp1, np1, lc1, nc1, ls1, rfl, -⟩ := hxa
      have HIs := Lib.hid (fun (bb cc : Bool) (h : (decide (k1 = 1) && (y1 == bb)) = cc) W => (h ▸ rIs_any k1 y1 ng1 hi1 lo1 sc1 t1 d1 lp1 l1.length lc1 np1 ns1.length nc1 bb W : Calls Tryz.prog 25 _ W fun e w' => e = .returned (.bool cc) ∧ RowKit.Below W.heap.size W w'))
      have q1 : decide ((i : Int) < l.length) = true := decide_eq_true (by omega)
      clear hx hxc
      by_cases hk : k1 = 1
      · cases y1 with
        | false =>
          have HF := Lib.hid (HIs.out false true (by simp [hk]))
          have HE := Lib.hid (show r = some false from HMm.out (by simp [VD.truth, VD.k, VD.yes, hk]))
          clear hk
          go_wp2_with (first | refine mP ?_ | (refine mS ?_; clear HM; intro W1 HM) | (refine hal (dst := some 2) HM rfl ?_; clear HM; intro g2 W1 HM) | (refine hal (dst := some 3) HM rfl ?_; clear HM; intro g3 W1 HM) | (refine ixa rfl rfl rfl hlt ?_) | (refine ldxW (HM.out.olds HC.out) rfl rfl ?_) | (go_at_call 25; (with_reducible refine cB HM (HF.out _) ?_); clear HM; intro W1 HM) | (go_at_call 57; (with_reducible refine cB HM (HT.out _ _) ?_); clear HM; intro W1 HM))
          exact bodyPost_ret (res_box rfl HM.out 1 rfl rfl rfl) rfl ⟨by rw [HE.out], HM.out.below⟩
        | true =>
          have HF := Lib.hid (HIs.out false false (by simp))
          have HG := Lib.hid (HIs.out true true (by simp [hk]))
          have HE := Lib.hid (show allT ((l.take (i + 1)).map VD.truth) = o by rw [HNx.out]; simp [VD.truth, VD.k, VD.yes, hk, bothT_true'])
          clear hk
          go_wp2_with (first | refine mP ?_ | (refine mS ?_; clear HM; intro W1 HM) | (refine hal (dst := some 2) HM rfl ?_; clear HM; intro g2 W1 HM) | (refine hal (dst := some 3) HM rfl ?_; clear HM; intro g3 W1 HM) | (refine ixa rfl rfl rfl hlt ?_) | (refine ldxW (HM.out.olds HC.out) rfl rfl ?_) | (go_at_call 25; first | ((with_reducible refine cB HM (HF.out _) ?_); clear HM; intro W1 HM) | ((with_reducible refine cB HM (HG.out _) ?_); clear HM; intro W1 HM)) | (go_at_call 57; (with_reducible refine cB HM (HT.out _ _) ?_); clear HM; intro W1 HM))
          go_roundw
          case rel => exact ⟨i + 1, o, by go_num, by omega, HNF, HE, HM⟩
          case measure => simp [intOf]; omega
      · have HF := Lib.hid (HIs.out false false (by simp [hk]))
        have HG := Lib.hid (HIs.out true false (by simp [hk]))
        have HE := Lib.hid (show allT ((l.take (i + 1)).map VD.truth) = none by
          rw [HNx.out]
          have := HNF.out
          have h2 : VD.truth (VD.mk k1 y1 ⟨ng1, hi1, lo1, sc1⟩ t1 d1 l1 ns1) = none := by simp [VD.truth, VD.k, hk]
          rw [h2]
          rcases o with _ | _ | _
          · rfl
          · exact absurd rfl this
          · rfl)
        clear hk
        go_wp2_with (first | refine mP ?_ | (refine mS ?_; clear HM; intro W1 HM) | (refine hal (dst := some 2) HM rfl ?_; clear HM; intro g2 W1 HM) | (refine hal (dst := some 3) HM rfl ?_; clear HM; intro g3 W1 HM) | (refine ixa rfl rfl rfl hlt ?_) | (refine ldxW (HM.out.olds HC.out) rfl rfl ?_) | (go_at_call 25; first | ((with_reducible refine cB HM (HF.out _) ?_); clear HM; intro W1 HM) | ((with_reducible refine cB HM (HG.out _) ?_); clear HM; intro W1 HM)) | (go_at_call 57; (with_reducible refine cB HM (HT.out _ _) ?_); clear HM; intro W1 HM))
        go_roundw
        case rel => exact ⟨i + 1, none, by go_num, by omega, Lib.hid (by simp), HE, HM⟩
        case measure => simp [intOf]; omega
    · obtain rfl : i = l.length := by omega
      have HE := Lib.hid (show o = r by rw [← HI.out, ← HR.out, List.take_length])
      have q1 : decide ((l.length : Int) < l.length) = false := by simp
      go_wp2_with (first | refine mP ?_ | (refine mS ?_; clear HM; intro W1 HM) | (refine hal (dst := some 2) HM rfl ?_; clear HM; intro g2 W1 HM) | (refine hal (dst := some 3) HM rfl ?_; clear HM; intro g3 W1 HM))
      exact bodyPost_ret (res_box rfl HM.out 1 rfl rfl rfl) rfl ⟨by rw [← HE.out]; rfl, HM.out.below⟩
end Go.Proofs.YtgobdcmoelcckaaGreatDoor
