/- step of check: tests together. Printed by wip/tools/gen_step.py. (fast) -/
import Derived.Test.YtpjcjgikfplgnaaDoorStepA
namespace Go.Proofs.YtpjcjgikfplgnaaDoor
open Go.RowKit
set_option linter.unusedVariables false
set_option linter.unusedSimpArgs false
set_option maxRecDepth 100000

theorem ask_one (l : List AskD) : ∀ u ∈ l.flatMap AskD.cs, u.oneCell' = true := by
  intro u hu
  obtain ⟨a, _, ha⟩ := List.mem_flatMap.1 hu
  simp only [AskD.cs, List.mem_cons, List.not_mem_nil, or_false] at ha
  rcases ha with rfl | rfl | rfl <;> rfl

set_option maxHeartbeats 8000000 in
theorem step_S (w0 W : World) (gc gm cap : Nat) (sq : Option Addr) (T : List Res) (l : List SymD) (st : List ThT) (ds : List ThD) (n : NodeD) (hop : n.op = 36 ∨ n.op = 37)
    (HM0 : Mem w0 W (.box gc 60 [.map (some gm), .slice sq st.length cap] :: .row sq cap 63 3 st.length (st.flatMap ThT.cs) :: .map gm (mapEs (symE l)) (symE l).length :: T))
    (hO : StOk T st ds) (hF : ∀ d, d ∈ ds → ThForm d) (hk : kidsB n.op n.kids = true) (hkl : n.kids ≤ st.length) (hz : sizeT ds ≤ 300) :
    Calls Tryd.prog 44 #[.pointer (some ⟨gc, 0, none⟩), .agg n.cs.toArray] W (StepPost w0 gc gm T l (nextT l ds n) (stepT l ds n).2) := by
  obtain ⟨op, kids, text, neg, hi, lo, sc, day⟩ := n
  have hkn : 0 ≤ kids := kidsB_nonneg hk
  obtain ⟨m, rfl⟩ : ∃ m : Nat, kids = m := ⟨kids.toNat, by omega⟩
  have hml : m ≤ st.length := by have h : (m : Int) ≤ st.length := hkl; omega
  have hlen := hO.len
  have hst300 : st.length ≤ 300 := by have := sizeT_len ds; omega
  obtain ⟨cut, hcut⟩ : ∃ cut, st.length - m = cut := ⟨_, rfl⟩
  have hcm : cut + m = st.length := by omega
  have hN : nextT l ds ⟨op, m, text, neg, hi, lo, sc, day⟩ = ds.take cut ++ [(stepT l ds ⟨op, m, text, neg, hi, lo, sc, day⟩).1] := by unfold nextT; rw [← hlen]; show ds.take (st.length - ((m : Int)).toNat) ++ _ = _; rw [Int.toNat_natCast, hcut]
  have hP : partsD ⟨op, m, text, neg, hi, lo, sc, day⟩ ds = ds.drop cut := by unfold partsD; rw [← hlen]; show ds.drop (st.length - ((m : Int)).toNat) = _; rw [Int.toNat_natCast, hcut]
  have hsz := sizeT_drop ds cut
  have hdl : (st.drop cut).length = m := by rw [List.length_drop]; omega
  have HO := Lib.hid hO
  have HOd := Lib.hid (hO.drop cut)
  have HM := Lib.hid HM0
  have HCM := Lib.hid hcm
  have hcap := Lib.hid (row_cap (HM0.get (k := 1) rfl)).1
  have hmx := (row_cap (HM0.get (k := 1) rfl)).2.1
  unfold maxLen at hmx
  have HZ := Lib.hid hz
  have HSZ := Lib.hid hsz
  have HDL := Lib.hid hdl
  obtain ⟨acc0, hacc⟩ : ∃ a, (ds.drop cut).flatMap ThD.qs = a := ⟨_, rfl⟩
  have hS1 : stepT l ds ⟨op, m, text, neg, hi, lo, sc, day⟩ = (⟨⟨0, 0⟩, acc0⟩, 0) := by
    unfold stepT
    rw [if_pos hop, hP, hacc]
  rw [hS1] at hN
  rw [hS1, hN]
  have HA := Lib.hid hacc
  have hb36 : op = 36 ∨ op = 37 := hop
  have hb : (op == 36) = true ∨ ((op == 36) = false ∧ (op == 37) = true) := by
    rcases hb36 with rfl | rfl
    · exact Or.inl rfl
    · exact Or.inr ⟨rfl, rfl⟩
  have HWR := Lib.hid (show IntKind.i64.wrap ((st.length : Int) - (m : Int)) = (cut : Int) by
    rw [show (st.length : Int) - (m : Int) = (cut : Int) by omega]
    exact IntWalk.i64_in _ (by omega))
  clear hO hF hk hkl hz hsz hdl hP HM0 hop hkn hlen hcut hS1 hN hacc hb36
  rcases hb with b36 | ⟨b36, b37⟩
  all_goals
    go_enter Tryd.func44, Tryd.ntmps44
    go_wp2_with (first | ((with_reducible refine igd ?_); (with_reducible refine skip_op ?_ ?_); (exact rfl)) | ((with_reducible refine inilCheck ?_); (refine lnil rfl ?_)) | ((with_reducible refine iload ?_); first | refine ldb1 HM.out 0 rfl rfl rfl ?_ | refine ldb1 HM.out 1 rfl rfl rfl ?_ | refine ldb1 HM.out 2 rfl rfl rfl ?_ | refine ldb1 HM.out 3 rfl rfl rfl ?_ | refine ldbW HM.out 0 rfl rfl rfl ?_ | refine ldbW HM.out 1 rfl rfl rfl ?_ | refine ldbW HM.out 2 rfl rfl rfl ?_ | refine ldbW HM.out 3 rfl rfl rfl ?_ | ((first | refine ldbS HM.out 0 rfl rfl rfl ?_ | refine ldbS HM.out 1 rfl rfl rfl ?_ | refine ldbS HM.out 2 rfl rfl rfl ?_ | refine ldbS HM.out 3 rfl rfl rfl ?_); simp only [List.take, List.drop])) | ((with_reducible refine istore ?_); (first | ((first | refine stb1 (v := .slice _ _ _) rfl HM.out 0 rfl rfl rfl rfl rfl ?_ | refine stb1 (v := .slice _ _ _) rfl HM.out 1 rfl rfl rfl rfl rfl ?_ | refine stb1 (v := .slice _ _ _) rfl HM.out 2 rfl rfl rfl rfl rfl ?_ | refine stb1 (v := .slice _ _ _) rfl HM.out 3 rfl rfl rfl rfl rfl ?_ | refine stbW rfl HM.out 0 rfl rfl rfl rfl rfl rfl ?_ | refine stbW rfl HM.out 1 rfl rfl rfl rfl rfl rfl ?_ | refine stbW rfl HM.out 2 rfl rfl rfl rfl rfl rfl ?_ | refine stbW rfl HM.out 3 rfl rfl rfl rfl rfl rfl ?_); intro W1 HM1; replace HM := Lib.hid HM1; clear HM1; simp only [List.set] at HM) | ((first | refine stbS rfl HM.out 0 rfl rfl rfl rfl rfl rfl ?_ | refine stbS rfl HM.out 1 rfl rfl rfl rfl rfl rfl ?_ | refine stbS rfl HM.out 2 rfl rfl rfl rfl rfl rfl ?_ | refine stbS rfl HM.out 3 rfl rfl rfl rfl rfl rfl ?_); intro W1 HM1; replace HM := Lib.hid HM1; clear HM1; simp only [lss, Nat.reduceAdd] at HM))) | ((with_reducible refine ibuildSlice ?_); refine bs1A rfl HM.out rfl rfl rfl ?_; intro g1 W1 HM1; replace HM := Lib.hid HM1; clear HM1) | ((with_reducible refine ibox (d := some 3) ?_); refine bxA rfl HM.out rfl ?_; intro g3 W1 HM1; replace HM := Lib.hid HM1; clear HM1) | ((with_reducible refine ialloc (d := some 7) ?_); refine alb rfl HM.out ?_; intro g7 W1 HM1; replace HM := Lib.hid HM1; clear HM1) | ((with_reducible refine ialloc ?_); refine alb rfl HM.out ?_; intro g1 W1 HM1; replace HM := Lib.hid HM1; clear HM1))
    have HWR1 := HWR.out
    have hcm2 : cut + m ≤ st.length := Nat.le_of_eq HCM.out
    have hcm3 : st.length ≤ cut + m := Nat.le_of_eq HCM.out.symm
    refine wp_region_steps2 [(true, 0), (true, 1), (true, 2), (true, 3), (true, 4), (true, 5), (true, 6), (true, 7), (true, 8)] (by kernel_rfl) (by kernel_rfl) rfl (by kernel_rfl) (fun _ _ _ _ _ h => h) HM.out _ (.cons_cons _ (.cons_cons _ (List.nil_sublist _))) ?_
    intro hNE W1 HM1; replace HM := Lib.hid HM1; clear HM1
    have HS0 := Lib.hid (HM.out.sub (.cons_cons _ (.cons_cons _ (List.nil_sublist _))))
    simp only [wpSteps, List.getElem?_cons_succ, List.getElem?_cons_zero]
    (repeat (first | ((with_reducible refine qnilCheck ?_); (refine qnil rfl ?_)) | ((with_reducible refine wpQuiet_nil ?_); (try dsimp only)) | ((with_reducible refine qload ?_); first | (refine qdb1 HS0.out 0 rfl rfl rfl ?_) | (refine qdb1 HS0.out 1 rfl rfl rfl ?_)) | go_big_quiet_step (fail) | quiet_step (fail)))
    clear HS0 hNE
    clear HWR1
    go_wp2_with (first | ((with_reducible refine iat 26 ?_); (refine slf rfl rfl (m := cut) (l := m) rfl (by omega) hcap.out (by omega) ?_; intro q2 hq2; have HQ2 := Lib.hid hq2; clear hq2)) | ((with_reducible refine igd ?_); (with_reducible refine skip_op ?_ ?_); (exact rfl)) | ((with_reducible refine inilCheck ?_); (refine lnil rfl ?_)) | ((with_reducible refine iload ?_); first | refine ldb1 HM.out 0 rfl rfl rfl ?_ | refine ldb1 HM.out 1 rfl rfl rfl ?_ | refine ldb1 HM.out 2 rfl rfl rfl ?_ | refine ldb1 HM.out 3 rfl rfl rfl ?_ | refine ldbW HM.out 0 rfl rfl rfl ?_ | refine ldbW HM.out 1 rfl rfl rfl ?_ | refine ldbW HM.out 2 rfl rfl rfl ?_ | refine ldbW HM.out 3 rfl rfl rfl ?_ | ((first | refine ldbS HM.out 0 rfl rfl rfl ?_ | refine ldbS HM.out 1 rfl rfl rfl ?_ | refine ldbS HM.out 2 rfl rfl rfl ?_ | refine ldbS HM.out 3 rfl rfl rfl ?_); simp only [List.take, List.drop])) | ((with_reducible refine istore ?_); (first | ((first | refine stb1 (v := .slice _ _ _) rfl HM.out 0 rfl rfl rfl rfl rfl ?_ | refine stb1 (v := .slice _ _ _) rfl HM.out 1 rfl rfl rfl rfl rfl ?_ | refine stb1 (v := .slice _ _ _) rfl HM.out 2 rfl rfl rfl rfl rfl ?_ | refine stb1 (v := .slice _ _ _) rfl HM.out 3 rfl rfl rfl rfl rfl ?_ | refine stbW rfl HM.out 0 rfl rfl rfl rfl rfl rfl ?_ | refine stbW rfl HM.out 1 rfl rfl rfl rfl rfl rfl ?_ | refine stbW rfl HM.out 2 rfl rfl rfl rfl rfl rfl ?_ | refine stbW rfl HM.out 3 rfl rfl rfl rfl rfl rfl ?_); intro W1 HM1; replace HM := Lib.hid HM1; clear HM1; simp only [List.set] at HM) | ((first | refine stbS rfl HM.out 0 rfl rfl rfl rfl rfl rfl ?_ | refine stbS rfl HM.out 1 rfl rfl rfl rfl rfl rfl ?_ | refine stbS rfl HM.out 2 rfl rfl rfl rfl rfl rfl ?_ | refine stbS rfl HM.out 3 rfl rfl rfl rfl rfl rfl ?_); intro W1 HM1; replace HM := Lib.hid HM1; clear HM1; simp only [lss, Nat.reduceAdd] at HM))) | ((with_reducible refine ibuildSlice ?_); refine bs1A rfl HM.out rfl rfl rfl ?_; intro g1 W1 HM1; replace HM := Lib.hid HM1; clear HM1) | ((with_reducible refine ibox (d := some 3) ?_); refine bxA rfl HM.out rfl ?_; intro g3 W1 HM1; replace HM := Lib.hid HM1; clear HM1) | ((with_reducible refine ialloc (d := some 7) ?_); refine alb rfl HM.out ?_; intro g7 W1 HM1; replace HM := Lib.hid HM1; clear HM1) | ((with_reducible refine ialloc ?_); refine alb rfl HM.out ?_; intro g1 W1 HM1; replace HM := Lib.hid HM1; clear HM1))
    have HM1 := Lib.hid (HM.out.row0 89 3)
    clear HM
    have HM := HM1
    clear HM1
    go_loopw [46] (fun kv wr => ∃ (k : Nat) (xq : Option Addr) (xc : Nat) (acc : List AskD), kv = .int .i64 k ∧ k ≤ m ∧ Hid (acc ++ ((ds.drop cut).drop k).flatMap ThD.qs = acc0) ∧ Hid (acc.length + sizeT ((ds.drop cut).drop k) ≤ 300) ∧ Hid (Mem w0 wr (.row xq xc 89 3 acc.length (acc.flatMap AskD.cs) :: .box g7 63 [.int .i64 0, .int .i64 0, .slice xq acc.length xc] :: .box g3 44 (NodeD.cs ⟨op, m, text, neg, hi, lo, sc, day⟩) :: .box gc 60 [.map (some gm), .slice sq st.length cap] :: .row sq cap 63 3 st.length (st.flatMap ThT.cs) :: .map gm (mapEs (symE l)) (symE l).length :: T))) (fun kv _ => m - (intOf kv).toNat)
    case atStart => exact ⟨0, none, 0, [], rfl, by omega, HA, Lib.hid (show 0 + sizeT (ds.drop cut) ≤ 300 by have h1 := HSZ.out; have h2 := HZ.out; omega), HM⟩
    case round =>
      clear HM
      obtain ⟨k, xq, xc, acc, rfl, hkm, HI, HB, HM⟩ := hrel
      by_cases hlt : k < m
      · obtain ⟨g, hq, hq2⟩ := from_some (HM.out.get (k := 4) rfl) (m := cut) (by omega)
        rw [HQ2.out] at hq2
        subst hq hq2
        obtain ⟨y, hy⟩ : ∃ y, (st.drop cut)[k]? = some y := ⟨_, List.getElem?_eq_getElem (by rw [HDL.out]; exact hlt)⟩
        obtain ⟨d, hd, hin⟩ := HOd.out.at_ hy
        have HYk := Lib.hid hy
        obtain ⟨⟨yk, yo⟩, yq, yn, yc⟩ := y
        obtain rfl : yn = d.qs.length := hin.2.1
        have hdt : (⟨yk, yo⟩ : TyD) = d.t := hin.1
        have HSY := Lib.hid (fun W B (h : ∀ r, r ∈ T → r.holds B W) => (hin.sl h : Sl W yq (d.qs.flatMap AskD.cs)))
        have HI2 := Lib.hid (show (acc ++ d.qs) ++ ((ds.drop cut).drop (k + 1)).flatMap ThD.qs = acc0 by rw [← HI.out, drop_at hd, List.flatMap_cons, List.append_assoc])
        have HB2 := Lib.hid (show (acc ++ d.qs).length + sizeT ((ds.drop cut).drop (k + 1)) ≤ 300 by have h := HB.out; rw [drop_at hd, sizeT_cons] at h; rw [List.length_append]; omega)
        have hb1 : acc.length + d.qs.length ≤ 300 := by have h := HB2.out; rw [List.length_append] at h; omega
        have d2 : decide ((k : Int) < m) = true := decide_eq_true (by omega)
        clear hy hd hin hdt HI HB
        go_wp2_with (first | ((with_reducible refine iat 48 ?_); (refine ixa rfl rfl rfl hlt ?_)) | ((with_reducible refine iat 49 ?_); (refine ldxW (vs := [.int .i64 yk, .int .i64 yo, .slice yq d.qs.length yc]) ((row_view ThT.cs 3 ThT.cs_len (HM.out.get (k := 4) rfl) cut).elem ThT.cs 3 ThT.cs_len HYk.out) rfl rfl ?_)) | ((with_reducible refine iat 54 ?_); (refine apr (news := d.qs.flatMap AskD.cs) rfl HM.out 1 rfl rfl rfl (flat_len _ 3 AskD.cs_len _) (fun e => (HSY.out _ _ (fun r hr => HM.out.holds r (by simp [hr]))).nil_len AskD.cs_len (by decide) e) (fun b e => (HSY.out _ _ (fun r hr => HM.out.holds r (by simp [hr]))).2 b e) (ask_one _) (by unfold maxLen; omega) (by omega) ?_; intro p1 cap1 W1 HM1 _; replace HM := Lib.hid HM1; clear HM1; simp only [List.set] at HM)) | ((with_reducible refine igd ?_); (with_reducible refine skip_op ?_ ?_); (exact rfl)) | ((with_reducible refine inilCheck ?_); (refine lnil rfl ?_)) | ((with_reducible refine iload ?_); first | refine ldb1 HM.out 0 rfl rfl rfl ?_ | refine ldb1 HM.out 1 rfl rfl rfl ?_ | refine ldb1 HM.out 2 rfl rfl rfl ?_ | refine ldb1 HM.out 3 rfl rfl rfl ?_ | refine ldb1 HM.out 4 rfl rfl rfl ?_ | refine ldb1 HM.out 5 rfl rfl rfl ?_ | refine ldb1 HM.out 6 rfl rfl rfl ?_ | refine ldbW HM.out 0 rfl rfl rfl ?_ | refine ldbW HM.out 1 rfl rfl rfl ?_ | refine ldbW HM.out 2 rfl rfl rfl ?_ | refine ldbW HM.out 3 rfl rfl rfl ?_ | refine ldbW HM.out 4 rfl rfl rfl ?_ | refine ldbW HM.out 5 rfl rfl rfl ?_ | refine ldbW HM.out 6 rfl rfl rfl ?_ | ((first | refine ldbS HM.out 0 rfl rfl rfl ?_ | refine ldbS HM.out 1 rfl rfl rfl ?_ | refine ldbS HM.out 2 rfl rfl rfl ?_ | refine ldbS HM.out 3 rfl rfl rfl ?_ | refine ldbS HM.out 4 rfl rfl rfl ?_ | refine ldbS HM.out 5 rfl rfl rfl ?_ | refine ldbS HM.out 6 rfl rfl rfl ?_); simp only [List.take, List.drop])) | ((with_reducible refine istore ?_); (first | ((first | refine stb1 (v := .slice _ _ _) rfl HM.out 0 rfl rfl rfl rfl rfl ?_ | refine stb1 (v := .slice _ _ _) rfl HM.out 1 rfl rfl rfl rfl rfl ?_ | refine stb1 (v := .slice _ _ _) rfl HM.out 2 rfl rfl rfl rfl rfl ?_ | refine stb1 (v := .slice _ _ _) rfl HM.out 3 rfl rfl rfl rfl rfl ?_ | refine stb1 (v := .slice _ _ _) rfl HM.out 4 rfl rfl rfl rfl rfl ?_ | refine stb1 (v := .slice _ _ _) rfl HM.out 5 rfl rfl rfl rfl rfl ?_ | refine stb1 (v := .slice _ _ _) rfl HM.out 6 rfl rfl rfl rfl rfl ?_ | refine stbW rfl HM.out 0 rfl rfl rfl rfl rfl rfl ?_ | refine stbW rfl HM.out 1 rfl rfl rfl rfl rfl rfl ?_ | refine stbW rfl HM.out 2 rfl rfl rfl rfl rfl rfl ?_ | refine stbW rfl HM.out 3 rfl rfl rfl rfl rfl rfl ?_ | refine stbW rfl HM.out 4 rfl rfl rfl rfl rfl rfl ?_ | refine stbW rfl HM.out 5 rfl rfl rfl rfl rfl rfl ?_ | refine stbW rfl HM.out 6 rfl rfl rfl rfl rfl rfl ?_); intro W1 HM1; replace HM := Lib.hid HM1; clear HM1; simp only [List.set] at HM) | ((first | refine stbS rfl HM.out 0 rfl rfl rfl rfl rfl rfl ?_ | refine stbS rfl HM.out 1 rfl rfl rfl rfl rfl rfl ?_ | refine stbS rfl HM.out 2 rfl rfl rfl rfl rfl rfl ?_ | refine stbS rfl HM.out 3 rfl rfl rfl rfl rfl rfl ?_ | refine stbS rfl HM.out 4 rfl rfl rfl rfl rfl rfl ?_ | refine stbS rfl HM.out 5 rfl rfl rfl rfl rfl rfl ?_ | refine stbS rfl HM.out 6 rfl rfl rfl rfl rfl rfl ?_); intro W1 HM1; replace HM := Lib.hid HM1; clear HM1; simp only [lss, Nat.reduceAdd] at HM))) | ((with_reducible refine ibuildSlice ?_); refine bs1A rfl HM.out rfl rfl rfl ?_; intro g1 W1 HM1; replace HM := Lib.hid HM1; clear HM1) | ((with_reducible refine ialloc (d := some 10) ?_); refine alb rfl HM.out ?_; intro g10 W1 HM1; replace HM := Lib.hid HM1; clear HM1) | ((with_reducible refine ialloc ?_); refine alb rfl HM.out ?_; intro g1 W1 HM1; replace HM := Lib.hid HM1; clear HM1) | ((with_reducible refine ibox ?_); refine bxA rfl HM.out rfl ?_; intro g1 W1 HM1; replace HM := Lib.hid HM1; clear HM1))
        go_roundw
        case rel => exact ⟨k + 1, p1, cap1, acc ++ d.qs, by go_num, by omega, HI2, HB2, Lib.hid (by rw [List.length_append, List.flatMap_append]; exact HM.out.sub (.cons _ (.refl _)))⟩
        case measure => simp [intOf]; omega
      · obtain rfl : m = k := by omega
        obtain rfl : acc = acc0 := by rw [← HI.out, List.drop_of_length_le (by have h := HO.out.len; have h2 := HDL.out; rw [List.length_drop] at h2 ⊢; omega)]; exact (List.append_nil acc).symm
        have d2 : decide ((m : Int) < m) = false := by simp
        clear HI HB
        go_wp2_with (first | ((with_reducible refine igd ?_); (with_reducible refine skip_op ?_ ?_); (exact rfl)) | ((with_reducible refine inilCheck ?_); (refine lnil rfl ?_)) | ((with_reducible refine iload ?_); first | refine ldb1 HM.out 0 rfl rfl rfl ?_ | refine ldb1 HM.out 1 rfl rfl rfl ?_ | refine ldb1 HM.out 2 rfl rfl rfl ?_ | refine ldb1 HM.out 3 rfl rfl rfl ?_ | refine ldb1 HM.out 4 rfl rfl rfl ?_ | refine ldb1 HM.out 5 rfl rfl rfl ?_ | refine ldb1 HM.out 6 rfl rfl rfl ?_ | refine ldbW HM.out 0 rfl rfl rfl ?_ | refine ldbW HM.out 1 rfl rfl rfl ?_ | refine ldbW HM.out 2 rfl rfl rfl ?_ | refine ldbW HM.out 3 rfl rfl rfl ?_ | refine ldbW HM.out 4 rfl rfl rfl ?_ | refine ldbW HM.out 5 rfl rfl rfl ?_ | refine ldbW HM.out 6 rfl rfl rfl ?_ | ((first | refine ldbS HM.out 0 rfl rfl rfl ?_ | refine ldbS HM.out 1 rfl rfl rfl ?_ | refine ldbS HM.out 2 rfl rfl rfl ?_ | refine ldbS HM.out 3 rfl rfl rfl ?_ | refine ldbS HM.out 4 rfl rfl rfl ?_ | refine ldbS HM.out 5 rfl rfl rfl ?_ | refine ldbS HM.out 6 rfl rfl rfl ?_); simp only [List.take, List.drop])) | ((with_reducible refine istore ?_); (first | ((first | refine stb1 (v := .slice _ _ _) rfl HM.out 0 rfl rfl rfl rfl rfl ?_ | refine stb1 (v := .slice _ _ _) rfl HM.out 1 rfl rfl rfl rfl rfl ?_ | refine stb1 (v := .slice _ _ _) rfl HM.out 2 rfl rfl rfl rfl rfl ?_ | refine stb1 (v := .slice _ _ _) rfl HM.out 3 rfl rfl rfl rfl rfl ?_ | refine stb1 (v := .slice _ _ _) rfl HM.out 4 rfl rfl rfl rfl rfl ?_ | refine stb1 (v := .slice _ _ _) rfl HM.out 5 rfl rfl rfl rfl rfl ?_ | refine stb1 (v := .slice _ _ _) rfl HM.out 6 rfl rfl rfl rfl rfl ?_ | refine stbW rfl HM.out 0 rfl rfl rfl rfl rfl rfl ?_ | refine stbW rfl HM.out 1 rfl rfl rfl rfl rfl rfl ?_ | refine stbW rfl HM.out 2 rfl rfl rfl rfl rfl rfl ?_ | refine stbW rfl HM.out 3 rfl rfl rfl rfl rfl rfl ?_ | refine stbW rfl HM.out 4 rfl rfl rfl rfl rfl rfl ?_ | refine stbW rfl HM.out 5 rfl rfl rfl rfl rfl rfl ?_ | refine stbW rfl HM.out 6 rfl rfl rfl rfl rfl rfl ?_); intro W1 HM1; replace HM := Lib.hid HM1; clear HM1; simp only [List.set] at HM) | ((first | refine stbS rfl HM.out 0 rfl rfl rfl rfl rfl rfl ?_ | refine stbS rfl HM.out 1 rfl rfl rfl rfl rfl rfl ?_ | refine stbS rfl HM.out 2 rfl rfl rfl rfl rfl rfl ?_ | refine stbS rfl HM.out 3 rfl rfl rfl rfl rfl rfl ?_ | refine stbS rfl HM.out 4 rfl rfl rfl rfl rfl rfl ?_ | refine stbS rfl HM.out 5 rfl rfl rfl rfl rfl rfl ?_ | refine stbS rfl HM.out 6 rfl rfl rfl rfl rfl rfl ?_); intro W1 HM1; replace HM := Lib.hid HM1; clear HM1; simp only [lss, Nat.reduceAdd] at HM))) | ((with_reducible refine ibuildSlice ?_); refine bs1A rfl HM.out rfl rfl rfl ?_; intro g1 W1 HM1; replace HM := Lib.hid HM1; clear HM1) | ((with_reducible refine ialloc ?_); refine alb rfl HM.out ?_; intro g1 W1 HM1; replace HM := Lib.hid HM1; clear HM1) | ((with_reducible refine ibox ?_); refine bxA rfl HM.out rfl ?_; intro g1 W1 HM1; replace HM := Lib.hid HM1; clear HM1))
        refine wp_region_fork [(true, 0), (true, 1), (true, 2), (true, 3), (true, 5), (true, 7)] [(false, 4), (true, 6), (false, 8), (false, 9), (true, 10), (true, 11), (false, 12)] [(false, 8), (false, 4), (true, 6), (false, 9), (true, 10), (true, 11), (false, 12)] (by kernel_rfl) (by kernel_rfl) rfl (by kernel_rfl) (fun _ _ _ _ _ h => h) HM.out _ (.cons _ (.cons_cons _ (List.nil_sublist _))) ?_
        intro hNE W1 HM1; replace HM := Lib.hid HM1; clear HM1
        have HS0 := Lib.hid (HM.out.sub (.cons _ (.cons_cons _ (List.nil_sublist _))))
        simp only [wpFork, wpSteps, List.getElem?_cons_succ, List.getElem?_cons_zero]
        (repeat (first | ((with_reducible refine qnilCheck ?_); (refine qnil rfl ?_)) | ((with_reducible refine wpQuiet_nil ?_); (try dsimp only)) | ((with_reducible refine qload ?_); first | (refine qdb1 HS0.out 0 rfl rfl rfl ?_) | (refine qdbW HS0.out 0 rfl rfl rfl ?_) | (refine qdbS HS0.out 0 rfl rfl rfl ?_; simp only [List.take, List.drop])) | ((with_reducible refine qat 90 ?_); (refine qslt (m := cut) rfl rfl rfl (by have h := hcap.out; omega) ?_)) | go_big_quiet_step (fail) | quiet_step (fail)))
        refine ⟨?_, ?_⟩
        · go_wp2_with (first | ((with_reducible refine iload ?_); first | refine ldb1 HM.out 0 rfl rfl rfl ?_ | refine ldb1 HM.out 1 rfl rfl rfl ?_ | refine ldb1 HM.out 2 rfl rfl rfl ?_ | refine ldb1 HM.out 3 rfl rfl rfl ?_ | refine ldb1 HM.out 4 rfl rfl rfl ?_ | refine ldb1 HM.out 5 rfl rfl rfl ?_))
          refine ⟨⟨⟨_, HM.out.sub (by repeat (first | exact List.nil_sublist _ | with_reducible refine List.Sublist.cons_cons _ ?_ | refine List.Sublist.cons _ ?_))⟩, rfl⟩, ?_⟩
          (try dsimp only)
          (repeat (first | ((with_reducible refine wpQuiet_nil ?_); (try dsimp only)) | ((with_reducible refine qat 90 ?_); (refine qslt (m := cut) rfl rfl rfl (by have h := hcap.out; omega) ?_)) | go_big_quiet_step (fail) | quiet_step (fail)))
          go_wp2_with (first | ((with_reducible refine ibuildSlice ?_); refine bs1A rfl HM.out rfl rfl rfl ?_; intro g1 W1 HM1; replace HM := Lib.hid HM1; clear HM1))
          refine ⟨⟨⟨_, HM.out.sub (by repeat (first | exact List.nil_sublist _ | with_reducible refine List.Sublist.cons_cons _ ?_ | refine List.Sublist.cons _ ?_))⟩, rfl⟩, ?_⟩
          (try dsimp only)
          go_wp2_with (first | (refine apb rfl HM.out 5 0 rfl rfl rfl rfl rfl rfl (by omega) (by omega) (by omega) ?_; intro p1 cap1 W1 HM1; replace HM := Lib.hid HM1; clear HM1; simp only [List.set] at HM))
          refine ⟨⟨⟨_, HM.out.sub (by repeat (first | exact List.nil_sublist _ | with_reducible refine List.Sublist.cons_cons _ ?_ | refine List.Sublist.cons _ ?_))⟩, rfl⟩, ?_⟩
          (try dsimp only)
          (repeat (first | ((with_reducible refine qnilCheck ?_); (refine qnil rfl ?_)) | ((with_reducible refine wpQuiet_nil ?_); (try dsimp only)) | go_big_quiet_step (fail) | quiet_step (fail)))
          go_wp2_with (first | ((with_reducible refine istore ?_); ((first | refine stb1 (v := .slice _ _ _) rfl HM.out 0 rfl rfl rfl rfl rfl ?_ | refine stb1 (v := .slice _ _ _) rfl HM.out 1 rfl rfl rfl rfl rfl ?_ | refine stb1 (v := .slice _ _ _) rfl HM.out 2 rfl rfl rfl rfl rfl ?_ | refine stb1 (v := .slice _ _ _) rfl HM.out 3 rfl rfl rfl rfl rfl ?_ | refine stb1 (v := .slice _ _ _) rfl HM.out 4 rfl rfl rfl rfl rfl ?_ | refine stb1 (v := .slice _ _ _) rfl HM.out 5 rfl rfl rfl rfl rfl ?_); intro W1 HM1; replace HM := Lib.hid HM1; clear HM1; simp only [List.set] at HM)))
          refine ⟨⟨⟨_, HM.out.sub (by repeat (first | exact List.nil_sublist _ | with_reducible refine List.Sublist.cons_cons _ ?_ | refine List.Sublist.cons _ ?_))⟩, rfl⟩, ?_⟩
          (try dsimp only)
          clear HS0 hNE
          go_wp2_with fail
          go_ret
          refine ⟨rfl, p1, cap1, st.take cut ++ [⟨⟨0, 0⟩, xq, acc.length, xc⟩], [.row xq xc 89 3 acc.length (acc.flatMap AskD.cs)], ?_, ((HO.out.take cut).mono (fun r hr => List.mem_cons_of_mem _ hr)).push ⟨rfl, rfl, Or.inl (List.mem_cons_self ..)⟩⟩
          rw [stack_len _ (by omega), ← stack_flat]
          exact (HM.out.sub (.cons _ (.cons_cons _ (.cons _ (.cons _ (.refl _)))))).perm (List.perm_middle (l₁ := [_, _, _])).symm
        · go_wp2_with (first | ((with_reducible refine ibuildSlice ?_); refine bs1A rfl HM.out rfl rfl rfl ?_; intro g1 W1 HM1; replace HM := Lib.hid HM1; clear HM1))
          refine ⟨⟨⟨_, HM.out.sub (by repeat (first | exact List.nil_sublist _ | with_reducible refine List.Sublist.cons_cons _ ?_ | refine List.Sublist.cons _ ?_))⟩, rfl⟩, ?_⟩
          (try dsimp only)
          go_wp2_with (first | ((with_reducible refine iload ?_); first | refine ldb1 HM.out 0 rfl rfl rfl ?_ | refine ldb1 HM.out 1 rfl rfl rfl ?_ | refine ldb1 HM.out 2 rfl rfl rfl ?_ | refine ldb1 HM.out 3 rfl rfl rfl ?_ | refine ldb1 HM.out 4 rfl rfl rfl ?_ | refine ldb1 HM.out 5 rfl rfl rfl ?_))
          refine ⟨⟨⟨_, HM.out.sub (by repeat (first | exact List.nil_sublist _ | with_reducible refine List.Sublist.cons_cons _ ?_ | refine List.Sublist.cons _ ?_))⟩, rfl⟩, ?_⟩
          (try dsimp only)
          (repeat (first | ((with_reducible refine wpQuiet_nil ?_); (try dsimp only)) | ((with_reducible refine qat 90 ?_); (refine qslt (m := cut) rfl rfl rfl (by have h := hcap.out; omega) ?_)) | go_big_quiet_step (fail) | quiet_step (fail)))
          go_wp2_with (first | (refine apb rfl HM.out 5 0 rfl rfl rfl rfl rfl rfl (by omega) (by omega) (by omega) ?_; intro p1 cap1 W1 HM1; replace HM := Lib.hid HM1; clear HM1; simp only [List.set] at HM))
          refine ⟨⟨⟨_, HM.out.sub (by repeat (first | exact List.nil_sublist _ | with_reducible refine List.Sublist.cons_cons _ ?_ | refine List.Sublist.cons _ ?_))⟩, rfl⟩, ?_⟩
          (try dsimp only)
          (repeat (first | ((with_reducible refine qnilCheck ?_); (refine qnil rfl ?_)) | ((with_reducible refine wpQuiet_nil ?_); (try dsimp only)) | go_big_quiet_step (fail) | quiet_step (fail)))
          go_wp2_with (first | ((with_reducible refine istore ?_); ((first | refine stb1 (v := .slice _ _ _) rfl HM.out 0 rfl rfl rfl rfl rfl ?_ | refine stb1 (v := .slice _ _ _) rfl HM.out 1 rfl rfl rfl rfl rfl ?_ | refine stb1 (v := .slice _ _ _) rfl HM.out 2 rfl rfl rfl rfl rfl ?_ | refine stb1 (v := .slice _ _ _) rfl HM.out 3 rfl rfl rfl rfl rfl ?_ | refine stb1 (v := .slice _ _ _) rfl HM.out 4 rfl rfl rfl rfl rfl ?_ | refine stb1 (v := .slice _ _ _) rfl HM.out 5 rfl rfl rfl rfl rfl ?_); intro W1 HM1; replace HM := Lib.hid HM1; clear HM1; simp only [List.set] at HM)))
          refine ⟨⟨⟨_, HM.out.sub (by repeat (first | exact List.nil_sublist _ | with_reducible refine List.Sublist.cons_cons _ ?_ | refine List.Sublist.cons _ ?_))⟩, rfl⟩, ?_⟩
          (try dsimp only)
          clear HS0 hNE
          go_wp2_with fail
          go_ret
          refine ⟨rfl, p1, cap1, st.take cut ++ [⟨⟨0, 0⟩, xq, acc.length, xc⟩], [.row xq xc 89 3 acc.length (acc.flatMap AskD.cs)], ?_, ((HO.out.take cut).mono (fun r hr => List.mem_cons_of_mem _ hr)).push ⟨rfl, rfl, Or.inl (List.mem_cons_self ..)⟩⟩
          rw [stack_len _ (by omega), ← stack_flat]
          exact (HM.out.sub (.cons _ (.cons_cons _ (.cons _ (.cons _ (.refl _)))))).perm (List.perm_middle (l₁ := [_, _, _])).symm
end Go.Proofs.YtpjcjgikfplgnaaDoor
