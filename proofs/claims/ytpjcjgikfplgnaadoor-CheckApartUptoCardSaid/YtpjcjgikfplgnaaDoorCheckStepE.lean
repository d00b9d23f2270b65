/- step of check: an expression. Printed by wip/tools/gen_step.py. (fast) -/
import Derived.Test.YtpjcjgikfplgnaaDoorStepA
namespace Go.Proofs.YtpjcjgikfplgnaaDoor
open Go.RowKit
set_option linter.unusedVariables false
set_option linter.unusedSimpArgs false
set_option maxRecDepth 100000

theorem ask_oneE (l : List AskD) : ∀ u ∈ l.flatMap AskD.cs, u.oneCell' = true := by
  intro u hu
  obtain ⟨a, _, ha⟩ := List.mem_flatMap.1 hu
  simp only [AskD.cs, List.mem_cons, List.not_mem_nil, or_false] at ha
  rcases ha with rfl | rfl | rfl <;> rfl

set_option maxHeartbeats 8000000 in
theorem step_E (w0 W : World) (gc gm cap : Nat) (sq : Option Addr) (T : List Res) (l : List SymD) (st : List ThT) (ds : List ThD) (n : NodeD) (hop : n.op < 30)
    (HM0 : Mem w0 W (.box gc 60 [.map (some gm), .slice sq st.length cap] :: .row sq cap 63 3 st.length (st.flatMap ThT.cs) :: .map gm (mapEs (symE l)) (symE l).length :: T))
    (hO : StOk T st ds) (hF : ∀ d, d ∈ ds → ThForm d) (hk : kidsB n.op n.kids = true) (hkl : n.kids ≤ st.length) (hz : sizeT ds ≤ 300) :
    Calls Tryd.prog 44 #[.pointer (some ⟨gc, 0, none⟩), .agg n.cs.toArray] W (StepPost w0 gc gm T l (nextT l ds n) (stepT l ds n).2) := by
  obtain ⟨op, kids, text, neg, hi, lo, sc, day⟩ := n
  have hkn : 0 ≤ kids := kidsB_nonneg hk
  obtain ⟨m, rfl⟩ : ∃ m : Nat, kids = m := ⟨kids.toNat, by omega⟩
  have hml : m ≤ st.length := by have h : (m : Int) ≤ st.length := hkl; omega
  have hlen := hO.len
  have hst300 : st.length ≤ 300 := by have := sizeT_len ds; omega
  obtain ⟨cut, hcut⟩ : ∃ cut, st.length - m = cut := ⟨_, rfl⟩
  have hcm : cut + m = st.length := by omega
  have hN : nextT l ds ⟨op, m, text, neg, hi, lo, sc, day⟩ = ds.take cut ++ [(stepT l ds ⟨op, m, text, neg, hi, lo, sc, day⟩).1] := by unfold nextT; rw [← hlen]; show ds.take (st.length - ((m : Int)).toNat) ++ _ = _; rw [Int.toNat_natCast, hcut]
  have hP : partsD ⟨op, m, text, neg, hi, lo, sc, day⟩ ds = ds.drop cut := by unfold partsD; rw [← hlen]; show ds.drop (st.length - ((m : Int)).toNat) = _; rw [Int.toNat_natCast, hcut]
  have hsz := sizeT_drop ds cut
  have hdl : (st.drop cut).length = m := by rw [List.length_drop]; omega
  have hcap0 := (row_cap (HM0.get (k := 1) rfl))
  obtain ⟨⟨⟨rk, ro⟩, re⟩, hr⟩ : ∃ r, typedF l op text (ds.drop cut) = r := ⟨_, rfl⟩
  have hS1 : stepT l ds ⟨op, m, text, neg, hi, lo, sc, day⟩ = (⟨⟨rk, ro⟩, []⟩, re) := by
    unfold stepT
    have h : op < 30 := hop
    rw [if_neg (show ¬ (op = 36 ∨ op = 37) by omega), if_neg (show ¬ (30 ≤ op ∧ op ≤ 35) by omega), hP]
    show ((⟨(typedF l op text (ds.drop cut)).1, []⟩ : ThD), (typedF l op text (ds.drop cut)).2) = _
    rw [hr]
  rw [hS1] at hN
  rw [hS1, hN]
  have HT := Lib.hid (fun W (q : Option Addr) (c : Nat) (h1 : CheckerAt W gc gm (.slice sq st.length cap) l) (h2 : Sl W q ((st.drop cut).flatMap ThT.cs)) (h3 : ThsOk W (st.drop cut) (ds.drop cut)) (hc : m ≤ c) => (show Calls Tryd.prog 63 #[.pointer (some ⟨gc, 0, none⟩), .agg (NodeD.cs ⟨op, m, text, neg, hi, lo, sc, day⟩).toArray, .slice q m c] W fun e w' => e = .returned (.tuple #[.agg #[.int .i64 rk, .int .i64 ro], .int .i64 re]) ∧ Below W.heap.size W w' from by
    have h4 := typed_any gc gm (.slice sq st.length cap) l ⟨op, m, text, neg, hi, lo, sc, day⟩ q c (st.drop cut) (ds.drop cut) W h1 h2 h3 (fun d hd => hF d (List.mem_of_mem_drop hd)) (by rw [hdl]; exact hk) (by rw [hdl]; exact hc) (by rw [hdl]; omega) (fun d hd => by have h5 := sizeT_mem hd; omega)
    rw [hdl, show typedF l (NodeD.op ⟨op, m, text, neg, hi, lo, sc, day⟩) (NodeD.text ⟨op, m, text, neg, hi, lo, sc, day⟩) (ds.drop cut) = ((⟨rk, ro⟩, re) : TyD × Int) from hr] at h4
    exact h4))
  have HO := Lib.hid hO
  have HOd := Lib.hid (hO.drop cut)
  have HM := Lib.hid HM0
  have HCM := Lib.hid hcm
  have hcap := Lib.hid (row_cap (HM0.get (k := 1) rfl)).1
  have hmx := (row_cap (HM0.get (k := 1) rfl)).2.1
  unfold maxLen at hmx
  have HZ := Lib.hid hz
  have HSZ := Lib.hid hsz
  have HDL := Lib.hid hdl
  have h30 : op < 30 := hop
  have b36 : (op == 36) = false := beq_false_of_ne (by omega)
  have b37 : (op == 37) = false := beq_false_of_ne (by omega)
  have HWR := Lib.hid (show IntKind.i64.wrap ((st.length : Int) - (m : Int)) = (cut : Int) by
    rw [show (st.length : Int) - (m : Int) = (cut : Int) by omega]
    exact IntWalk.i64_in _ (by omega))
  clear hO hF hk hkl hz hsz hdl hP HM0 hop hkn hlen hcut hr hS1 hN hcap0
  go_enter Tryd.func44, Tryd.ntmps44
  go_wp2_with (first | ((with_reducible refine igd ?_); (with_reducible refine skip_op ?_ ?_); (exact rfl)) | ((with_reducible refine inilCheck ?_); (refine lnil rfl ?_)) | ((with_reducible refine iload ?_); first | refine ldb1 HM.out 0 rfl rfl rfl ?_ | refine ldb1 HM.out 1 rfl rfl rfl ?_ | refine ldb1 HM.out 2 rfl rfl rfl ?_ | refine ldb1 HM.out 3 rfl rfl rfl ?_ | refine ldbW HM.out 0 rfl rfl rfl ?_ | refine ldbW HM.out 1 rfl rfl rfl ?_ | refine ldbW HM.out 2 rfl rfl rfl ?_ | refine ldbW HM.out 3 rfl rfl rfl ?_ | ((first | refine ldbS HM.out 0 rfl rfl rfl ?_ | refine ldbS HM.out 1 rfl rfl rfl ?_ | refine ldbS HM.out 2 rfl rfl rfl ?_ | refine ldbS HM.out 3 rfl rfl rfl ?_); simp only [List.take, List.drop])) | ((with_reducible refine istore ?_); (first | ((first | refine stb1 (v := .slice _ _ _) rfl HM.out 0 rfl rfl rfl rfl rfl ?_ | refine stb1 (v := .slice _ _ _) rfl HM.out 1 rfl rfl rfl rfl rfl ?_ | refine stb1 (v := .slice _ _ _) rfl HM.out 2 rfl rfl rfl rfl rfl ?_ | refine stb1 (v := .slice _ _ _) rfl HM.out 3 rfl rfl rfl rfl rfl ?_ | refine stbW rfl HM.out 0 rfl rfl rfl rfl rfl rfl ?_ | refine stbW rfl HM.out 1 rfl rfl rfl rfl rfl rfl ?_ | refine stbW rfl HM.out 2 rfl rfl rfl rfl rfl rfl ?_ | refine stbW rfl HM.out 3 rfl rfl rfl rfl rfl rfl ?_); intro W1 HM1; replace HM := Lib.hid HM1; clear HM1; simp only [List.set] at HM) | ((first | refine stbS rfl HM.out 0 rfl rfl rfl rfl rfl rfl ?_ | refine stbS rfl HM.out 1 rfl rfl rfl rfl rfl rfl ?_ | refine stbS rfl HM.out 2 rfl rfl rfl rfl rfl rfl ?_ | refine stbS rfl HM.out 3 rfl rfl rfl rfl rfl rfl ?_); intro W1 HM1; replace HM := Lib.hid HM1; clear HM1; simp only [lss, Nat.reduceAdd] at HM))) | ((with_reducible refine ibuildSlice ?_); refine bs1A rfl HM.out rfl rfl rfl ?_; intro g1 W1 HM1; replace HM := Lib.hid HM1; clear HM1) | ((with_reducible refine ibox (d := some 3) ?_); refine bxA rfl HM.out rfl ?_; intro g3 W1 HM1; replace HM := Lib.hid HM1; clear HM1) | ((with_reducible refine ialloc (d := some 7) ?_); refine alb rfl HM.out ?_; intro g7 W1 HM1; replace HM := Lib.hid HM1; clear HM1) | ((with_reducible refine ialloc ?_); refine alb rfl HM.out ?_; intro g1 W1 HM1; replace HM := Lib.hid HM1; clear HM1))
  have HWR1 := HWR.out
  have hcm2 : cut + m ≤ st.length := Nat.le_of_eq HCM.out
  have hcm3 : st.length ≤ cut + m := Nat.le_of_eq HCM.out.symm
  refine wp_region_steps2 [(true, 0), (true, 1), (true, 2), (true, 3), (true, 4), (true, 5), (true, 6), (true, 7), (true, 8)] (by kernel_rfl) (by kernel_rfl) rfl (by kernel_rfl) (fun _ _ _ _ _ h => h) HM.out _ (.cons_cons _ (.cons_cons _ (List.nil_sublist _))) ?_
  intro hNE W1 HM1; replace HM := Lib.hid HM1; clear HM1
  have HS0 := Lib.hid (HM.out.sub (.cons_cons _ (.cons_cons _ (List.nil_sublist _))))
  simp only [wpSteps, List.getElem?_cons_succ, List.getElem?_cons_zero]
  (repeat (first | ((with_reducible refine qnilCheck ?_); (refine qnil rfl ?_)) | ((with_reducible refine wpQuiet_nil ?_); (try dsimp only)) | ((with_reducible refine qload ?_); first | (refine qdb1 HS0.out 0 rfl rfl rfl ?_) | (refine qdb1 HS0.out 1 rfl rfl rfl ?_)) | go_big_quiet_step (fail) | quiet_step (fail)))
  clear HS0 hNE
  clear HWR1
  go_upto_region 5 with (first | ((with_reducible refine iat 26 ?_); (refine slf rfl rfl (m := cut) (l := m) rfl (by omega) hcap.out (by omega) ?_; intro q2 hq2; have HQ2 := Lib.hid hq2; clear hq2)) | ((with_reducible refine igd ?_); (with_reducible refine skip_op ?_ ?_); (exact rfl)) | ((with_reducible refine inilCheck ?_); (refine lnil rfl ?_)) | ((with_reducible refine iload ?_); first | refine ldb1 HM.out 0 rfl rfl rfl ?_ | refine ldb1 HM.out 1 rfl rfl rfl ?_ | refine ldb1 HM.out 2 rfl rfl rfl ?_ | refine ldb1 HM.out 3 rfl rfl rfl ?_ | refine ldbW HM.out 0 rfl rfl rfl ?_ | refine ldbW HM.out 1 rfl rfl rfl ?_ | refine ldbW HM.out 2 rfl rfl rfl ?_ | refine ldbW HM.out 3 rfl rfl rfl ?_ | ((first | refine ldbS HM.out 0 rfl rfl rfl ?_ | refine ldbS HM.out 1 rfl rfl rfl ?_ | refine ldbS HM.out 2 rfl rfl rfl ?_ | refine ldbS HM.out 3 rfl rfl rfl ?_); simp only [List.take, List.drop])) | ((with_reducible refine istore ?_); (first | ((first | refine stb1 (v := .slice _ _ _) rfl HM.out 0 rfl rfl rfl rfl rfl ?_ | refine stb1 (v := .slice _ _ _) rfl HM.out 1 rfl rfl rfl rfl rfl ?_ | refine stb1 (v := .slice _ _ _) rfl HM.out 2 rfl rfl rfl rfl rfl ?_ | refine stb1 (v := .slice _ _ _) rfl HM.out 3 rfl rfl rfl rfl rfl ?_ | refine stbW rfl HM.out 0 rfl rfl rfl rfl rfl rfl ?_ | refine stbW rfl HM.out 1 rfl rfl rfl rfl rfl rfl ?_ | refine stbW rfl HM.out 2 rfl rfl rfl rfl rfl rfl ?_ | refine stbW rfl HM.out 3 rfl rfl rfl rfl rfl rfl ?_); intro W1 HM1; replace HM := Lib.hid HM1; clear HM1; simp only [List.set] at HM) | ((first | refine stbS rfl HM.out 0 rfl rfl rfl rfl rfl rfl ?_ | refine stbS rfl HM.out 1 rfl rfl rfl rfl rfl rfl ?_ | refine stbS rfl HM.out 2 rfl rfl rfl rfl rfl rfl ?_ | refine stbS rfl HM.out 3 rfl rfl rfl rfl rfl rfl ?_); intro W1 HM1; replace HM := Lib.hid HM1; clear HM1; simp only [lss, Nat.reduceAdd] at HM))) | ((with_reducible refine ibuildSlice ?_); refine bs1A rfl HM.out rfl rfl rfl ?_; intro g1 W1 HM1; replace HM := Lib.hid HM1; clear HM1) | ((with_reducible refine ibox (d := some 3) ?_); refine bxA rfl HM.out rfl ?_; intro g3 W1 HM1; replace HM := Lib.hid HM1; clear HM1) | ((with_reducible refine ialloc (d := some 7) ?_); refine alb rfl HM.out ?_; intro g7 W1 HM1; replace HM := Lib.hid HM1; clear HM1) | ((with_reducible refine ialloc ?_); refine alb rfl HM.out ?_; intro g1 W1 HM1; replace HM := Lib.hid HM1; clear HM1))
  have HSl := Lib.hid (fun W B (h : (Res.row sq cap 63 3 st.length (st.flatMap ThT.cs)).holds B W) => HQ2.out ▸ sl_from ThT.cs 3 ThT.cs_len h (m := cut) (by omega))
  go_wp2_with (first | (go_at_call 63; (with_reducible refine (HT.out _ _ _ (HM.out.chk 2 4 rfl rfl) (HSl.out _ _ (HM.out.get (k := 3) rfl)) (HOd.out.ths (fun r hr => HM.out.holds r (by simp [hr]))) (by have h := hcap.out; omega)).mono ?_); rintro e W1 ⟨rfl, hb⟩; replace HM := Lib.hid (HM.out.next hb); clear hb) | ((with_reducible refine igd ?_); (with_reducible refine skip_op ?_ ?_); (exact rfl)) | ((with_reducible refine inilCheck ?_); (refine lnil rfl ?_)) | ((with_reducible refine iload ?_); first | refine ldb1 HM.out 0 rfl rfl rfl ?_ | refine ldb1 HM.out 1 rfl rfl rfl ?_ | refine ldb1 HM.out 2 rfl rfl rfl ?_ | refine ldbW HM.out 0 rfl rfl rfl ?_ | refine ldbW HM.out 1 rfl rfl rfl ?_ | refine ldbW HM.out 2 rfl rfl rfl ?_ | ((first | refine ldbS HM.out 0 rfl rfl rfl ?_ | refine ldbS HM.out 1 rfl rfl rfl ?_ | refine ldbS HM.out 2 rfl rfl rfl ?_); simp only [List.take, List.drop])) | ((with_reducible refine istore ?_); (first | ((first | refine stb1 (v := .slice _ _ _) rfl HM.out 0 rfl rfl rfl rfl rfl ?_ | refine stb1 (v := .slice _ _ _) rfl HM.out 1 rfl rfl rfl rfl rfl ?_ | refine stb1 (v := .slice _ _ _) rfl HM.out 2 rfl rfl rfl rfl rfl ?_ | refine stbW rfl HM.out 0 rfl rfl rfl rfl rfl rfl ?_ | refine stbW rfl HM.out 1 rfl rfl rfl rfl rfl rfl ?_ | refine stbW rfl HM.out 2 rfl rfl rfl rfl rfl rfl ?_); intro W1 HM1; replace HM := Lib.hid HM1; clear HM1; simp only [List.set] at HM) | ((first | refine stbS rfl HM.out 0 rfl rfl rfl rfl rfl rfl ?_ | refine stbS rfl HM.out 1 rfl rfl rfl rfl rfl rfl ?_ | refine stbS rfl HM.out 2 rfl rfl rfl rfl rfl rfl ?_); intro W1 HM1; replace HM := Lib.hid HM1; clear HM1; simp only [lss, Nat.reduceAdd] at HM))) | ((with_reducible refine ibuildSlice ?_); refine bs1A rfl HM.out rfl rfl rfl ?_; intro g1 W1 HM1; replace HM := Lib.hid HM1; clear HM1) | ((with_reducible refine ialloc ?_); refine alb rfl HM.out ?_; intro g1 W1 HM1; replace HM := Lib.hid HM1; clear HM1) | ((with_reducible refine ibox ?_); refine bxA rfl HM.out rfl ?_; intro g1 W1 HM1; replace HM := Lib.hid HM1; clear HM1))
  refine wp_region_fork [(true, 0), (true, 1), (true, 2), (true, 3), (true, 5), (true, 7)] [(false, 4), (true, 6), (false, 8), (false, 9), (true, 10), (true, 11), (false, 12)] [(false, 8), (false, 4), (true, 6), (false, 9), (true, 10), (true, 11), (false, 12)] (by kernel_rfl) (by kernel_rfl) rfl (by kernel_rfl) (fun _ _ _ _ _ h => h) HM.out _ (.cons_cons _ (List.nil_sublist _)) ?_
  intro hNE W1 HM1; replace HM := Lib.hid HM1; clear HM1
  have HS0 := Lib.hid (HM.out.sub (.cons_cons _ (List.nil_sublist _)))
  simp only [wpFork, wpSteps, List.getElem?_cons_succ, List.getElem?_cons_zero]
  (repeat (first | ((with_reducible refine qnilCheck ?_); (refine qnil rfl ?_)) | ((with_reducible refine wpQuiet_nil ?_); (try dsimp only)) | ((with_reducible refine qload ?_); first | (refine qdb1 HS0.out 0 rfl rfl rfl ?_) | (refine qdbW HS0.out 0 rfl rfl rfl ?_) | (refine qdbS HS0.out 0 rfl rfl rfl ?_; simp only [List.take, List.drop])) | ((with_reducible refine qat 90 ?_); (refine qslt (m := cut) rfl rfl rfl (by have h := hcap.out; omega) ?_)) | go_big_quiet_step (fail) | quiet_step (fail)))
  refine ⟨?_, ?_⟩
  · go_wp2_with (first | ((with_reducible refine iload ?_); first | refine ldb1 HM.out 0 rfl rfl rfl ?_ | refine ldb1 HM.out 1 rfl rfl rfl ?_ | refine ldb1 HM.out 2 rfl rfl rfl ?_ | refine ldb1 HM.out 3 rfl rfl rfl ?_ | refine ldb1 HM.out 4 rfl rfl rfl ?_ | refine ldb1 HM.out 5 rfl rfl rfl ?_))
    refine ⟨⟨⟨_, HM.out.sub (by repeat (first | exact List.nil_sublist _ | with_reducible refine List.Sublist.cons_cons _ ?_ | refine List.Sublist.cons _ ?_))⟩, rfl⟩, ?_⟩
    (try dsimp only)
    (repeat (first | ((with_reducible refine wpQuiet_nil ?_); (try dsimp only)) | ((with_reducible refine qat 90 ?_); (refine qslt (m := cut) rfl rfl rfl (by have h := hcap.out; omega) ?_)) | go_big_quiet_step (fail) | quiet_step (fail)))
    go_wp2_with (first | ((with_reducible refine ibuildSlice ?_); refine bs1A rfl HM.out rfl rfl rfl ?_; intro g1 W1 HM1; replace HM := Lib.hid HM1; clear HM1))
    refine ⟨⟨⟨_, HM.out.sub (by repeat (first | exact List.nil_sublist _ | with_reducible refine List.Sublist.cons_cons _ ?_ | refine List.Sublist.cons _ ?_))⟩, rfl⟩, ?_⟩
    (try dsimp only)
    go_wp2_with (first | (refine apb rfl HM.out 4 0 rfl rfl rfl rfl rfl rfl (by omega) (by omega) (by omega) ?_; intro p1 cap1 W1 HM1; replace HM := Lib.hid HM1; clear HM1; simp only [List.set] at HM))
    refine ⟨⟨⟨_, HM.out.sub (by repeat (first | exact List.nil_sublist _ | with_reducible refine List.Sublist.cons_cons _ ?_ | refine List.Sublist.cons _ ?_))⟩, rfl⟩, ?_⟩
    (try dsimp only)
    (repeat (first | ((with_reducible refine qnilCheck ?_); (refine qnil rfl ?_)) | ((with_reducible refine wpQuiet_nil ?_); (try dsimp only)) | go_big_quiet_step (fail) | quiet_step (fail)))
    go_wp2_with (first | ((with_reducible refine istore ?_); ((first | refine stb1 (v := .slice _ _ _) rfl HM.out 0 rfl rfl rfl rfl rfl ?_ | refine stb1 (v := .slice _ _ _) rfl HM.out 1 rfl rfl rfl rfl rfl ?_ | refine stb1 (v := .slice _ _ _) rfl HM.out 2 rfl rfl rfl rfl rfl ?_ | refine stb1 (v := .slice _ _ _) rfl HM.out 3 rfl rfl rfl rfl rfl ?_ | refine stb1 (v := .slice _ _ _) rfl HM.out 4 rfl rfl rfl rfl rfl ?_ | refine stb1 (v := .slice _ _ _) rfl HM.out 5 rfl rfl rfl rfl rfl ?_); intro W1 HM1; replace HM := Lib.hid HM1; clear HM1; simp only [List.set] at HM)))
    refine ⟨⟨⟨_, HM.out.sub (by repeat (first | exact List.nil_sublist _ | with_reducible refine List.Sublist.cons_cons _ ?_ | refine List.Sublist.cons _ ?_))⟩, rfl⟩, ?_⟩
    (try dsimp only)
    clear HS0 hNE
    go_wp2_with fail
    go_ret
    refine ⟨rfl, p1, cap1, st.take cut ++ [⟨⟨rk, ro⟩, none, 0, 0⟩], [], ?_, (HO.out.take cut).push ⟨rfl, rfl, Or.inr ⟨rfl, rfl⟩⟩⟩
    rw [stack_len _ (by omega), ← stack_flat]
    exact HM.out.sub (.cons _ (.cons _ (.cons _ (.refl _))))
  · go_wp2_with (first | ((with_reducible refine ibuildSlice ?_); refine bs1A rfl HM.out rfl rfl rfl ?_; intro g1 W1 HM1; replace HM := Lib.hid HM1; clear HM1))
    refine ⟨⟨⟨_, HM.out.sub (by repeat (first | exact List.nil_sublist _ | with_reducible refine List.Sublist.cons_cons _ ?_ | refine List.Sublist.cons _ ?_))⟩, rfl⟩, ?_⟩
    (try dsimp only)
    go_wp2_with (first | ((with_reducible refine iload ?_); first | refine ldb1 HM.out 0 rfl rfl rfl ?_ | refine ldb1 HM.out 1 rfl rfl rfl ?_ | refine ldb1 HM.out 2 rfl rfl rfl ?_ | refine ldb1 HM.out 3 rfl rfl rfl ?_ | refine ldb1 HM.out 4 rfl rfl rfl ?_ | refine ldb1 HM.out 5 rfl rfl rfl ?_))
    refine ⟨⟨⟨_, HM.out.sub (by repeat (first | exact List.nil_sublist _ | with_reducible refine List.Sublist.cons_cons _ ?_ | refine List.Sublist.cons _ ?_))⟩, rfl⟩, ?_⟩
    (try dsimp only)
    (repeat (first | ((with_reducible refine wpQuiet_nil ?_); (try dsimp only)) | ((with_reducible refine qat 90 ?_); (refine qslt (m := cut) rfl rfl rfl (by have h := hcap.out; omega) ?_)) | go_big_quiet_step (fail) | quiet_step (fail)))
    go_wp2_with (first | (refine apb rfl HM.out 4 0 rfl rfl rfl rfl rfl rfl (by omega) (by omega) (by omega) ?_; intro p1 cap1 W1 HM1; replace HM := Lib.hid HM1; clear HM1; simp only [List.set] at HM))
    refine ⟨⟨⟨_, HM.out.sub (by repeat (first | exact List.nil_sublist _ | with_reducible refine List.Sublist.cons_cons _ ?_ | refine List.Sublist.cons _ ?_))⟩, rfl⟩, ?_⟩
    (try dsimp only)
    (repeat (first | ((with_reducible refine qnilCheck ?_); (refine qnil rfl ?_)) | ((with_reducible refine wpQuiet_nil ?_); (try dsimp only)) | go_big_quiet_step (fail) | quiet_step (fail)))
    go_wp2_with (first | ((with_reducible refine istore ?_); ((first | refine stb1 (v := .slice _ _ _) rfl HM.out 0 rfl rfl rfl rfl rfl ?_ | refine stb1 (v := .slice _ _ _) rfl HM.out 1 rfl rfl rfl rfl rfl ?_ | refine stb1 (v := .slice _ _ _) rfl HM.out 2 rfl rfl rfl rfl rfl ?_ | refine stb1 (v := .slice _ _ _) rfl HM.out 3 rfl rfl rfl rfl rfl ?_ | refine stb1 (v := .slice _ _ _) rfl HM.out 4 rfl rfl rfl rfl rfl ?_ | refine stb1 (v := .slice _ _ _) rfl HM.out 5 rfl rfl rfl rfl rfl ?_); intro W1 HM1; replace HM := Lib.hid HM1; clear HM1; simp only [List.set] at HM)))
    refine ⟨⟨⟨_, HM.out.sub (by repeat (first | exact List.nil_sublist _ | with_reducible refine List.Sublist.cons_cons _ ?_ | refine List.Sublist.cons _ ?_))⟩, rfl⟩, ?_⟩
    (try dsimp only)
    clear HS0 hNE
    go_wp2_with fail
    go_ret
    refine ⟨rfl, p1, cap1, st.take cut ++ [⟨⟨rk, ro⟩, none, 0, 0⟩], [], ?_, (HO.out.take cut).push ⟨rfl, rfl, Or.inr ⟨rfl, rfl⟩⟩⟩
    rw [stack_len _ (by omega), ← stack_flat]
    exact HM.out.sub (.cons _ (.cons _ (.cons _ (.refl _))))
end Go.Proofs.YtpjcjgikfplgnaaDoor
