/- Expr and Tests of check. (fast) -/
import Derived.Test.YtpjcjgikfplgnaaDoorCheckRun
import Derived.Test.YtpjcjgikfplgnaaDoorThingA
import Derived.Test.YtpjcjgikfplgnaaDoorExprCheck
namespace Go.Proofs.YtpjcjgikfplgnaaDoor
open Go.RowKit
set_option linter.unusedVariables false
set_option linter.unusedSimpArgs false
set_option maxRecDepth 100000

theorem namesGo_form : ∀ (l seen : List SymD), namesGo seen l = 0 → ∀ s, s ∈ l → s.t.form
  | [], _, _, s, hs => by cases hs
  | x :: l, seen, h, s, hs => by
    rw [namesGo_cons] at h
    split at h
    · cases h
    · rename_i hc
      rcases List.mem_cons.1 hs with rfl | hs
      · simp only [Bool.or_eq_true, Bool.not_eq_true', not_or, Bool.not_eq_false] at hc
        exact hc.2
      · exact namesGo_form l _ h s hs
theorem namesF_form {l : List SymD} (h : namesF l = 0) : ∀ s, s ∈ l → s.t.form := by
  unfold namesF at h
  split at h
  · cases h
  · exact namesGo_form l [] h
def exprF (ns : List NodeD) (l : List SymD) : TyD × Int :=
  if checkC ns false ≠ 0 then (⟨0, 0⟩, checkC ns false) else if namesF l ≠ 0 then (⟨0, 0⟩, namesF l) else ((runT l ns []).1.t, (runT l ns []).2)
def testsF (ns : List NodeD) (t : TyD) (l : List SymD) : Int :=
  if checkC ns true ≠ 0 then checkC ns true else if namesF l ≠ 0 then namesF l else if formB t.k t.o = false then 2 else if (runT l ns []).2 ≠ 0 then (runT l ns []).2 else if asksB t (runT l ns []).1.qs then 0 else 9
theorem named_ok (p : Option Addr) (c : Nat) (l : List SymD) (w : World) (hS : Sl w p (l.flatMap SymD.cs)) (hl : l.length ≤ 4611686018427387904) (h : namesF l = 0) :
    Calls Tryd.prog 23 #[.slice p l.length c] w fun e w' => ∃ g, e = .returned (.tuple #[.map (some g), .int .i64 0]) ∧ Mem w w' [.map g (mapEs (symE l)) (symE l).length] := by
  have h1 := named_any p c l w hS hl
  rw [h] at h1
  exact h1
theorem named_no (p : Option Addr) (c : Nat) (l : List SymD) (w : World) (hS : Sl w p (l.flatMap SymD.cs)) (hl : l.length ≤ 4611686018427387904) (h : namesF l ≠ 0) :
    Calls Tryd.prog 23 #[.slice p l.length c] w fun e w' => e = .returned (.tuple #[.map none, .int .i64 (namesF l)]) ∧ Below w.heap.size w w' := by
  refine (named_any p c l w hS hl).mono fun e w' hp => ?_
  unfold NamedPost at hp
  rw [if_neg h] at hp
  exact hp
theorem run_ok (w0 W : World) (gc gm : Nat) (T : List Res) (l : List SymD) (p : Option Addr) (c : Nat) (ns : List NodeD) (tests : Bool)
    (HM0 : Mem w0 W (.box gc 60 [.map (some gm), .slice none 0 0] :: .map gm (mapEs (symE l)) (symE l).length :: T))
    (hN : Sl w0 p (ns.flatMap NodeD.cs)) (hl : ∀ s, s ∈ l → s.t.form) (hc : checkC ns tests = 0) (tk tz : Int) (qs : List AskD) (hr : runT l ns [] = (⟨⟨tk, tz⟩, qs⟩, 0)) :
    Calls Tryd.prog 24 #[.pointer (some ⟨gc, 0, none⟩), .slice p ns.length c] W fun e w' => ∃ (xq : Option Addr) (xc : Nat) (R : List Res), e = .returned (.tuple #[.agg #[.int .i64 tk, .int .i64 tz, .slice xq qs.length xc], .int .i64 0]) ∧ Mem w0 w' (R ++ T) ∧ StIn (R ++ T) ⟨⟨tk, tz⟩, xq, qs.length, xc⟩ ⟨⟨tk, tz⟩, qs⟩ := by
  refine (run_any w0 W gc gm T l p c ns tests HM0 hN hl hc).mono fun e w' hp => ?_
  rw [hr] at hp
  unfold RunPost at hp
  rw [if_pos rfl] at hp
  obtain ⟨⟨⟨xk, xo⟩, xq, xn, xc⟩, R, he, hM, hi⟩ := hp
  obtain rfl : xn = qs.length := hi.2.1
  have h1 : (⟨xk, xo⟩ : TyD) = ⟨tk, tz⟩ := hi.1
  cases h1
  exact ⟨xq, xc, R, he, hM, hi⟩
theorem run_no (w0 W : World) (gc gm : Nat) (T : List Res) (l : List SymD) (p : Option Addr) (c : Nat) (ns : List NodeD) (tests : Bool)
    (HM0 : Mem w0 W (.box gc 60 [.map (some gm), .slice none 0 0] :: .map gm (mapEs (symE l)) (symE l).length :: T))
    (hN : Sl w0 p (ns.flatMap NodeD.cs)) (hl : ∀ s, s ∈ l → s.t.form) (hc : checkC ns tests = 0) (re : Int) (hr : (runT l ns []).2 = re) (h0 : re ≠ 0) :
    Calls Tryd.prog 24 #[.pointer (some ⟨gc, 0, none⟩), .slice p ns.length c] W fun e w' => e = .returned (.tuple #[.agg #[.int .i64 0, .int .i64 0, .slice none 0 0], .int .i64 re]) ∧ Mem w0 w' T := by
  refine (run_any w0 W gc gm T l p c ns tests HM0 hN hl hc).mono fun e w' hp => ?_
  unfold RunPost at hp
  rw [hr, if_neg h0] at hp
  exact hp
theorem runT_err {l : List SymD} : ∀ {ns : List NodeD} {ds : List ThD}, (runT l ns ds).2 ≠ 0 → (runT l ns ds).1.t = ⟨0, 0⟩
  | [], ds, h => absurd rfl h
  | n :: ns, ds, h => by
    unfold runT at h ⊢
    split
    · rename_i h0
      rw [if_pos h0] at h
      exact runT_err h
    · rfl
theorem mem_front {R : List Res} {a r : Res} (h : r ∈ R ++ [a]) : r ∈ a :: (R ++ []) := by
  rcases List.mem_append.1 h with h | h
  · exact List.mem_cons_of_mem _ (List.mem_append.2 (Or.inl h))
  · rw [List.mem_singleton.1 h]; exact List.mem_cons_self ..

set_option maxHeartbeats 4000000 in
theorem cExpr_any (p : Option Addr) (c : Nat) (ns : List NodeD) (q : Option Addr) (c2 : Nat) (l : List SymD) (w : World) (hN : Sl w p (ns.flatMap NodeD.cs)) (hwf : ∀ (i : Nat) (n : NodeD), ns[i]? = some n → n.wf) (hl : ns.length ≤ 4611686018427387904) (hL : Sl w q (l.flatMap SymD.cs)) (hl2 : l.length ≤ 4611686018427387904) (hT : U8 w) :
    Calls Tryd.prog 12 #[.slice p ns.length c, .slice q l.length c2] w fun e w' => e = .returned (resV (exprF ns l)) ∧ Below w.heap.size w w' := by
  have HM := Lib.hid (Mem.start w)
  obtain ⟨ce, hce⟩ : ∃ ce, checkC ns false = ce := ⟨_, rfl⟩
  obtain ⟨ne, hne⟩ : ∃ ne, namesF l = ne := ⟨_, rfl⟩
  obtain ⟨⟨⟨⟨tk, tz⟩, qs⟩, re⟩, hre⟩ : ∃ r, runT l ns [] = r := ⟨_, rfl⟩
  have HN := Lib.hid hN
  have HL := Lib.hid hL
  have HT := Lib.hid hT
  have HCk := Lib.hid (fun W (h : Sl W p (ns.flatMap NodeD.cs)) (h2 : U8 W) => hce ▸ eCheck_any p c ns false W h hwf hl h2)
  by_cases h1 : ce = 0
  · subst h1
    by_cases h2 : ne = 0
    · subst h2
      have HNm := Lib.hid (fun W (h : Sl W q (l.flatMap SymD.cs)) => named_ok q c2 l W h hl2 hne)
      have hfm := namesF_form hne
      by_cases h3 : re = 0
      · subst h3
        have HB := Lib.hid (show exprF ns l = (⟨tk, tz⟩, 0) by unfold exprF; rw [if_neg (by rw [hce]; simp), if_neg (by rw [hne]; simp), hre])
        have HRn := Lib.hid (fun W gc gm T (h : Mem w W (.box gc 60 [.map (some gm), .slice none 0 0] :: .map gm (mapEs (symE l)) (symE l).length :: T)) => run_ok w W gc gm T l p c ns false h hN hfm hce tk tz qs hre)
        clear hN hL hT hce hne hre hwf hfm
        go_enter Tryd.func12, Tryd.ntmps12
        go_wp2_with (first | (go_at_call 22; (with_reducible refine (HCk.out _ (HM.out.sl HN.out) (U8.below HT.out HM.out.below)).mono ?_); rintro e W1 ⟨rfl, hb⟩; replace HM := Lib.hid (HM.out.next hb); clear hb) | (go_at_call 23; (with_reducible refine (HNm.out _ (HM.out.sl HL.out)).mono ?_); rintro e W2 ⟨gm, rfl, hM2⟩; have HM1 := Lib.hid (HM.out.comp hM2); clear HM hM2; simp only [List.cons_append, List.nil_append] at HM1; (try clear W1); rename World => W1; have HM := HM1; clear HM1) | (go_at_call 24; (with_reducible refine (HRn.out _ _ _ _ HM.out).mono ?_); rintro e W2 ⟨xq, xc, R, rfl, hM2, -⟩; have HM1 := Lib.hid (hM2.perm List.perm_middle); clear HM hM2; (try clear W1); rename World => W1; have HM := HM1; clear HM1) | ((with_reducible refine iload ?_); first | refine ldbW HM.out 0 rfl rfl rfl ?_ | refine ldbW HM.out 1 rfl rfl rfl ?_ | refine ldbW HM.out 2 rfl rfl rfl ?_ | ((first | refine ldbS HM.out 0 rfl rfl rfl ?_ | refine ldbS HM.out 1 rfl rfl rfl ?_ | refine ldbS HM.out 2 rfl rfl rfl ?_); simp only [List.take, List.drop])) | ((with_reducible refine istore ?_); (first | ((first | refine stbW rfl HM.out 0 rfl rfl rfl rfl rfl rfl ?_ | refine stbW rfl HM.out 1 rfl rfl rfl rfl rfl rfl ?_ | refine stbW rfl HM.out 2 rfl rfl rfl rfl rfl rfl ?_); intro W1 HM1; replace HM := Lib.hid HM1; clear HM1; simp only [List.set] at HM) | ((first | refine stbS rfl HM.out 0 rfl rfl rfl rfl rfl rfl ?_ | refine stbS rfl HM.out 1 rfl rfl rfl rfl rfl rfl ?_ | refine stbS rfl HM.out 2 rfl rfl rfl rfl rfl rfl ?_); intro W1 HM1; replace HM := Lib.hid HM1; clear HM1; simp only [lss, Nat.reduceAdd] at HM))) | ((with_reducible refine ialloc (d := some 4) ?_); refine alb rfl HM.out ?_; intro g4 W1 HM1; replace HM := Lib.hid HM1; clear HM1) | ((with_reducible refine ibox (d := some 28) ?_); refine bxA rfl HM.out rfl ?_; intro g28 W1 HM1; replace HM := Lib.hid HM1; clear HM1) | ((with_reducible refine ialloc (d := some 10) ?_); refine alb rfl HM.out ?_; intro g10 W1 HM1; replace HM := Lib.hid HM1; clear HM1))
        exact bodyPost_ret (res_box_tmp rfl HM.out 1 rfl rfl rfl rfl) rfl ⟨by rw [resV_of HB.out]; rfl, HM.out.below⟩
      · have HB := Lib.hid (show exprF ns l = (⟨0, 0⟩, re) by unfold exprF; rw [if_neg (by rw [hce]; simp), if_neg (by rw [hne]; simp), runT_err (by rw [hre]; exact h3), hre])
        have HRn := Lib.hid (fun W gc gm T (h : Mem w W (.box gc 60 [.map (some gm), .slice none 0 0] :: .map gm (mapEs (symE l)) (symE l).length :: T)) => run_no w W gc gm T l p c ns false h hN hfm hce re (by rw [hre]) h3)
        clear hN hL hT hce hne hre hwf hfm h3
        go_enter Tryd.func12, Tryd.ntmps12
        go_wp2_with (first | (go_at_call 22; (with_reducible refine (HCk.out _ (HM.out.sl HN.out) (U8.below HT.out HM.out.below)).mono ?_); rintro e W1 ⟨rfl, hb⟩; replace HM := Lib.hid (HM.out.next hb); clear hb) | (go_at_call 23; (with_reducible refine (HNm.out _ (HM.out.sl HL.out)).mono ?_); rintro e W2 ⟨gm, rfl, hM2⟩; have HM1 := Lib.hid (HM.out.comp hM2); clear HM hM2; simp only [List.cons_append, List.nil_append] at HM1; (try clear W1); rename World => W1; have HM := HM1; clear HM1) | (go_at_call 24; (with_reducible refine (HRn.out _ _ _ _ HM.out).mono ?_); rintro e W2 ⟨rfl, hM2⟩; have HM1 := Lib.hid hM2; clear HM hM2; (try clear W1); rename World => W1; have HM := HM1; clear HM1) | ((with_reducible refine iload ?_); first | refine ldbW HM.out 0 rfl rfl rfl ?_ | refine ldbW HM.out 1 rfl rfl rfl ?_ | refine ldbW HM.out 2 rfl rfl rfl ?_ | ((first | refine ldbS HM.out 0 rfl rfl rfl ?_ | refine ldbS HM.out 1 rfl rfl rfl ?_ | refine ldbS HM.out 2 rfl rfl rfl ?_); simp only [List.take, List.drop])) | ((with_reducible refine istore ?_); (first | ((first | refine stbW rfl HM.out 0 rfl rfl rfl rfl rfl rfl ?_ | refine stbW rfl HM.out 1 rfl rfl rfl rfl rfl rfl ?_ | refine stbW rfl HM.out 2 rfl rfl rfl rfl rfl rfl ?_); intro W1 HM1; replace HM := Lib.hid HM1; clear HM1; simp only [List.set] at HM) | ((first | refine stbS rfl HM.out 0 rfl rfl rfl rfl rfl rfl ?_ | refine stbS rfl HM.out 1 rfl rfl rfl rfl rfl rfl ?_ | refine stbS rfl HM.out 2 rfl rfl rfl rfl rfl rfl ?_); intro W1 HM1; replace HM := Lib.hid HM1; clear HM1; simp only [lss, Nat.reduceAdd] at HM))) | ((with_reducible refine ialloc (d := some 4) ?_); refine alb rfl HM.out ?_; intro g4 W1 HM1; replace HM := Lib.hid HM1; clear HM1) | ((with_reducible refine ibox (d := some 28) ?_); refine bxA rfl HM.out rfl ?_; intro g28 W1 HM1; replace HM := Lib.hid HM1; clear HM1) | ((with_reducible refine ialloc (d := some 10) ?_); refine alb rfl HM.out ?_; intro g10 W1 HM1; replace HM := Lib.hid HM1; clear HM1))
        exact bodyPost_ret (res_box_tmp rfl HM.out 1 rfl rfl rfl rfl) rfl ⟨by rw [resV_of HB.out]; rfl, HM.out.below⟩
    · have HB := Lib.hid (show exprF ns l = (⟨0, 0⟩, ne) by unfold exprF; rw [if_neg (by rw [hce]; simp), if_pos (by rw [hne]; exact h2), hne])
      have HNm := Lib.hid (fun W (h : Sl W q (l.flatMap SymD.cs)) => hne ▸ named_no q c2 l W h hl2 (by rw [hne]; exact h2))
      have b1 : (ne != 0) = true := by simpa using h2
      clear hN hL hT hce hne hre hwf h2
      go_enter Tryd.func12, Tryd.ntmps12
      go_wp2_with (first | (go_at_call 22; (with_reducible refine (HCk.out _ (HM.out.sl HN.out) (U8.below HT.out HM.out.below)).mono ?_); rintro e W1 ⟨rfl, hb⟩; replace HM := Lib.hid (HM.out.next hb); clear hb) | (go_at_call 23; (with_reducible refine (HNm.out _ (HM.out.sl HL.out)).mono ?_); rintro e W1 ⟨rfl, hb⟩; replace HM := Lib.hid (HM.out.next hb); clear hb) | ((with_reducible refine iload ?_); first | refine ldbW HM.out 0 rfl rfl rfl ?_ | refine ldbW HM.out 1 rfl rfl rfl ?_ | refine ldbW HM.out 2 rfl rfl rfl ?_ | ((first | refine ldbS HM.out 0 rfl rfl rfl ?_ | refine ldbS HM.out 1 rfl rfl rfl ?_ | refine ldbS HM.out 2 rfl rfl rfl ?_); simp only [List.take, List.drop])) | ((with_reducible refine istore ?_); (first | ((first | refine stbW rfl HM.out 0 rfl rfl rfl rfl rfl rfl ?_ | refine stbW rfl HM.out 1 rfl rfl rfl rfl rfl rfl ?_ | refine stbW rfl HM.out 2 rfl rfl rfl rfl rfl rfl ?_); intro W1 HM1; replace HM := Lib.hid HM1; clear HM1; simp only [List.set] at HM) | ((first | refine stbS rfl HM.out 0 rfl rfl rfl rfl rfl rfl ?_ | refine stbS rfl HM.out 1 rfl rfl rfl rfl rfl rfl ?_ | refine stbS rfl HM.out 2 rfl rfl rfl rfl rfl rfl ?_); intro W1 HM1; replace HM := Lib.hid HM1; clear HM1; simp only [lss, Nat.reduceAdd] at HM))) | ((with_reducible refine ialloc (d := some 4) ?_); refine alb rfl HM.out ?_; intro g4 W1 HM1; replace HM := Lib.hid HM1; clear HM1) | ((with_reducible refine ibox (d := some 28) ?_); refine bxA rfl HM.out rfl ?_; intro g28 W1 HM1; replace HM := Lib.hid HM1; clear HM1) | ((with_reducible refine ialloc (d := some 10) ?_); refine alb rfl HM.out ?_; intro g10 W1 HM1; replace HM := Lib.hid HM1; clear HM1))
      exact bodyPost_ret (res_box_tmp rfl HM.out 0 rfl rfl rfl rfl) rfl ⟨by rw [resV_of HB.out]; rfl, HM.out.below⟩
  · have HB := Lib.hid (show exprF ns l = (⟨0, 0⟩, ce) by unfold exprF; rw [if_pos (by rw [hce]; exact h1), hce])
    have b1 : (ce != 0) = true := by simpa using h1
    clear hN hL hT hce hne hre hwf h1
    go_enter Tryd.func12, Tryd.ntmps12
    go_wp2_with (first | (go_at_call 22; (with_reducible refine (HCk.out _ (HM.out.sl HN.out) (U8.below HT.out HM.out.below)).mono ?_); rintro e W1 ⟨rfl, hb⟩; replace HM := Lib.hid (HM.out.next hb); clear hb) | ((with_reducible refine iload ?_); first | refine ldbW HM.out 0 rfl rfl rfl ?_ | refine ldbW HM.out 1 rfl rfl rfl ?_ | refine ldbW HM.out 2 rfl rfl rfl ?_ | ((first | refine ldbS HM.out 0 rfl rfl rfl ?_ | refine ldbS HM.out 1 rfl rfl rfl ?_ | refine ldbS HM.out 2 rfl rfl rfl ?_); simp only [List.take, List.drop])) | ((with_reducible refine istore ?_); (first | ((first | refine stbW rfl HM.out 0 rfl rfl rfl rfl rfl rfl ?_ | refine stbW rfl HM.out 1 rfl rfl rfl rfl rfl rfl ?_ | refine stbW rfl HM.out 2 rfl rfl rfl rfl rfl rfl ?_); intro W1 HM1; replace HM := Lib.hid HM1; clear HM1; simp only [List.set] at HM) | ((first | refine stbS rfl HM.out 0 rfl rfl rfl rfl rfl rfl ?_ | refine stbS rfl HM.out 1 rfl rfl rfl rfl rfl rfl ?_ | refine stbS rfl HM.out 2 rfl rfl rfl rfl rfl rfl ?_); intro W1 HM1; replace HM := Lib.hid HM1; clear HM1; simp only [lss, Nat.reduceAdd] at HM))) | ((with_reducible refine ialloc (d := some 4) ?_); refine alb rfl HM.out ?_; intro g4 W1 HM1; replace HM := Lib.hid HM1; clear HM1) | ((with_reducible refine ibox (d := some 28) ?_); refine bxA rfl HM.out rfl ?_; intro g28 W1 HM1; replace HM := Lib.hid HM1; clear HM1) | ((with_reducible refine ialloc (d := some 10) ?_); refine alb rfl HM.out ?_; intro g10 W1 HM1; replace HM := Lib.hid HM1; clear HM1))
    exact bodyPost_ret (res_box_tmp rfl HM.out 0 rfl rfl rfl rfl) rfl ⟨by rw [resV_of HB.out]; rfl, HM.out.below⟩
end Go.Proofs.YtpjcjgikfplgnaaDoor
