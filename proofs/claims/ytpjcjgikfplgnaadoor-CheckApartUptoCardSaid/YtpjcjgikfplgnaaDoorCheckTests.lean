/- Tests of check. (fast) -/
import Derived.Test.YtpjcjgikfplgnaaDoorCheckExpr
namespace Go.Proofs.YtpjcjgikfplgnaaDoor
open Go.RowKit
set_option linter.unusedVariables false
set_option linter.unusedSimpArgs false
set_option maxRecDepth 100000

set_option maxHeartbeats 4000000 in
theorem cTests_any (p : Option Addr) (c : Nat) (ns : List NodeD) (fk fo : Int) (q : Option Addr) (c2 : Nat) (l : List SymD) (w : World) (hN : Sl w p (ns.flatMap NodeD.cs)) (hwf : ∀ (i : Nat) (n : NodeD), ns[i]? = some n → n.wf) (hl : ns.length ≤ 4611686018427387904) (hL : Sl w q (l.flatMap SymD.cs)) (hl2 : l.length ≤ 4611686018427387904) (hT : U8 w) :
    Calls Tryd.prog 13 #[.slice p ns.length c, .agg #[.int .i64 fk, .int .i64 fo], .slice q l.length c2] w fun e w' => e = .returned (.int .i64 (testsF ns ⟨fk, fo⟩ l)) ∧ Below w.heap.size w w' := by
  have HM := Lib.hid (Mem.start w)
  obtain ⟨ce, hce⟩ : ∃ ce, checkC ns true = ce := ⟨_, rfl⟩
  obtain ⟨ne, hne⟩ : ∃ ne, namesF l = ne := ⟨_, rfl⟩
  obtain ⟨fb, hfb⟩ : ∃ fb, formB fk fo = fb := ⟨_, rfl⟩
  obtain ⟨⟨⟨⟨tk, tz⟩, qs⟩, re⟩, hre⟩ : ∃ r, runT l ns [] = r := ⟨_, rfl⟩
  have HN := Lib.hid hN
  have HL := Lib.hid hL
  have HT := Lib.hid hT
  have HCk := Lib.hid (fun W (h : Sl W p (ns.flatMap NodeD.cs)) (h2 : U8 W) => hce ▸ eCheck_any p c ns true W h hwf hl h2)
  have HFm := Lib.hid (fun W => hfb ▸ kForm_any fk fo W)
  by_cases h1 : ce = 0
  · subst h1
    by_cases h2 : ne = 0
    · subst h2
      have HNm := Lib.hid (fun W (h : Sl W q (l.flatMap SymD.cs)) => named_ok q c2 l W h hl2 hne)
      have hfm := namesF_form hne
      cases fb with
      | false =>
        have HB := Lib.hid (show testsF ns ⟨fk, fo⟩ l = 2 by unfold testsF; rw [if_neg (by rw [hce]; simp), if_neg (by rw [hne]; simp), if_pos hfb])
        clear hN hL hT hce hne hre hwf hfm hfb
        go_enter Tryd.func13, Tryd.ntmps13
        go_wp2_with (first | (go_at_call 22; (with_reducible refine (HCk.out _ (HM.out.sl HN.out) (U8.below HT.out HM.out.below)).mono ?_); rintro e W1 ⟨rfl, hb⟩; replace HM := Lib.hid (HM.out.next hb); clear hb) | (go_at_call 25; (with_reducible refine (HFm.out _).mono ?_); rintro e W1 ⟨rfl, hb⟩; replace HM := Lib.hid (HM.out.next hb); clear hb) | (go_at_call 23; (with_reducible refine (HNm.out _ (HM.out.sl HL.out)).mono ?_); rintro e W2 ⟨gm, rfl, hM2⟩; have HM1 := Lib.hid (HM.out.comp hM2); clear HM hM2; simp only [List.cons_append, List.nil_append] at HM1; (try clear W1); rename World => W1; have HM := HM1; clear HM1) | ((with_reducible refine iload ?_); first | refine ldbW HM.out 0 rfl rfl rfl ?_ | refine ldbW HM.out 1 rfl rfl rfl ?_ | refine ldbW HM.out 2 rfl rfl rfl ?_ | ((first | refine ldbS HM.out 0 rfl rfl rfl ?_ | refine ldbS HM.out 1 rfl rfl rfl ?_ | refine ldbS HM.out 2 rfl rfl rfl ?_); simp only [List.take, List.drop])) | ((with_reducible refine istore ?_); (first | ((first | refine stbW rfl HM.out 0 rfl rfl rfl rfl rfl rfl ?_ | refine stbW rfl HM.out 1 rfl rfl rfl rfl rfl rfl ?_ | refine stbW rfl HM.out 2 rfl rfl rfl rfl rfl rfl ?_); intro W1 HM1; replace HM := Lib.hid HM1; clear HM1; simp only [List.set] at HM) | ((first | refine stbS rfl HM.out 0 rfl rfl rfl rfl rfl rfl ?_ | refine stbS rfl HM.out 1 rfl rfl rfl rfl rfl rfl ?_ | refine stbS rfl HM.out 2 rfl rfl rfl rfl rfl rfl ?_); intro W1 HM1; replace HM := Lib.hid HM1; clear HM1; simp only [lss, Nat.reduceAdd] at HM))) | ((with_reducible refine ibox (d := some 4) ?_); refine bxA rfl HM.out rfl ?_; intro g4 W1 HM1; replace HM := Lib.hid HM1; clear HM1) | ((with_reducible refine ibox (d := some 32) ?_); refine bxA rfl HM.out rfl ?_; intro g32 W1 HM1; replace HM := Lib.hid HM1; clear HM1) | ((with_reducible refine ialloc (d := some 11) ?_); refine alb rfl HM.out ?_; intro g11 W1 HM1; replace HM := Lib.hid HM1; clear HM1))
        go_ret
        exact ⟨by rw [HB.out]; rfl, HM.out.below⟩
      | true =>
        by_cases h3 : re = 0
        · subst h3
          obtain ⟨m, hm⟩ : ∃ m, asksB ⟨fk, fo⟩ qs = m := ⟨_, rfl⟩
          have HB := Lib.hid (show testsF ns ⟨fk, fo⟩ l = if m then 0 else 9 by unfold testsF; rw [if_neg (by rw [hce]; simp), if_neg (by rw [hne]; simp), if_neg (by rw [hfb]; simp), hre]; show (if asksB ⟨fk, fo⟩ qs = true then (0 : Int) else 9) = _; rw [hm])
          have HRn := Lib.hid (fun W gc gm T (h : Mem w W (.box gc 60 [.map (some gm), .slice none 0 0] :: .map gm (mapEs (symE l)) (symE l).length :: T)) => run_ok w W gc gm T l p c ns true h hN hfm hce tk tz qs hre)
          obtain ⟨hqf, hql⟩ : (∀ a, a ∈ qs → a.t.form) ∧ qs.length ≤ 301 := by
            have h4 := runT_good hfm (checkC_ok hce).1 (checkC_ok hce).2
            rw [hre] at h4
            exact h4
          have HFt := Lib.hid (fun W (xq : Option Addr) (xc : Nat) (h : Sl W xq (qs.flatMap AskD.cs)) => hm ▸ fits_any tk tz xq xc qs ⟨fk, fo⟩ W h hqf hfb (by omega))
          clear hN hL hT hce hne hre hwf hfm hfb hm hqf hql
          cases m
          all_goals
            go_enter Tryd.func13, Tryd.ntmps13
            go_wp2_with (first | (go_at_call 22; (with_reducible refine (HCk.out _ (HM.out.sl HN.out) (U8.below HT.out HM.out.below)).mono ?_); rintro e W1 ⟨rfl, hb⟩; replace HM := Lib.hid (HM.out.next hb); clear hb) | (go_at_call 25; (with_reducible refine (HFm.out _).mono ?_); rintro e W1 ⟨rfl, hb⟩; replace HM := Lib.hid (HM.out.next hb); clear hb) | (go_at_call 23; (with_reducible refine (HNm.out _ (HM.out.sl HL.out)).mono ?_); rintro e W2 ⟨gm, rfl, hM2⟩; have HM1 := Lib.hid (HM.out.comp hM2); clear HM hM2; simp only [List.cons_append, List.nil_append] at HM1; (try clear W1); rename World => W1; have HM := HM1; clear HM1) | (go_at_call 24; (with_reducible refine (HRn.out _ _ _ _ HM.out).mono ?_); rintro e W2 ⟨xq, xc, R, rfl, hM2, hin⟩; have HIn := Lib.hid hin; clear hin; have HM1 := Lib.hid (hM2.perm List.perm_middle); clear HM hM2; (try clear W1); rename World => W1; have HM := HM1; clear HM1) | (go_at_call 26; (with_reducible refine (HFt.out _ _ _ (HIn.out.sl (fun r hr => HM.out.holds r (List.mem_cons_of_mem _ (mem_front hr))))).mono ?_); rintro e W1 ⟨rfl, hb⟩; replace HM := Lib.hid (HM.out.next hb); clear hb) | ((with_reducible refine iload ?_); first | refine ldbW HM.out 0 rfl rfl rfl ?_ | refine ldbW HM.out 1 rfl rfl rfl ?_ | refine ldbW HM.out 2 rfl rfl rfl ?_ | ((first | refine ldbS HM.out 0 rfl rfl rfl ?_ | refine ldbS HM.out 1 rfl rfl rfl ?_ | refine ldbS HM.out 2 rfl rfl rfl ?_); simp only [List.take, List.drop])) | ((with_reducible refine istore ?_); (first | ((first | refine stbW rfl HM.out 0 rfl rfl rfl rfl rfl rfl ?_ | refine stbW rfl HM.out 1 rfl rfl rfl rfl rfl rfl ?_ | refine stbW rfl HM.out 2 rfl rfl rfl rfl rfl rfl ?_); intro W1 HM1; replace HM := Lib.hid HM1; clear HM1; simp only [List.set] at HM) | ((first | refine stbS rfl HM.out 0 rfl rfl rfl rfl rfl rfl ?_ | refine stbS rfl HM.out 1 rfl rfl rfl rfl rfl rfl ?_ | refine stbS rfl HM.out 2 rfl rfl rfl rfl rfl rfl ?_); intro W1 HM1; replace HM := Lib.hid HM1; clear HM1; simp only [lss, Nat.reduceAdd] at HM))) | ((with_reducible refine ibox (d := some 4) ?_); refine bxA rfl HM.out rfl ?_; intro g4 W1 HM1; replace HM := Lib.hid HM1; clear HM1) | ((with_reducible refine ibox (d := some 32) ?_); refine bxA rfl HM.out rfl ?_; intro g32 W1 HM1; replace HM := Lib.hid HM1; clear HM1) | ((with_reducible refine ialloc (d := some 11) ?_); refine alb rfl HM.out ?_; intro g11 W1 HM1; replace HM := Lib.hid HM1; clear HM1))
            go_ret
            exact ⟨by rw [HB.out]; rfl, HM.out.below⟩
        · have HB := Lib.hid (show testsF ns ⟨fk, fo⟩ l = re by unfold testsF; rw [if_neg (by rw [hce]; simp), if_neg (by rw [hne]; simp), if_neg (by rw [hfb]; simp), hre]; exact if_pos h3)
          have HRn := Lib.hid (fun W gc gm T (h : Mem w W (.box gc 60 [.map (some gm), .slice none 0 0] :: .map gm (mapEs (symE l)) (symE l).length :: T)) => run_no w W gc gm T l p c ns true h hN hfm hce re (by rw [hre]) h3)
          have b1 : (re != 0) = true := by simpa using h3
          clear hN hL hT hce hne hre hwf hfm hfb h3
          go_enter Tryd.func13, Tryd.ntmps13
          go_wp2_with (first | (go_at_call 22; (with_reducible refine (HCk.out _ (HM.out.sl HN.out) (U8.below HT.out HM.out.below)).mono ?_); rintro e W1 ⟨rfl, hb⟩; replace HM := Lib.hid (HM.out.next hb); clear hb) | (go_at_call 25; (with_reducible refine (HFm.out _).mono ?_); rintro e W1 ⟨rfl, hb⟩; replace HM := Lib.hid (HM.out.next hb); clear hb) | (go_at_call 23; (with_reducible refine (HNm.out _ (HM.out.sl HL.out)).mono ?_); rintro e W2 ⟨gm, rfl, hM2⟩; have HM1 := Lib.hid (HM.out.comp hM2); clear HM hM2; simp only [List.cons_append, List.nil_append] at HM1; (try clear W1); rename World => W1; have HM := HM1; clear HM1) | (go_at_call 24; (with_reducible refine (HRn.out _ _ _ _ HM.out).mono ?_); rintro e W2 ⟨rfl, hM2⟩; have HM1 := Lib.hid hM2; clear HM hM2; (try clear W1); rename World => W1; have HM := HM1; clear HM1) | ((with_reducible refine iload ?_); first | refine ldbW HM.out 0 rfl rfl rfl ?_ | refine ldbW HM.out 1 rfl rfl rfl ?_ | refine ldbW HM.out 2 rfl rfl rfl ?_ | ((first | refine ldbS HM.out 0 rfl rfl rfl ?_ | refine ldbS HM.out 1 rfl rfl rfl ?_ | refine ldbS HM.out 2 rfl rfl rfl ?_); simp only [List.take, List.drop])) | ((with_reducible refine istore ?_); (first | ((first | refine stbW rfl HM.out 0 rfl rfl rfl rfl rfl rfl ?_ | refine stbW rfl HM.out 1 rfl rfl rfl rfl rfl rfl ?_ | refine stbW rfl HM.out 2 rfl rfl rfl rfl rfl rfl ?_); intro W1 HM1; replace HM := Lib.hid HM1; clear HM1; simp only [List.set] at HM) | ((first | refine stbS rfl HM.out 0 rfl rfl rfl rfl rfl rfl ?_ | refine stbS rfl HM.out 1 rfl rfl rfl rfl rfl rfl ?_ | refine stbS rfl HM.out 2 rfl rfl rfl rfl rfl rfl ?_); intro W1 HM1; replace HM := Lib.hid HM1; clear HM1; simp only [lss, Nat.reduceAdd] at HM))) | ((with_reducible refine ibox (d := some 4) ?_); refine bxA rfl HM.out rfl ?_; intro g4 W1 HM1; replace HM := Lib.hid HM1; clear HM1) | ((with_reducible refine ibox (d := some 32) ?_); refine bxA rfl HM.out rfl ?_; intro g32 W1 HM1; replace HM := Lib.hid HM1; clear HM1) | ((with_reducible refine ialloc (d := some 11) ?_); refine alb rfl HM.out ?_; intro g11 W1 HM1; replace HM := Lib.hid HM1; clear HM1))
          go_ret
          exact ⟨by rw [HB.out]; rfl, HM.out.below⟩
    · have HB := Lib.hid (show testsF ns ⟨fk, fo⟩ l = ne by unfold testsF; rw [if_neg (by rw [hce]; simp), if_pos (by rw [hne]; exact h2), hne])
      have HNm := Lib.hid (fun W (h : Sl W q (l.flatMap SymD.cs)) => hne ▸ named_no q c2 l W h hl2 (by rw [hne]; exact h2))
      have b1 : (ne != 0) = true := by simpa using h2
      clear hN hL hT hce hne hre hwf h2 hfb
      go_enter Tryd.func13, Tryd.ntmps13
      go_wp2_with (first | (go_at_call 22; (with_reducible refine (HCk.out _ (HM.out.sl HN.out) (U8.below HT.out HM.out.below)).mono ?_); rintro e W1 ⟨rfl, hb⟩; replace HM := Lib.hid (HM.out.next hb); clear hb) | (go_at_call 23; (with_reducible refine (HNm.out _ (HM.out.sl HL.out)).mono ?_); rintro e W1 ⟨rfl, hb⟩; replace HM := Lib.hid (HM.out.next hb); clear hb) | ((with_reducible refine iload ?_); first | refine ldbW HM.out 0 rfl rfl rfl ?_ | refine ldbW HM.out 1 rfl rfl rfl ?_ | refine ldbW HM.out 2 rfl rfl rfl ?_ | ((first | refine ldbS HM.out 0 rfl rfl rfl ?_ | refine ldbS HM.out 1 rfl rfl rfl ?_ | refine ldbS HM.out 2 rfl rfl rfl ?_); simp only [List.take, List.drop])) | ((with_reducible refine istore ?_); (first | ((first | refine stbW rfl HM.out 0 rfl rfl rfl rfl rfl rfl ?_ | refine stbW rfl HM.out 1 rfl rfl rfl rfl rfl rfl ?_ | refine stbW rfl HM.out 2 rfl rfl rfl rfl rfl rfl ?_); intro W1 HM1; replace HM := Lib.hid HM1; clear HM1; simp only [List.set] at HM) | ((first | refine stbS rfl HM.out 0 rfl rfl rfl rfl rfl rfl ?_ | refine stbS rfl HM.out 1 rfl rfl rfl rfl rfl rfl ?_ | refine stbS rfl HM.out 2 rfl rfl rfl rfl rfl rfl ?_); intro W1 HM1; replace HM := Lib.hid HM1; clear HM1; simp only [lss, Nat.reduceAdd] at HM))) | ((with_reducible refine ibox (d := some 4) ?_); refine bxA rfl HM.out rfl ?_; intro g4 W1 HM1; replace HM := Lib.hid HM1; clear HM1) | ((with_reducible refine ibox (d := some 32) ?_); refine bxA rfl HM.out rfl ?_; intro g32 W1 HM1; replace HM := Lib.hid HM1; clear HM1) | ((with_reducible refine ialloc (d := some 11) ?_); refine alb rfl HM.out ?_; intro g11 W1 HM1; replace HM := Lib.hid HM1; clear HM1))
      go_ret
      exact ⟨by rw [HB.out]; rfl, HM.out.below⟩
  · have HB := Lib.hid (show testsF ns ⟨fk, fo⟩ l = ce by unfold testsF; rw [if_pos (by rw [hce]; exact h1), hce])
    have b1 : (ce != 0) = true := by simpa using h1
    clear hN hL hT hce hne hre hwf h1 hfb
    go_enter Tryd.func13, Tryd.ntmps13
    go_wp2_with (first | (go_at_call 22; (with_reducible refine (HCk.out _ (HM.out.sl HN.out) (U8.below HT.out HM.out.below)).mono ?_); rintro e W1 ⟨rfl, hb⟩; replace HM := Lib.hid (HM.out.next hb); clear hb) | ((with_reducible refine iload ?_); first | refine ldbW HM.out 0 rfl rfl rfl ?_ | refine ldbW HM.out 1 rfl rfl rfl ?_ | refine ldbW HM.out 2 rfl rfl rfl ?_ | ((first | refine ldbS HM.out 0 rfl rfl rfl ?_ | refine ldbS HM.out 1 rfl rfl rfl ?_ | refine ldbS HM.out 2 rfl rfl rfl ?_); simp only [List.take, List.drop])) | ((with_reducible refine istore ?_); (first | ((first | refine stbW rfl HM.out 0 rfl rfl rfl rfl rfl rfl ?_ | refine stbW rfl HM.out 1 rfl rfl rfl rfl rfl rfl ?_ | refine stbW rfl HM.out 2 rfl rfl rfl rfl rfl rfl ?_); intro W1 HM1; replace HM := Lib.hid HM1; clear HM1; simp only [List.set] at HM) | ((first | refine stbS rfl HM.out 0 rfl rfl rfl rfl rfl rfl ?_ | refine stbS rfl HM.out 1 rfl rfl rfl rfl rfl rfl ?_ | refine stbS rfl HM.out 2 rfl rfl rfl rfl rfl rfl ?_); intro W1 HM1; replace HM := Lib.hid HM1; clear HM1; simp only [lss, Nat.reduceAdd] at HM))) | ((with_reducible refine ibox (d := some 4) ?_); refine bxA rfl HM.out rfl ?_; intro g4 W1 HM1; replace HM := Lib.hid HM1; clear HM1) | ((with_reducible refine ibox (d := some 32) ?_); refine bxA rfl HM.out rfl ?_; intro g32 W1 HM1; replace HM := Lib.hid HM1; clear HM1) | ((with_reducible refine ialloc (d := some 11) ?_); refine alb rfl HM.out ?_; intro g11 W1 HM1; replace HM := Lib.hid HM1; clear HM1))
    go_ret
    exact ⟨by rw [HB.out]; rfl, HM.out.below⟩
end Go.Proofs.YtpjcjgikfplgnaaDoor
