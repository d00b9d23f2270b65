/- The reference's Tests, DocTests: what check's answer. (fast) -/
import Derived.Test.YtpjcjgikfplgnaaDoorRefTopE
import Derived.Test.YtpjcjgikfplgnaaDoorCheckTests
namespace Go.Proofs.YtpjcjgikfplgnaaDoor
open Go.RowKit
set_option linter.unusedVariables false
set_option linter.unusedSimpArgs false
set_option maxRecDepth 100000

theorem typesR_form {l : List SymD} (h : ∀ s, s ∈ l → s.t.form) (ns : List NodeD) (parts : List (List Nat)) : ∀ (rest : List NodeD) (i : Nat) (tys : List TyD), (∀ t, t ∈ tys → t.form) → ∀ t, t ∈ (typesR l ns parts rest i tys).1 → t.form
  | [], i, tys, hf, t, ht => hf t ht
  | n :: rest, i, tys, hf, t, ht => by
    have e1 : typesR l ns parts (n :: rest) i tys = if (stepR l ns parts i n tys).2 = 0 then typesR l ns parts rest (i + 1) (tys.set i (stepR l ns parts i n tys).1) else ([], (stepR l ns parts i n tys).2) := rfl
    rw [e1] at ht
    split at ht
    · refine typesR_form h ns parts rest _ _ (fun u hu => ?_) t ht
      rcases List.mem_or_eq_of_mem_set hu with hu | rfl
      · exact hf u hu
      · exact stepR_form h ns parts i n tys hf
    · cases ht
theorem placeF_counts {ns : List NodeD} {parts : List (List Nat)} {hv : List Nat} (hl : ns.length ≤ 300) (hp : placeF ns ns.length 0 [] [] = some (parts, hv)) : parts.length = ns.length ∧ PartsLt parts ∧ (∀ (j : Nat) (l : List Nat), parts[j]? = some l → l.length ≤ 300) := by
  obtain ⟨hpn, hpx⟩ := placeF_ok ns ns.length 0 [] [] parts hv (fun x hx => by cases hx) (fun j l hj => by simp at hj) rfl hp
  rw [Nat.zero_add] at hpn
  have hpc := placeF_len ns ns.length 0 [] [] parts hv (Nat.le_refl _) (fun j l hj => by simp at hj) rfl hp
  refine ⟨hpn, hpx, fun j l hj => ?_⟩
  have h1 := hpc j l hj
  have h2 : j < parts.length := (List.getElem?_eq_some_iff.1 hj).1
  omega

set_option maxHeartbeats 4000000 in
theorem rTests_any (p : Option Addr) (c : Nat) (ns : List NodeD) (fk fo : Int) (q : Option Addr) (c2 : Nat) (l : List SymD) (w : World) (hN : Sl w p (ns.flatMap NodeD.cs)) (hL : Sl w q (l.flatMap SymD.cs)) (hl2 : l.length ≤ 4611686018427387904) (hc : checkC ns true = 0) (hn : namesF l = 0) (hfm : formB fk fo = true) :
    Calls Tryd.prog 28 #[.slice p ns.length c, .agg #[.int .i64 fk, .int .i64 fo], .slice q l.length c2] w fun e w' => e = .returned (.int .i64 (testsF ns ⟨fk, fo⟩ l)) ∧ Below w.heap.size w w' := by
  have HM := Lib.hid (Mem.start w)
  have HN := Lib.hid hN
  have HL := Lib.hid hL
  have hsym := namesF_form hn
  obtain ⟨⟨⟨⟨tk, tz⟩, qs⟩, re⟩, hre⟩ : ∃ r, runT l ns [] = r := ⟨_, rfl⟩
  by_cases h0 : re = 0
  · subst h0
    obtain ⟨m, hm⟩ : ∃ m, asksB ⟨fk, fo⟩ qs = m := ⟨_, rfl⟩
    have HB := Lib.hid (show testsF ns ⟨fk, fo⟩ l = if m then 0 else 9 by unfold testsF; rw [if_neg (by rw [hc]; simp), if_neg (by rw [hn]; simp), if_neg (by rw [hfm]; simp), hre]; show (if asksB ⟨fk, fo⟩ qs = true then (0 : Int) else 9) = _; rw [hm])
    obtain ⟨parts, hv, hp, hpos, hl, hk, he, hy⟩ := types_plain (l := l) hc
    obtain ⟨hyl, -, hyf⟩ := hy (by rw [hre])
    have hyf := hyf rfl ⟨fk, fo⟩
    have htf := typesR_form hsym ns parts ns 0 (List.replicate ns.length ⟨0, 0⟩) (fun t ht => by rw [(List.mem_replicate.1 ht).2]; exact form_zero)
    obtain ⟨⟨tys, e0⟩, ht⟩ : ∃ r, typesR l ns parts ns 0 (List.replicate ns.length ⟨0, 0⟩) = r := ⟨_, rfl⟩
    rw [ht, hre] at he
    rw [ht] at hyl htf
    rw [ht, hre, hm] at hyf
    obtain rfl : e0 = 0 := he
    obtain ⟨hpn, hpx, hpc⟩ := placeF_counts hl hp
    obtain ⟨k, hkn⟩ : ∃ k, ns.length - 1 = k := ⟨_, rfl⟩
    rw [hkn] at hyf
    have hNlt : k < ns.length := by omega
    obtain ⟨N, hNl⟩ : ∃ N, ns.length = N := ⟨_, rfl⟩
    have HTs := Lib.hid (fun W (h1 : Sl W p (ns.flatMap NodeD.cs)) (h2 : Sl W q (l.flatMap SymD.cs)) => (show Calls Tryd.prog 37 #[.slice p N c, .slice q l.length c2] W fun e w' => ∃ g T, e = .returned (.tuple #[.slice (some ⟨g, 0, none⟩) N N, .int .i64 0]) ∧ Mem W w' (.row (some ⟨g, 0, none⟩) N 25 2 N (tys.flatMap TyD.cs) :: T) from hNl ▸ types_yes (c := c) (c2 := c2) h1 h2 hl2 hl hp hpos hsym hk ht))
    have HPl := Lib.hid (fun W (h : Sl W p (ns.flatMap NodeD.cs)) => (show Calls Tryd.prog 49 #[.slice p N c] W fun e w' => ∃ pp cp vs T, e = .returned (.slice pp N cp) ∧ PIn T pp cp N vs parts ∧ Mem W w' T from by
      have h1 := places_any p c ns parts hv W h hl hp
      rw [hpn, hNl] at h1
      exact h1))
    have HFt := Lib.hid (fun (pp : Option Addr) (pc : Nat) (g : Nat) (W : World) (hA : FitAt2 W p ns pp parts (some ⟨g, 0, none⟩) tys) => (show Calls Tryd.prog 48 #[.slice p N c, .slice pp N pc, .slice (some ⟨g, 0, none⟩) N N, .int .i64 ((N : Int) - 1), .agg #[.int .i64 fk, .int .i64 fo]] W fun e w' => e = .returned (.bool m) ∧ Below W.heap.size W w' from by
      have h1 := fit_any p pp (some ⟨g, 0, none⟩) c pc N ns parts tys hpn hyl hpx htf hl hpc k ⟨fk, fo⟩ W hNlt hfm hA
      rw [hyf, hNl] at h1
      rw [show ((N : Int) - 1) = (k : Int) by omega]
      exact h1))
    have HYl := Lib.hid (show tys.length = N from hyl.trans hNl)
    rw [hNl]
    have hNb : N ≤ 300 := by omega
    clear hN hL hc hn hsym hre hp hk hyl hyf htf ht hy hkn hpos hl hNlt hNl hpn hpx hpc hm hfm
    go_enter Tryd.func28, Tryd.ntmps28
    go_wp2_with (first | (go_at_call 37; (with_reducible refine (HTs.out _ (HM.out.sl HN.out) (HM.out.sl HL.out)).mono ?_); rintro e W2 ⟨gt, T, rfl, hM2⟩; have HM1 := Lib.hid ((HM.out.comp hM2).perm List.perm_append_comm); clear HM hM2; simp only [List.cons_append, List.nil_append] at HM1; (try clear W1); rename World => W1; have HM := HM1; clear HM1) | ((with_reducible refine iload ?_); first | refine ldbW HM.out 0 rfl rfl rfl ?_ | (refine ldbS HM.out 0 rfl rfl rfl ?_; simp only [List.take, List.drop])) | ((with_reducible refine ibox (d := some 4) ?_); refine bxA rfl HM.out rfl ?_; intro g4 W1 HM1; replace HM := Lib.hid HM1; clear HM1))
    refine wp_region_steps2 [(true, 0), (true, 1), (true, 3), (true, 4), (true, 5), (true, 6), (true, 7), (false, 2), (false, 8), (true, 9)] (by kernel_rfl) (by kernel_rfl) rfl (by kernel_rfl) (fun _ _ _ _ _ h => h) HM.out _ (.cons_cons _ (List.nil_sublist _)) ?_
    intro hNE W1 HM1; replace HM := Lib.hid HM1; clear HM1
    have HS0 := Lib.hid (HM.out.sub (.cons_cons _ (List.nil_sublist _)))
    simp only [wpSteps, List.getElem?_cons_succ, List.getElem?_cons_zero]
    (repeat (first | ((with_reducible refine wpQuiet_nil ?_); (try dsimp only)) | ((with_reducible refine qload ?_); first | (refine qdbW HS0.out 0 rfl rfl rfl ?_) | (refine qdbS HS0.out 0 rfl rfl rfl ?_; simp only [List.take, List.drop])) | go_big_quiet_step (fail) | quiet_step (fail)))
    go_wp2_with (first | (go_at_call 49; (with_reducible refine (HPl.out _ (HM.out.sl HN.out)).mono ?_); rintro e W2 ⟨pp, cp, vs, T0, rfl, hPI, hM2⟩; have HPI := Lib.hid hPI; clear hPI; have HM1 := Lib.hid ((HM.out.comp hM2).perm List.perm_append_comm); clear HM hM2; simp only [List.cons_append, List.nil_append] at HM1; (try clear W1); rename World => W1; have HM := HM1; clear HM1))
    refine ⟨⟨⟨_, HM.out.sub (by repeat (first | exact List.nil_sublist _ | with_reducible refine List.Sublist.cons_cons _ ?_ | refine List.Sublist.cons _ ?_))⟩, rfl⟩, ?_⟩
    (try dsimp only)
    go_wp2_with (first | (go_at_call 48; (with_reducible refine (HFt.out _ _ _ _ ⟨HM.out.sl HN.out, HPI.out.at_ (fun r hr => HM.out.holds r (List.mem_cons_of_mem _ (List.mem_cons_of_mem _ (List.mem_append_right _ hr)))), sl_types HYl.out (HM.out.holds _ (List.mem_cons_of_mem _ (List.mem_cons_self ..)))⟩).mono ?_); rintro e W1 ⟨rfl, hb⟩; replace HM := Lib.hid (HM.out.next hb); clear hb))
    refine ⟨⟨⟨_, HM.out.sub (by repeat (first | exact List.nil_sublist _ | with_reducible refine List.Sublist.cons_cons _ ?_ | refine List.Sublist.cons _ ?_))⟩, rfl⟩, ?_⟩
    (try dsimp only)
    (repeat (first | ((with_reducible refine wpQuiet_nil ?_); (try dsimp only)) | go_big_quiet_step (fail) | quiet_step (fail)))
    clear HS0 hNE
    cases m
    all_goals
      go_wp2_with fail
      go_ret
      exact ⟨by rw [HB.out]; rfl, HM.out.below⟩
  · have HB := Lib.hid (show testsF ns ⟨fk, fo⟩ l = re by unfold testsF; rw [if_neg (by rw [hc]; simp), if_neg (by rw [hn]; simp), if_neg (by rw [hfm]; simp), hre]; exact if_pos h0)
    have HTs := Lib.hid (fun W (h1 : Sl W p (ns.flatMap NodeD.cs)) (h2 : Sl W q (l.flatMap SymD.cs)) => types_no (c := c) (c2 := c2) h1 h2 hl2 hsym hc (by rw [hre]) h0)
    have b0 : (re != 0) = true := by simpa using h0
    clear hN hL hc hn hsym hre h0 hfm
    go_enter Tryd.func28, Tryd.ntmps28
    go_wp2_with (first | (go_at_call 37; (with_reducible refine (HTs.out _ (HM.out.sl HN.out) (HM.out.sl HL.out)).mono ?_); rintro e W1 ⟨rfl, hb⟩; replace HM := Lib.hid (HM.out.next hb); clear hb) | ((with_reducible refine iload ?_); first | refine ldbW HM.out 0 rfl rfl rfl ?_ | (refine ldbS HM.out 0 rfl rfl rfl ?_; simp only [List.take, List.drop])) | ((with_reducible refine ibox (d := some 4) ?_); refine bxA rfl HM.out rfl ?_; intro g4 W1 HM1; replace HM := Lib.hid HM1; clear HM1))
    go_ret
    exact ⟨by rw [HB.out]; rfl, HM.out.below⟩

set_option maxHeartbeats 4000000 in
theorem rDocTests_any (p : Option Addr) (c : Nat) (ns : List NodeD) (fk fo : Int) (q : Option Addr) (c2 : Nat) (l : List SymD) (w : World) (hN : Sl w p (ns.flatMap NodeD.cs)) (hwf : ∀ (i : Nat) (n : NodeD), ns[i]? = some n → n.wf) (hl : ns.length ≤ 4611686018427387904) (hL : Sl w q (l.flatMap SymD.cs)) (hl2 : l.length ≤ 4611686018427387904) :
    Calls Tryd.prog 14 #[.slice p ns.length c, .agg #[.int .i64 fk, .int .i64 fo], .slice q l.length c2] w fun e w' => e = .returned (.int .i64 (testsF ns ⟨fk, fo⟩ l)) ∧ Below w.heap.size w w' := by
  have HM := Lib.hid (Mem.start w)
  obtain ⟨ce, hce⟩ : ∃ ce, checkC ns true = ce := ⟨_, rfl⟩
  obtain ⟨ne, hne⟩ : ∃ ne, namesF l = ne := ⟨_, rfl⟩
  obtain ⟨fb, hfb⟩ : ∃ fb, formB fk fo = fb := ⟨_, rfl⟩
  have HN := Lib.hid hN
  have HL := Lib.hid hL
  have HCk := Lib.hid (fun W (h : Sl W p (ns.flatMap NodeD.cs)) => hce ▸ rCheck_any p c ns true W h hwf hl)
  have HNm := Lib.hid (fun W (h : Sl W q (l.flatMap SymD.cs)) => hne ▸ rNames_any q c2 l W h hl2)
  have HFm := Lib.hid (fun W => hfb ▸ rTForm_any fk fo W)
  by_cases h1 : ce = 0
  · subst h1
    by_cases h2 : ne = 0
    · subst h2
      cases fb with
      | false =>
        have HB := Lib.hid (show testsF ns ⟨fk, fo⟩ l = 2 by unfold testsF; rw [if_neg (by rw [hce]; simp), if_neg (by rw [hne]; simp), if_pos hfb])
        clear hN hL hwf hce hne hfb
        go_enter Tryd.func14, Tryd.ntmps14
        go_wp2_with (first | (go_at_call 19; (with_reducible refine (HCk.out _ (HM.out.sl HN.out)).mono ?_); rintro e W1 ⟨rfl, hb⟩; replace HM := Lib.hid (HM.out.next hb); clear hb) | (go_at_call 20; (with_reducible refine (HNm.out _ (HM.out.sl HL.out)).mono ?_); rintro e W1 ⟨rfl, hb⟩; replace HM := Lib.hid (HM.out.next hb); clear hb) | (go_at_call 27; (with_reducible refine (HFm.out _).mono ?_); rintro e W1 ⟨rfl, hb⟩; replace HM := Lib.hid (HM.out.next hb); clear hb) | ((with_reducible refine igd ?_); (with_reducible refine skip_op ?_ ?_); (exact rfl)) | ((with_reducible refine iload ?_); first | refine ldbW HM.out 0 rfl rfl rfl ?_ | (refine ldbS HM.out 0 rfl rfl rfl ?_; simp only [List.take, List.drop])) | ((with_reducible refine ibox (d := some 4) ?_); refine bxA rfl HM.out rfl ?_; intro g4 W1 HM1; replace HM := Lib.hid HM1; clear HM1))
        go_ret
        exact ⟨by rw [HB.out]; rfl, HM.out.below⟩
      | true =>
        obtain ⟨r, hr⟩ : ∃ r, testsF ns ⟨fk, fo⟩ l = r := ⟨_, rfl⟩
        have HEx := Lib.hid (fun W (h1 : Sl W p (ns.flatMap NodeD.cs)) (h2 : Sl W q (l.flatMap SymD.cs)) => hr ▸ rTests_any p c ns fk fo q c2 l W h1 h2 hl2 hce hne hfb)
        rw [hr]
        clear hN hL hwf hce hne hfb hr
        go_enter Tryd.func14, Tryd.ntmps14
        go_wp2_with (first | (go_at_call 19; (with_reducible refine (HCk.out _ (HM.out.sl HN.out)).mono ?_); rintro e W1 ⟨rfl, hb⟩; replace HM := Lib.hid (HM.out.next hb); clear hb) | (go_at_call 20; (with_reducible refine (HNm.out _ (HM.out.sl HL.out)).mono ?_); rintro e W1 ⟨rfl, hb⟩; replace HM := Lib.hid (HM.out.next hb); clear hb) | (go_at_call 27; (with_reducible refine (HFm.out _).mono ?_); rintro e W1 ⟨rfl, hb⟩; replace HM := Lib.hid (HM.out.next hb); clear hb) | (go_at_call 28; (with_reducible refine (HEx.out _ (HM.out.sl HN.out) (HM.out.sl HL.out)).mono ?_); rintro e W1 ⟨rfl, hb⟩; replace HM := Lib.hid (HM.out.next hb); clear hb) | ((with_reducible refine igd ?_); (with_reducible refine skip_op ?_ ?_); (exact rfl)) | ((with_reducible refine iload ?_); first | refine ldbW HM.out 0 rfl rfl rfl ?_ | (refine ldbS HM.out 0 rfl rfl rfl ?_; simp only [List.take, List.drop])) | ((with_reducible refine ibox (d := some 4) ?_); refine bxA rfl HM.out rfl ?_; intro g4 W1 HM1; replace HM := Lib.hid HM1; clear HM1))
        go_ret
        exact ⟨rfl, HM.out.below⟩
    · have HB := Lib.hid (show testsF ns ⟨fk, fo⟩ l = ne by unfold testsF; rw [if_neg (by rw [hce]; simp), if_pos (by rw [hne]; exact h2), hne])
      have b1 : (ne != 0) = true := by simpa using h2
      have b2 : (ne == 0) = false := by simpa using h2
      clear hN hL hwf hce hne hfb h2
      go_enter Tryd.func14, Tryd.ntmps14
      go_wp2_with (first | (go_at_call 19; (with_reducible refine (HCk.out _ (HM.out.sl HN.out)).mono ?_); rintro e W1 ⟨rfl, hb⟩; replace HM := Lib.hid (HM.out.next hb); clear hb) | (go_at_call 20; (with_reducible refine (HNm.out _ (HM.out.sl HL.out)).mono ?_); rintro e W1 ⟨rfl, hb⟩; replace HM := Lib.hid (HM.out.next hb); clear hb) | ((with_reducible refine igd ?_); (with_reducible refine skip_op ?_ ?_); (exact rfl)) | ((with_reducible refine iload ?_); first | refine ldbW HM.out 0 rfl rfl rfl ?_ | (refine ldbS HM.out 0 rfl rfl rfl ?_; simp only [List.take, List.drop])) | ((with_reducible refine ibox (d := some 4) ?_); refine bxA rfl HM.out rfl ?_; intro g4 W1 HM1; replace HM := Lib.hid HM1; clear HM1))
      go_ret
      exact ⟨by rw [HB.out]; rfl, HM.out.below⟩
  · have HB := Lib.hid (show testsF ns ⟨fk, fo⟩ l = ce by unfold testsF; rw [if_pos (by rw [hce]; exact h1), hce])
    have b1 : (ce != 0) = true := by simpa using h1
    have b2 : (ce == 0) = false := by simpa using h1
    clear hN hL hwf hce hne hfb h1
    go_enter Tryd.func14, Tryd.ntmps14
    go_wp2_with (first | (go_at_call 19; (with_reducible refine (HCk.out _ (HM.out.sl HN.out)).mono ?_); rintro e W1 ⟨rfl, hb⟩; replace HM := Lib.hid (HM.out.next hb); clear hb) | ((with_reducible refine igd ?_); (with_reducible refine skip_op ?_ ?_); (exact rfl)) | ((with_reducible refine iload ?_); first | refine ldbW HM.out 0 rfl rfl rfl ?_ | (refine ldbS HM.out 0 rfl rfl rfl ?_; simp only [List.take, List.drop])) | ((with_reducible refine ibox (d := some 4) ?_); refine bxA rfl HM.out rfl ?_; intro g4 W1 HM1; replace HM := Lib.hid HM1; clear HM1))
    go_ret
    exact ⟨by rw [HB.out]; rfl, HM.out.below⟩
end Go.Proofs.YtpjcjgikfplgnaaDoor
