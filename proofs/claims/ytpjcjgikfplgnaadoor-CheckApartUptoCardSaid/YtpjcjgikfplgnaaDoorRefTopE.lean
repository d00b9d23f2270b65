/- The reference's Expr, DocExpr: what check's answer. (fast) -/
import Derived.Test.YtpjcjgikfplgnaaDoorRefTypes
import Derived.Test.YtpjcjgikfplgnaaDoorRefPlainT
import Derived.Test.YtpjcjgikfplgnaaDoorCheckExpr
namespace Go.Proofs.YtpjcjgikfplgnaaDoor
open Go.RowKit
set_option linter.unusedVariables false
set_option linter.unusedSimpArgs false
set_option maxRecDepth 100000

theorem types_no {p : Option Addr} {c : Nat} {ns : List NodeD} {q : Option Addr} {c2 : Nat} {l : List SymD} {tests : Bool} {w : World} {re : Int} (hN : Sl w p (ns.flatMap NodeD.cs)) (hL : Sl w q (l.flatMap SymD.cs)) (hl2 : l.length ≤ 4611686018427387904) (hsym : ∀ s, s ∈ l → s.t.form) (hc : checkC ns tests = 0) (hr : (runT l ns []).2 = re) (h0 : re ≠ 0) :
    Calls Tryd.prog 37 #[.slice p ns.length c, .slice q l.length c2] w fun e w' => e = .returned (.tuple #[.slice none 0 0, .int .i64 re]) ∧ Below w.heap.size w w' := by
  obtain ⟨parts, hv, hp, hpos, hl, hk, he, -⟩ := types_plain (l := l) hc
  refine (types_any p c ns q c2 l parts hv w hN hL hl2 hl hp hpos hsym hk).mono fun e w' hpp => ?_
  unfold TypesPost at hpp
  rw [he, hr, if_neg h0] at hpp
  exact hpp
/-- What a run that goes through leaves: types, of which the last is the machine's. -/
theorem types_yes {p : Option Addr} {c : Nat} {ns : List NodeD} {q : Option Addr} {c2 : Nat} {l : List SymD} {w : World} {parts : List (List Nat)} {hv : List Nat} {tys : List TyD} (hN : Sl w p (ns.flatMap NodeD.cs)) (hL : Sl w q (l.flatMap SymD.cs)) (hl2 : l.length ≤ 4611686018427387904) (hl : ns.length ≤ 300) (hp : placeF ns ns.length 0 [] [] = some (parts, hv)) (hpos : 0 < ns.length) (hsym : ∀ s, s ∈ l → s.t.form) (hk : ∀ (i : Nat) (n : NodeD) (x : List Nat), ns[i]? = some n → parts[i]? = some x → kidsB n.op x.length = true) (ht : typesR l ns parts ns 0 (List.replicate ns.length ⟨0, 0⟩) = (tys, 0)) :
    Calls Tryd.prog 37 #[.slice p ns.length c, .slice q l.length c2] w fun e w' => ∃ g T, e = .returned (.tuple #[.slice (some ⟨g, 0, none⟩) ns.length ns.length, .int .i64 0]) ∧ Mem w w' (.row (some ⟨g, 0, none⟩) ns.length 25 2 ns.length (tys.flatMap TyD.cs) :: T) := by
  refine (types_any p c ns q c2 l parts hv w hN hL hl2 hl hp hpos hsym hk).mono fun e w' hpp => ?_
  unfold TypesPost at hpp
  rw [ht, if_pos rfl] at hpp
  exact hpp

set_option maxHeartbeats 4000000 in
theorem rExpr_any (p : Option Addr) (c : Nat) (ns : List NodeD) (q : Option Addr) (c2 : Nat) (l : List SymD) (w : World) (hN : Sl w p (ns.flatMap NodeD.cs)) (hL : Sl w q (l.flatMap SymD.cs)) (hl2 : l.length ≤ 4611686018427387904) (hc : checkC ns false = 0) (hn : namesF l = 0) :
    Calls Tryd.prog 21 #[.slice p ns.length c, .slice q l.length c2] w fun e w' => e = .returned (resV (exprF ns l)) ∧ Below w.heap.size w w' := by
  have HM := Lib.hid (Mem.start w)
  have HN := Lib.hid hN
  have HL := Lib.hid hL
  have hsym := namesF_form hn
  obtain ⟨⟨⟨⟨tk, tz⟩, qs⟩, re⟩, hre⟩ : ∃ r, runT l ns [] = r := ⟨_, rfl⟩
  by_cases h0 : re = 0
  · subst h0
    have HB := Lib.hid (show exprF ns l = (⟨tk, tz⟩, 0) by unfold exprF; rw [if_neg (by rw [hc]; simp), if_neg (by rw [hn]; simp), hre])
    obtain ⟨parts, hv, hp, hpos, hl, hk, he, hy⟩ := types_plain (l := l) hc
    obtain ⟨hyl, hyt, -⟩ := hy (by rw [hre])
    obtain ⟨⟨tys, e0⟩, ht⟩ : ∃ r, typesR l ns parts ns 0 (List.replicate ns.length ⟨0, 0⟩) = r := ⟨_, rfl⟩
    rw [ht, hre] at he
    rw [ht] at hyl
    rw [ht, hre] at hyt
    obtain rfl : e0 = 0 := he
    obtain ⟨k, hkn⟩ : ∃ k, ns.length - 1 = k := ⟨_, rfl⟩
    have HNm := Lib.hid (show ((ns.length : Int) - 1) = (k : Int) by omega)
    have hNlt : k < ns.length := by omega
    have hel : tys[k]? = some ⟨tk, tz⟩ := by
      have h2 : k < tys.length := by rw [hyl]; exact hNlt
      have h3 : tyAt tys k = ⟨tk, tz⟩ := by rw [← hkn]; exact hyt
      unfold tyAt at h3
      rw [List.getD_eq_getElem?_getD, List.getElem?_eq_getElem h2] at h3
      rw [List.getElem?_eq_getElem h2]
      exact congrArg some h3
    have HTs := Lib.hid (fun W (h1 : Sl W p (ns.flatMap NodeD.cs)) (h2 : Sl W q (l.flatMap SymD.cs)) => (show Calls Tryd.prog 37 #[.slice p ns.length c, .slice q l.length c2] W fun e w' => ∃ g, e = .returned (.tuple #[.slice (some ⟨g, 0, none⟩) ns.length ns.length, .int .i64 0]) ∧ Below W.heap.size W w' ∧ Cells w' ((⟨g, 0, none⟩ : Addr).add (k * 2)) [.int .i64 tk, .int .i64 tz] from
      (types_yes (c := c) (c2 := c2) h1 h2 hl2 hl hp hpos hsym hk ht).mono fun e w' ⟨g, T, he, hm⟩ => ⟨g, he, hm.below, by
        have h3 := hm.holds _ (List.mem_cons_self ..)
        rw [← hyl] at h3
        exact row_el TyD.cs 2 TyD.cs_len h3 hel⟩))
    clear hN hL hc hn hsym hre hp hk hyl hyt ht hy hkn hel
    go_enter Tryd.func21, Tryd.ntmps21
    go_wp2_with (first | (go_at_call 37; (with_reducible refine (HTs.out _ (HM.out.sl HN.out) (HM.out.sl HL.out)).mono ?_); rintro e W2 ⟨gt, rfl, hb, hc⟩; have HC := Lib.hid hc; clear hc; have HM1 := Lib.hid (HM.out.next hb); clear hb; clear HM; (try clear W1); rename World => W1; have HM := HM1; clear HM1) | ((with_reducible refine iat 22 ?_); (refine ixa rfl rfl HNm.out hNlt ?_)) | ((with_reducible refine iat 23 ?_); (refine ldxW (vs := [.int .i64 tk, .int .i64 tz]) HC.out rfl rfl ?_)) | ((with_reducible refine iload ?_); first | refine ldbW HM.out 0 rfl rfl rfl ?_ | (refine ldbS HM.out 0 rfl rfl rfl ?_; simp only [List.take, List.drop])) | ((with_reducible refine istore ?_); (first | (refine stbW rfl HM.out 0 rfl rfl rfl rfl rfl rfl ?_; intro W1 HM1; replace HM := Lib.hid HM1; clear HM1; simp only [List.set] at HM) | (refine stbS rfl HM.out 0 rfl rfl rfl rfl rfl rfl ?_; intro W1 HM1; replace HM := Lib.hid HM1; clear HM1; simp only [lss, Nat.reduceAdd] at HM))) | ((with_reducible refine ialloc (d := some 4) ?_); refine alb rfl HM.out ?_; intro g4 W1 HM1; replace HM := Lib.hid HM1; clear HM1))
    exact bodyPost_ret (res_box_tmp rfl HM.out 0 rfl rfl rfl rfl) rfl ⟨by rw [resV_of HB.out]; rfl, HM.out.below⟩
  · have HB := Lib.hid (show exprF ns l = (⟨0, 0⟩, re) by unfold exprF; rw [if_neg (by rw [hc]; simp), if_neg (by rw [hn]; simp), runT_err (by rw [hre]; exact h0), hre])
    have HTs := Lib.hid (fun W (h1 : Sl W p (ns.flatMap NodeD.cs)) (h2 : Sl W q (l.flatMap SymD.cs)) => types_no (c := c) (c2 := c2) h1 h2 hl2 hsym hc (by rw [hre]) h0)
    have b0 : (re != 0) = true := by simpa using h0
    clear hN hL hc hn hsym hre h0
    go_enter Tryd.func21, Tryd.ntmps21
    go_wp2_with (first | (go_at_call 37; (with_reducible refine (HTs.out _ (HM.out.sl HN.out) (HM.out.sl HL.out)).mono ?_); rintro e W1 ⟨rfl, hb⟩; replace HM := Lib.hid (HM.out.next hb); clear hb) | ((with_reducible refine iload ?_); first | refine ldbW HM.out 0 rfl rfl rfl ?_ | (refine ldbS HM.out 0 rfl rfl rfl ?_; simp only [List.take, List.drop])) | ((with_reducible refine istore ?_); (first | (refine stbW rfl HM.out 0 rfl rfl rfl rfl rfl rfl ?_; intro W1 HM1; replace HM := Lib.hid HM1; clear HM1; simp only [List.set] at HM) | (refine stbS rfl HM.out 0 rfl rfl rfl rfl rfl rfl ?_; intro W1 HM1; replace HM := Lib.hid HM1; clear HM1; simp only [lss, Nat.reduceAdd] at HM))) | ((with_reducible refine ialloc (d := some 4) ?_); refine alb rfl HM.out ?_; intro g4 W1 HM1; replace HM := Lib.hid HM1; clear HM1))
    exact bodyPost_ret (res_box_tmp rfl HM.out 0 rfl rfl rfl rfl) rfl ⟨by rw [resV_of HB.out]; rfl, HM.out.below⟩

set_option maxHeartbeats 4000000 in
theorem rDocExpr_any (p : Option Addr) (c : Nat) (ns : List NodeD) (q : Option Addr) (c2 : Nat) (l : List SymD) (w : World) (hN : Sl w p (ns.flatMap NodeD.cs)) (hwf : ∀ (i : Nat) (n : NodeD), ns[i]? = some n → n.wf) (hl : ns.length ≤ 4611686018427387904) (hL : Sl w q (l.flatMap SymD.cs)) (hl2 : l.length ≤ 4611686018427387904) :
    Calls Tryd.prog 11 #[.slice p ns.length c, .slice q l.length c2] w fun e w' => e = .returned (resV (exprF ns l)) ∧ Below w.heap.size w w' := by
  have HM := Lib.hid (Mem.start w)
  obtain ⟨ce, hce⟩ : ∃ ce, checkC ns false = ce := ⟨_, rfl⟩
  obtain ⟨ne, hne⟩ : ∃ ne, namesF l = ne := ⟨_, rfl⟩
  have HN := Lib.hid hN
  have HL := Lib.hid hL
  have HCk := Lib.hid (fun W (h : Sl W p (ns.flatMap NodeD.cs)) => hce ▸ rCheck_any p c ns false W h hwf hl)
  have HNm := Lib.hid (fun W (h : Sl W q (l.flatMap SymD.cs)) => hne ▸ rNames_any q c2 l W h hl2)
  by_cases h1 : ce = 0
  · subst h1
    by_cases h2 : ne = 0
    · subst h2
      obtain ⟨⟨⟨rk, ro⟩, re⟩, hre⟩ : ∃ r, exprF ns l = r := ⟨_, rfl⟩
      have HEx := Lib.hid (fun W (h1 : Sl W p (ns.flatMap NodeD.cs)) (h2 : Sl W q (l.flatMap SymD.cs)) => (show Calls Tryd.prog 21 #[.slice p ns.length c, .slice q l.length c2] W fun e w' => e = .returned (.tuple #[.agg #[.int .i64 rk, .int .i64 ro], .int .i64 re]) ∧ Below W.heap.size W w' from by
        have h := rExpr_any p c ns q c2 l W h1 h2 hl2 hce hne
        rw [hre] at h
        exact h))
      rw [hre]
      clear hN hL hwf hre hce hne
      go_enter Tryd.func11, Tryd.ntmps11
      go_wp2_with (first | (go_at_call 19; (with_reducible refine (HCk.out _ (HM.out.sl HN.out)).mono ?_); rintro e W1 ⟨rfl, hb⟩; replace HM := Lib.hid (HM.out.next hb); clear hb) | (go_at_call 20; (with_reducible refine (HNm.out _ (HM.out.sl HL.out)).mono ?_); rintro e W1 ⟨rfl, hb⟩; replace HM := Lib.hid (HM.out.next hb); clear hb) | (go_at_call 21; (with_reducible refine (HEx.out _ (HM.out.sl HN.out) (HM.out.sl HL.out)).mono ?_); rintro e W1 ⟨rfl, hb⟩; replace HM := Lib.hid (HM.out.next hb); clear hb) | ((with_reducible refine istore ?_); (first | (refine stbW rfl HM.out 0 rfl rfl rfl rfl rfl rfl ?_; intro W1 HM1; replace HM := Lib.hid HM1; clear HM1; simp only [List.set] at HM) | (refine stbS rfl HM.out 0 rfl rfl rfl rfl rfl rfl ?_; intro W1 HM1; replace HM := Lib.hid HM1; clear HM1; simp only [lss, Nat.reduceAdd] at HM))) | ((with_reducible refine ialloc (d := some 4) ?_); refine alb rfl HM.out ?_; intro g4 W1 HM1; replace HM := Lib.hid HM1; clear HM1))
      exact bodyPost_ret (res_box_tmp rfl HM.out 0 rfl rfl rfl rfl) rfl ⟨rfl, HM.out.below⟩
    · have HB := Lib.hid (show exprF ns l = (⟨0, 0⟩, ne) by unfold exprF; rw [if_neg (by rw [hce]; simp), if_pos (by rw [hne]; exact h2), hne])
      have b1 : (ne != 0) = true := by simpa using h2
      have b2 : (ne == 0) = false := by simpa using h2
      clear hN hL hwf hce hne h2
      go_enter Tryd.func11, Tryd.ntmps11
      go_wp2_with (first | (go_at_call 19; (with_reducible refine (HCk.out _ (HM.out.sl HN.out)).mono ?_); rintro e W1 ⟨rfl, hb⟩; replace HM := Lib.hid (HM.out.next hb); clear hb) | (go_at_call 20; (with_reducible refine (HNm.out _ (HM.out.sl HL.out)).mono ?_); rintro e W1 ⟨rfl, hb⟩; replace HM := Lib.hid (HM.out.next hb); clear hb) | ((with_reducible refine istore ?_); (first | (refine stbW rfl HM.out 0 rfl rfl rfl rfl rfl rfl ?_; intro W1 HM1; replace HM := Lib.hid HM1; clear HM1; simp only [List.set] at HM) | (refine stbS rfl HM.out 0 rfl rfl rfl rfl rfl rfl ?_; intro W1 HM1; replace HM := Lib.hid HM1; clear HM1; simp only [lss, Nat.reduceAdd] at HM))) | ((with_reducible refine ialloc (d := some 4) ?_); refine alb rfl HM.out ?_; intro g4 W1 HM1; replace HM := Lib.hid HM1; clear HM1))
      exact bodyPost_ret (res_box_tmp rfl HM.out 0 rfl rfl rfl rfl) rfl ⟨by rw [resV_of HB.out]; rfl, HM.out.below⟩
  · have HB := Lib.hid (show exprF ns l = (⟨0, 0⟩, ce) by unfold exprF; rw [if_pos (by rw [hce]; exact h1), hce])
    have b1 : (ce != 0) = true := by simpa using h1
    have b2 : (ce == 0) = false := by simpa using h1
    clear hN hL hwf hce hne h1
    go_enter Tryd.func11, Tryd.ntmps11
    go_wp2_with (first | (go_at_call 19; (with_reducible refine (HCk.out _ (HM.out.sl HN.out)).mono ?_); rintro e W1 ⟨rfl, hb⟩; replace HM := Lib.hid (HM.out.next hb); clear hb) | ((with_reducible refine istore ?_); (first | (refine stbW rfl HM.out 0 rfl rfl rfl rfl rfl rfl ?_; intro W1 HM1; replace HM := Lib.hid HM1; clear HM1; simp only [List.set] at HM) | (refine stbS rfl HM.out 0 rfl rfl rfl rfl rfl rfl ?_; intro W1 HM1; replace HM := Lib.hid HM1; clear HM1; simp only [lss, Nat.reduceAdd] at HM))) | ((with_reducible refine ialloc (d := some 4) ?_); refine alb rfl HM.out ?_; intro g4 W1 HM1; replace HM := Lib.hid HM1; clear HM1))
    exact bodyPost_ret (res_box_tmp rfl HM.out 0 rfl rfl rfl rfl) rfl ⟨by rw [resV_of HB.out]; rfl, HM.out.below⟩
end Go.Proofs.YtpjcjgikfplgnaaDoor
