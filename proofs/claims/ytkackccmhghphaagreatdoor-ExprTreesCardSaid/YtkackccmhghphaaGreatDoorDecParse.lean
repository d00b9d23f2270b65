/- dec's Parse of a number's text. (fast) -/
import Derived.Test.YtkackccmhghphaaGreatDoorWideRead
namespace Go.Proofs.YtkackccmhghphaaGreatDoor
open Go.RowKit
set_option linter.unusedVariables false
set_option linter.unusedSimpArgs false
set_option maxRecDepth 100000

def decV (r : (Nat × Nat) × Int) : Value := .tuple #[.agg (decCs r.1.1 r.1.2).toArray, .int .i64 r.2]
theorem str_empty {s : ByteArray} (h : s.data.toList = []) : s.toList.isEmpty = true ∧ (s.toList == []) = true ∧ s = ⟨#[]⟩ := by
 refine ⟨by rw [ByteArray.toList_eq, h]; rfl, by rw [ByteArray.toList_eq, h]; rfl, ?_⟩
 rcases s with ⟨⟨l⟩⟩
 simp at h
 subst h
 rfl
theorem str_full {s : ByteArray} (h : s.data.toList ≠ []) : s.toList.isEmpty = false ∧ (s.toList == []) = false ∧ 0 < s.size := by
 refine ⟨by rw [ByteArray.toList_eq]; simpa using h, by rw [ByteArray.toList_eq]; simpa using h, ?_⟩
 have : s.data.toList.length = s.size := by simp
 rcases Nat.eq_zero_or_pos s.size with h0 | h0
 ·exact absurd (List.eq_nil_of_length_eq_zero (by omega)) h
 ·exact h0
theorem trimL_dg {l : List UInt8} (h : ∀ b ∈ l, dg b = true) : (∀ b ∈ Lib.trimLeftB l 48, dg b = true) ∧ (Lib.trimLeftB l 48)[0]? ≠ some 48 ∧ (Lib.trimLeftB l 48).length ≤ l.length := by
 unfold Lib.trimLeftB
 refine ⟨fun b hb => h b (List.dropWhile_sublist _ |>.mem hb), fun e => ?_, (List.dropWhile_sublist _).length_le⟩
 induction l with
 | nil => simp at e
 | cons a l ih =>
  rw [List.dropWhile_cons] at e
  split at e
  ·exact ih (fun b hb => h b (List.mem_cons_of_mem _ hb)) e
  ·rename_i hn
   simp at e
   subst e
   exact hn (by decide)
theorem trimR_sub (l : List UInt8) : (Lib.trimRightB l 48).Sublist l := by
 unfold Lib.trimRightB
 have := (List.dropWhile_sublist (l := l.reverse) (fun x => x == 48)).reverse
 rwa [List.reverse_reverse] at this

set_option maxHeartbeats 4000000 in
theorem decParse_core (s A B : ByteArray) (ds fs : List UInt8) (pt : Bool) (w : World) (hA : A.data.toList = ds) (hB : B.data.toList = fs) (hpt : pt = !fs.isEmpty) (hd0 : ds ≠ []) (hd : ∀ b ∈ ds, dg b = true) (hf : ∀ b ∈ fs, dg b = true) (hsz : ds.length + fs.length ≤ 1000)
  (hcut : ∀ W, Calls Tryz.prog 162 #[.string s, .string ⟨#[46]⟩] W fun e w' => e = .returned (.tuple #[.string A, .string B, .bool pt]) ∧ Below W.heap.size W w') (hpre : Lib.hasPrefix s.data.toList [45] = false) :
  Calls Tryz.prog 140 #[.string s] w fun e w' => e = .returned (decV (decT ds fs)) ∧ Below w.heap.size w w' := by
 have HM := Lib.hid (Mem.start w)
 have HCp := Lib.hid (fun W => cutPre_no s W hpre)
 have HCut := Lib.hid hcut
 have hAl : A.size = ds.length := by rw [← hA]; simp
 have hBl : B.size = fs.length := by rw [← hB]; simp
 have HNa := Lib.hid (fun W => number_yes A W (by rw [hA]; exact List.all_eq_true.2 hd) (by rw [hA]; exact hd0) (by omega))
 obtain ⟨a0, ha0⟩ : ∃ b, ds[0]? = some b := ⟨_, List.getElem?_eq_getElem (List.length_pos_iff.2 hd0)⟩
 have HA0 := Lib.hid (show A.data.toList[0]? = some a0 by rw [hA]; exact ha0)
 obtain ⟨bl, hbl⟩ : ∃ x, Lib.trimRightB fs 48 = x := ⟨_, rfl⟩
 obtain ⟨B2, hB2⟩ : ∃ x : ByteArray, (⟨bl.toArray⟩ : ByteArray) = x := ⟨_, rfl⟩
 have hB2l : B2.data.toList = bl := by rw [← hB2]
 obtain ⟨dl, hdl⟩ : ∃ x, Lib.trimLeftB (ds ++ bl) 48 = x := ⟨_, rfl⟩
 obtain ⟨D, hD⟩ : ∃ x : ByteArray, (⟨dl.toArray⟩ : ByteArray) = x := ⟨_, rfl⟩
 have hDl : D.data.toList = dl := by rw [← hD]
 have hbsub : bl.Sublist fs := hbl ▸ trimR_sub fs
 have hbl3 := hbsub.length_le
 have htd := trimL_dg (l := ds ++ bl) (fun b hb => by
  rcases List.mem_append.1 hb with hb | hb
  ·exact hd b hb
  ·exact hf b (hbsub.mem hb))
 rw [hdl, List.length_append] at htd
 have HTr := Lib.hid (fun W => (show Calls Tryz.prog 164 #[.string B, .string ⟨#[48]⟩] W fun e w' => e = .returned (.string B2) ∧ W = w' from
  (Tryz.strings_TrimRight_one B 48 (by decide) W (by omega)).mono fun e w' ⟨h1, h2⟩ => ⟨by rw [h1, hB, hbl, hB2], h2.symm⟩))
 have hB2s : B2.size = bl.length := by rw [← hB2l]; simp
 have hDs : D.size = dl.length := by rw [← hDl]; simp
 have hcat := fun w => run_string_add_sum (P := Tryz.prog) w A B2 (by omega)
 have HTl := Lib.hid (fun W => (show Calls Tryz.prog 165 #[.string (A ++ B2), .string ⟨#[48]⟩] W fun e w' => e = .returned (.string D) ∧ W = w' from
  (Tryz.strings_TrimLeft_one (A ++ B2) 48 (by decide) W).mono fun e w' ⟨h1, h2⟩ => ⟨by rw [h1, ByteArray.data_append, Array.toList_append, hA, hB2l, hdl, hD], h2.symm⟩))
 by_cases hz : 1 < ds.length ∧ ds[0]? = some 48
 ·have HR := Lib.hid (show decT ds fs = ((0, 0), 5) by unfold decT; rw [if_pos hz])
  obtain ⟨hz1, hz2⟩ := hz
  have hz3 : a0 = 48 := by rw [ha0] at hz2; exact Option.some.inj hz2
  have d1 : decide ((1 : Int) < A.size) = true := decide_eq_true (by omega)
  have d2 : ((a0.toNat : Int) == 48) = true := by rw [hz3]; rfl
  clear hA hB hd0 hd hf hcut hpre ha0 hbl hB2 hB2l hdl hD hDl hbsub htd hz2 hz3 hpt
  go_enter Tryz.func140, Tryz.ntmps140
  go_wp2_with (first | (go_at_call 161; (with_reducible refine (HCp.out _).mono ?_); rintro e W1 ⟨rfl, hb⟩; replace HM := Lib.hid (HM.out.next hb); clear hb) | (go_at_call 162; (with_reducible refine (HCut.out _).mono ?_); rintro e W1 ⟨rfl, hb⟩; replace HM := Lib.hid (HM.out.next hb); clear hb) | (go_at_call 163; (with_reducible refine (HNa.out _).mono ?_); rintro e W1 ⟨rfl, hb⟩; replace HM := Lib.hid (HM.out.next hb); clear hb) | ((with_reducible refine iat 31 ?_); (refine six rfl rfl (i := 0) rfl HA0.out ?_)) | ((with_reducible refine igd ?_); (with_reducible refine skip_op ?_ ?_); (exact rfl)) | ((with_reducible refine iload ?_); first | refine ldbW HM.out 0 rfl rfl rfl ?_ | (refine ldbS HM.out 0 rfl rfl rfl ?_; simp only [List.take, List.drop])) | ((with_reducible refine istore ?_); (first | (refine stbW rfl HM.out 0 rfl rfl rfl rfl rfl rfl ?_; intro W1 HM1; replace HM := Lib.hid HM1; clear HM1; simp only [List.set] at HM) | (refine stbS rfl HM.out 0 rfl rfl rfl rfl rfl rfl ?_; intro W1 HM1; replace HM := Lib.hid HM1; clear HM1; simp only [lss, Nat.reduceAdd] at HM))) | ((with_reducible refine ialloc (d := some 2) ?_); refine alb rfl HM.out ?_; intro g2 W1 HM1; replace HM := Lib.hid HM1; clear HM1) | ((with_reducible refine ialloc ?_); refine alb rfl HM.out ?_; intro g1 W1 HM1; replace HM := Lib.hid HM1; clear HM1))
  exact bodyPost_ret (res_box_tmp rfl HM.out 0 rfl rfl rfl rfl) rfl ⟨by rw [HR.out]; rfl, HM.out.below⟩
 ·have HNe := Lib.hid (show pt = true → fs ≠ [] from fun h e => by rw [hpt, e] at h; cases h)
  have HNb2 := Lib.hid (show pt = true → ∀ W, Calls Tryz.prog 163 #[.string B] W fun e w' => e = .returned (.bool true) ∧ Below W.heap.size W w' from fun h W => number_yes B W (by rw [hB]; exact List.all_eq_true.2 hf) (by rw [hB]; exact HNe.out h) (by omega))
  have q1 : 1 < A.size → ((a0.toNat : Int) == 48) = false := fun h1 => by
   simpa using fun e : (a0.toNat : Int) = 48 => hz ⟨by omega, by rw [ha0]; exact congrArg some (UInt8.toNat_inj.1 (by show a0.toNat = 48; omega))⟩
  have step : ∀ (r : (Nat × Nat) × Int), decT ds fs = r → (dl = [] ∧ r = ((0, 0), 0)) ∨ (dl ≠ [] ∧ (18 < bl.length ∨ 34 < dl.length) ∧ r = ((0, 0), 3)) ∨ (dl ≠ [] ∧ ¬ (18 < bl.length) ∧ ¬ (34 < dl.length) ∧ r = ((dval dl, bl.length), 0)) := fun r hr => by
   unfold decT at hr
   rw [if_neg hz, hbl, hdl] at hr
   by_cases h1 : dl = []
   ·rw [if_pos h1] at hr; exact Or.inl ⟨h1, hr.symm⟩
   ·rw [if_neg h1] at hr
    by_cases h2 : 18 < bl.length ∨ 34 < dl.length
    ·rw [if_pos h2] at hr; exact Or.inr (Or.inl ⟨h1, h2, hr.symm⟩)
    ·rw [if_neg h2] at hr; exact Or.inr (Or.inr ⟨h1, fun h => h2 (Or.inl h), fun h => h2 (Or.inr h), hr.symm⟩)
  rcases Nat.lt_or_ge 1 A.size with hs1 | hs1
  ·have d2 := q1 hs1
   have d1 : decide ((1 : Int) < A.size) = true := decide_eq_true (by omega)
   rcases step _ rfl with ⟨h1, hr⟩ | ⟨h1, h2, hr⟩ | ⟨h1, h2, h3, hr⟩
   ·have HR := Lib.hid hr
    obtain ⟨e1, e2, -⟩ := str_empty (show D.data.toList = [] by rw [hDl]; exact h1)
    clear hA hB hd0 hd hf hcut hpre ha0 hbl hB2 hB2l hdl hD hDl hbsub htd hz hpt step q1 hr hAl hBl hB2s hDs h1
    cases pt
    all_goals
     go_enter Tryz.func140, Tryz.ntmps140
     go_wp2_with (first | (go_at_call 161; (with_reducible refine (HCp.out _).mono ?_); rintro e W1 ⟨rfl, hb⟩; replace HM := Lib.hid (HM.out.next hb); clear hb) | (go_at_call 162; (with_reducible refine (HCut.out _).mono ?_); rintro e W1 ⟨rfl, hb⟩; replace HM := Lib.hid (HM.out.next hb); clear hb) | (go_at_call 163; first | ((with_reducible refine (HNa.out _).mono ?_); rintro e W1 ⟨rfl, hb⟩; replace HM := Lib.hid (HM.out.next hb); clear hb) | ((with_reducible refine (HNb2.out (by trivial) _).mono ?_); rintro e W1 ⟨rfl, hb⟩; replace HM := Lib.hid (HM.out.next hb); clear hb)) | ((with_reducible refine iat 31 ?_); (refine six rfl rfl (i := 0) rfl HA0.out ?_)) | (go_at_call 164; (with_reducible refine (HTr.out _).mono ?_); rintro e W2 ⟨rfl, rfl⟩) | (go_at_call 165; (with_reducible refine (HTl.out _).mono ?_); rintro e W2 ⟨rfl, rfl⟩) | ((with_reducible refine igd ?_); (with_reducible refine skip_op ?_ ?_); (exact rfl)) | ((with_reducible refine iload ?_); first | refine ldbW HM.out 0 rfl rfl rfl ?_ | (refine ldbS HM.out 0 rfl rfl rfl ?_; simp only [List.take, List.drop])) | ((with_reducible refine istore ?_); (first | (refine stbW rfl HM.out 0 rfl rfl rfl rfl rfl rfl ?_; intro W1 HM1; replace HM := Lib.hid HM1; clear HM1; simp only [List.set] at HM) | (refine stbS rfl HM.out 0 rfl rfl rfl rfl rfl rfl ?_; intro W1 HM1; replace HM := Lib.hid HM1; clear HM1; simp only [lss, Nat.reduceAdd] at HM))) | ((with_reducible refine ialloc (d := some 2) ?_); refine alb rfl HM.out ?_; intro g2 W1 HM1; replace HM := Lib.hid HM1; clear HM1) | ((with_reducible refine ialloc ?_); refine alb rfl HM.out ?_; intro g1 W1 HM1; replace HM := Lib.hid HM1; clear HM1))
     exact bodyPost_ret (res_box_tmp rfl HM.out 0 rfl rfl rfl rfl) rfl ⟨by rw [HR.out]; rfl, HM.out.below⟩
   ·have HR := Lib.hid hr
    obtain ⟨e1, e2, -⟩ := str_full (show D.data.toList ≠ [] by rw [hDl]; exact h1)
    by_cases h18 : 18 < bl.length
    ·have g1 : decide ((18 : Int) < B2.size) = true := decide_eq_true (by omega)
     clear hA hB hd0 hd hf hcut hpre ha0 hbl hB2 hB2l hdl hD hDl hbsub htd hz hpt step q1 hr hAl hBl hB2s hDs h1
     cases pt
     all_goals
      go_enter Tryz.func140, Tryz.ntmps140
      go_wp2_with (first | (go_at_call 161; (with_reducible refine (HCp.out _).mono ?_); rintro e W1 ⟨rfl, hb⟩; replace HM := Lib.hid (HM.out.next hb); clear hb) | (go_at_call 162; (with_reducible refine (HCut.out _).mono ?_); rintro e W1 ⟨rfl, hb⟩; replace HM := Lib.hid (HM.out.next hb); clear hb) | (go_at_call 163; first | ((with_reducible refine (HNa.out _).mono ?_); rintro e W1 ⟨rfl, hb⟩; replace HM := Lib.hid (HM.out.next hb); clear hb) | ((with_reducible refine (HNb2.out (by trivial) _).mono ?_); rintro e W1 ⟨rfl, hb⟩; replace HM := Lib.hid (HM.out.next hb); clear hb)) | ((with_reducible refine iat 31 ?_); (refine six rfl rfl (i := 0) rfl HA0.out ?_)) | (go_at_call 164; (with_reducible refine (HTr.out _).mono ?_); rintro e W2 ⟨rfl, rfl⟩) | (go_at_call 165; (with_reducible refine (HTl.out _).mono ?_); rintro e W2 ⟨rfl, rfl⟩) | ((with_reducible refine igd ?_); (with_reducible refine skip_op ?_ ?_); (exact rfl)) | ((with_reducible refine iload ?_); first | refine ldbW HM.out 0 rfl rfl rfl ?_ | (refine ldbS HM.out 0 rfl rfl rfl ?_; simp only [List.take, List.drop])) | ((with_reducible refine istore ?_); (first | (refine stbW rfl HM.out 0 rfl rfl rfl rfl rfl rfl ?_; intro W1 HM1; replace HM := Lib.hid HM1; clear HM1; simp only [List.set] at HM) | (refine stbS rfl HM.out 0 rfl rfl rfl rfl rfl rfl ?_; intro W1 HM1; replace HM := Lib.hid HM1; clear HM1; simp only [lss, Nat.reduceAdd] at HM))) | ((with_reducible refine ialloc (d := some 2) ?_); refine alb rfl HM.out ?_; intro g2 W1 HM1; replace HM := Lib.hid HM1; clear HM1) | ((with_reducible refine ialloc ?_); refine alb rfl HM.out ?_; intro g1 W1 HM1; replace HM := Lib.hid HM1; clear HM1))
      exact bodyPost_ret (res_box_tmp rfl HM.out 0 rfl rfl rfl rfl) rfl ⟨by rw [HR.out]; rfl, HM.out.below⟩
    ·have g1 : decide ((18 : Int) < B2.size) = false := decide_eq_false (by omega)
     have g2 : decide ((34 : Int) < D.size) = true := decide_eq_true (by omega)
     clear hA hB hd0 hd hf hcut hpre ha0 hbl hB2 hB2l hdl hD hDl hbsub htd hz hpt step q1 hr hAl hBl hB2s hDs h1
     cases pt
     all_goals
      go_enter Tryz.func140, Tryz.ntmps140
      go_wp2_with (first | (go_at_call 161; (with_reducible refine (HCp.out _).mono ?_); rintro e W1 ⟨rfl, hb⟩; replace HM := Lib.hid (HM.out.next hb); clear hb) | (go_at_call 162; (with_reducible refine (HCut.out _).mono ?_); rintro e W1 ⟨rfl, hb⟩; replace HM := Lib.hid (HM.out.next hb); clear hb) | (go_at_call 163; first | ((with_reducible refine (HNa.out _).mono ?_); rintro e W1 ⟨rfl, hb⟩; replace HM := Lib.hid (HM.out.next hb); clear hb) | ((with_reducible refine (HNb2.out (by trivial) _).mono ?_); rintro e W1 ⟨rfl, hb⟩; replace HM := Lib.hid (HM.out.next hb); clear hb)) | ((with_reducible refine iat 31 ?_); (refine six rfl rfl (i := 0) rfl HA0.out ?_)) | (go_at_call 164; (with_reducible refine (HTr.out _).mono ?_); rintro e W2 ⟨rfl, rfl⟩) | (go_at_call 165; (with_reducible refine (HTl.out _).mono ?_); rintro e W2 ⟨rfl, rfl⟩) | ((with_reducible refine igd ?_); (with_reducible refine skip_op ?_ ?_); (exact rfl)) | ((with_reducible refine iload ?_); first | refine ldbW HM.out 0 rfl rfl rfl ?_ | (refine ldbS HM.out 0 rfl rfl rfl ?_; simp only [List.take, List.drop])) | ((with_reducible refine istore ?_); (first | (refine stbW rfl HM.out 0 rfl rfl rfl rfl rfl rfl ?_; intro W1 HM1; replace HM := Lib.hid HM1; clear HM1; simp only [List.set] at HM) | (refine stbS rfl HM.out 0 rfl rfl rfl rfl rfl rfl ?_; intro W1 HM1; replace HM := Lib.hid HM1; clear HM1; simp only [lss, Nat.reduceAdd] at HM))) | ((with_reducible refine ialloc (d := some 2) ?_); refine alb rfl HM.out ?_; intro g2 W1 HM1; replace HM := Lib.hid HM1; clear HM1) | ((with_reducible refine ialloc ?_); refine alb rfl HM.out ?_; intro g1 W1 HM1; replace HM := Lib.hid HM1; clear HM1))
      exact bodyPost_ret (res_box_tmp rfl HM.out 0 rfl rfl rfl rfl) rfl ⟨by rw [HR.out]; rfl, HM.out.below⟩
   ·obtain ⟨nh, hnh⟩ : ∃ x, dval dl / 18446744073709551616 = x := ⟨_, rfl⟩
    obtain ⟨nl, hnl⟩ : ∃ x, dval dl % 18446744073709551616 = x := ⟨_, rfl⟩
    have HR := Lib.hid (show decV (decT ds fs) = .tuple #[.agg #[.bool false, .int .u64 nh, .int .u64 nl, .int .i64 B2.size], .int .i64 0] by rw [hr, hB2s, ← hnh, ← hnl]; rfl)
    obtain ⟨e1, e2, e3⟩ := str_full (show D.data.toList ≠ [] by rw [hDl]; exact h1)
    have HRd := Lib.hid (fun W => (show Calls Tryz.prog 166 #[.string D] W fun e w' => e = .returned (.tuple #[.agg #[.int .u64 nh, .int .u64 nl], .int .i64 0]) ∧ Below W.heap.size W w' from
     (wread_any D W (by rw [hDl]; exact htd.1) e3 (by omega) (by rw [hDl]; exact htd.2.1)).mono fun e w' ⟨h2', l2', he, hw, hb⟩ => ⟨by
      rw [hDl] at hw
      obtain ⟨w1, w2, w3⟩ := hw
      rw [he, ← hnh, ← hnl, show dval dl / 18446744073709551616 = h2' by omega, show dval dl % 18446744073709551616 = l2' by omega], hb⟩))
    have g1 : decide ((18 : Int) < B2.size) = false := decide_eq_false (by omega)
    have g2 : decide ((34 : Int) < D.size) = false := decide_eq_false (by omega)
    clear hA hB hd0 hd hf hcut hpre ha0 hbl hB2 hB2l hdl hD hDl hbsub htd hz hpt step q1 hr hAl hBl hB2s hDs h1 hnh hnl
    cases pt
    all_goals
     go_enter Tryz.func140, Tryz.ntmps140
     go_wp2_with (first | (go_at_call 161; (with_reducible refine (HCp.out _).mono ?_); rintro e W1 ⟨rfl, hb⟩; replace HM := Lib.hid (HM.out.next hb); clear hb) | (go_at_call 162; (with_reducible refine (HCut.out _).mono ?_); rintro e W1 ⟨rfl, hb⟩; replace HM := Lib.hid (HM.out.next hb); clear hb) | (go_at_call 163; first | ((with_reducible refine (HNa.out _).mono ?_); rintro e W1 ⟨rfl, hb⟩; replace HM := Lib.hid (HM.out.next hb); clear hb) | ((with_reducible refine (HNb2.out (by trivial) _).mono ?_); rintro e W1 ⟨rfl, hb⟩; replace HM := Lib.hid (HM.out.next hb); clear hb)) | ((with_reducible refine iat 31 ?_); (refine six rfl rfl (i := 0) rfl HA0.out ?_)) | (go_at_call 164; (with_reducible refine (HTr.out _).mono ?_); rintro e W2 ⟨rfl, rfl⟩) | (go_at_call 165; (with_reducible refine (HTl.out _).mono ?_); rintro e W2 ⟨rfl, rfl⟩) | (go_at_call 166; (with_reducible refine (HRd.out _).mono ?_); rintro e W1 ⟨rfl, hb⟩; replace HM := Lib.hid (HM.out.next hb); clear hb) | ((with_reducible refine igd ?_); (with_reducible refine skip_op ?_ ?_); (exact rfl)) | ((with_reducible refine iload ?_); first | refine ldbW HM.out 0 rfl rfl rfl ?_ | refine ldbW HM.out 1 rfl rfl rfl ?_ | ((first | refine ldbS HM.out 0 rfl rfl rfl ?_ | refine ldbS HM.out 1 rfl rfl rfl ?_); simp only [List.take, List.drop])) | ((with_reducible refine istore ?_); (first | ((first | refine stbW rfl HM.out 0 rfl rfl rfl rfl rfl rfl ?_ | refine stbW rfl HM.out 1 rfl rfl rfl rfl rfl rfl ?_); intro W1 HM1; replace HM := Lib.hid HM1; clear HM1; simp only [List.set] at HM) | ((first | refine stbS rfl HM.out 0 rfl rfl rfl rfl rfl rfl ?_ | refine stbS rfl HM.out 1 rfl rfl rfl rfl rfl rfl ?_); intro W1 HM1; replace HM := Lib.hid HM1; clear HM1; simp only [lss, Nat.reduceAdd] at HM))) | ((with_reducible refine ialloc (d := some 2) ?_); refine alb rfl HM.out ?_; intro g2 W1 HM1; replace HM := Lib.hid HM1; clear HM1) | ((with_reducible refine ialloc (d := some 9) ?_); refine alb rfl HM.out ?_; intro g9 W1 HM1; replace HM := Lib.hid HM1; clear HM1))
     exact bodyPost_ret (res_box_tmp rfl HM.out 1 rfl rfl rfl rfl) rfl ⟨HR.out ▸ rfl, HM.out.below⟩
  ·have d1 : decide ((1 : Int) < A.size) = false := decide_eq_false (by omega)
   rcases step _ rfl with ⟨h1, hr⟩ | ⟨h1, h2, hr⟩ | ⟨h1, h2, h3, hr⟩
   ·have HR := Lib.hid hr
    obtain ⟨e1, e2, -⟩ := str_empty (show D.data.toList = [] by rw [hDl]; exact h1)
    clear hA hB hd0 hd hf hcut hpre ha0 hbl hB2 hB2l hdl hD hDl hbsub htd hz hpt step q1 hr hAl hBl hB2s hDs h1
    cases pt
    all_goals
     go_enter Tryz.func140, Tryz.ntmps140
     go_wp2_with (first | (go_at_call 161; (with_reducible refine (HCp.out _).mono ?_); rintro e W1 ⟨rfl, hb⟩; replace HM := Lib.hid (HM.out.next hb); clear hb) | (go_at_call 162; (with_reducible refine (HCut.out _).mono ?_); rintro e W1 ⟨rfl, hb⟩; replace HM := Lib.hid (HM.out.next hb); clear hb) | (go_at_call 163; first | ((with_reducible refine (HNa.out _).mono ?_); rintro e W1 ⟨rfl, hb⟩; replace HM := Lib.hid (HM.out.next hb); clear hb) | ((with_reducible refine (HNb2.out (by trivial) _).mono ?_); rintro e W1 ⟨rfl, hb⟩; replace HM := Lib.hid (HM.out.next hb); clear hb)) | ((with_reducible refine iat 31 ?_); (refine six rfl rfl (i := 0) rfl HA0.out ?_)) | (go_at_call 164; (with_reducible refine (HTr.out _).mono ?_); rintro e W2 ⟨rfl, rfl⟩) | (go_at_call 165; (with_reducible refine (HTl.out _).mono ?_); rintro e W2 ⟨rfl, rfl⟩) | ((with_reducible refine igd ?_); (with_reducible refine skip_op ?_ ?_); (exact rfl)) | ((with_reducible refine iload ?_); first | refine ldbW HM.out 0 rfl rfl rfl ?_ | (refine ldbS HM.out 0 rfl rfl rfl ?_; simp only [List.take, List.drop])) | ((with_reducible refine istore ?_); (first | (refine stbW rfl HM.out 0 rfl rfl rfl rfl rfl rfl ?_; intro W1 HM1; replace HM := Lib.hid HM1; clear HM1; simp only [List.set] at HM) | (refine stbS rfl HM.out 0 rfl rfl rfl rfl rfl rfl ?_; intro W1 HM1; replace HM := Lib.hid HM1; clear HM1; simp only [lss, Nat.reduceAdd] at HM))) | ((with_reducible refine ialloc (d := some 2) ?_); refine alb rfl HM.out ?_; intro g2 W1 HM1; replace HM := Lib.hid HM1; clear HM1) | ((with_reducible refine ialloc ?_); refine alb rfl HM.out ?_; intro g1 W1 HM1; replace HM := Lib.hid HM1; clear HM1))
     exact bodyPost_ret (res_box_tmp rfl HM.out 0 rfl rfl rfl rfl) rfl ⟨by rw [HR.out]; rfl, HM.out.below⟩
   ·have HR := Lib.hid hr
    obtain ⟨e1, e2, -⟩ := str_full (show D.data.toList ≠ [] by rw [hDl]; exact h1)
    by_cases h18 : 18 < bl.length
    ·have g1 : decide ((18 : Int) < B2.size) = true := decide_eq_true (by omega)
     clear hA hB hd0 hd hf hcut hpre ha0 hbl hB2 hB2l hdl hD hDl hbsub htd hz hpt step q1 hr hAl hBl hB2s hDs h1
     cases pt
     all_goals
      go_enter Tryz.func140, Tryz.ntmps140
      go_wp2_with (first | (go_at_call 161; (with_reducible refine (HCp.out _).mono ?_); rintro e W1 ⟨rfl, hb⟩; replace HM := Lib.hid (HM.out.next hb); clear hb) | (go_at_call 162; (with_reducible refine (HCut.out _).mono ?_); rintro e W1 ⟨rfl, hb⟩; replace HM := Lib.hid (HM.out.next hb); clear hb) | (go_at_call 163; first | ((with_reducible refine (HNa.out _).mono ?_); rintro e W1 ⟨rfl, hb⟩; replace HM := Lib.hid (HM.out.next hb); clear hb) | ((with_reducible refine (HNb2.out (by trivial) _).mono ?_); rintro e W1 ⟨rfl, hb⟩; replace HM := Lib.hid (HM.out.next hb); clear hb)) | ((with_reducible refine iat 31 ?_); (refine six rfl rfl (i := 0) rfl HA0.out ?_)) | (go_at_call 164; (with_reducible refine (HTr.out _).mono ?_); rintro e W2 ⟨rfl, rfl⟩) | (go_at_call 165; (with_reducible refine (HTl.out _).mono ?_); rintro e W2 ⟨rfl, rfl⟩) | ((with_reducible refine igd ?_); (with_reducible refine skip_op ?_ ?_); (exact rfl)) | ((with_reducible refine iload ?_); first | refine ldbW HM.out 0 rfl rfl rfl ?_ | (refine ldbS HM.out 0 rfl rfl rfl ?_; simp only [List.take, List.drop])) | ((with_reducible refine istore ?_); (first | (refine stbW rfl HM.out 0 rfl rfl rfl rfl rfl rfl ?_; intro W1 HM1; replace HM := Lib.hid HM1; clear HM1; simp only [List.set] at HM) | (refine stbS rfl HM.out 0 rfl rfl rfl rfl rfl rfl ?_; intro W1 HM1; replace HM := Lib.hid HM1; clear HM1; simp only [lss, Nat.reduceAdd] at HM))) | ((with_reducible refine ialloc (d := some 2) ?_); refine alb rfl HM.out ?_; intro g2 W1 HM1; replace HM := Lib.hid HM1; clear HM1) | ((with_reducible refine ialloc ?_); refine alb rfl HM.out ?_; intro g1 W1 HM1; replace HM := Lib.hid HM1; clear HM1))
      exact bodyPost_ret (res_box_tmp rfl HM.out 0 rfl rfl rfl rfl) rfl ⟨by rw [HR.out]; rfl, HM.out.below⟩
    ·have g1 : decide ((18 : Int) < B2.size) = false := decide_eq_false (by omega)
     have g2 : decide ((34 : Int) < D.size) = true := decide_eq_true (by omega)
     clear hA hB hd0 hd hf hcut hpre ha0 hbl hB2 hB2l hdl hD hDl hbsub htd hz hpt step q1 hr hAl hBl hB2s hDs h1
     cases pt
     all_goals
      go_enter Tryz.func140, Tryz.ntmps140
      go_wp2_with (first | (go_at_call 161; (with_reducible refine (HCp.out _).mono ?_); rintro e W1 ⟨rfl, hb⟩; replace HM := Lib.hid (HM.out.next hb); clear hb) | (go_at_call 162; (with_reducible refine (HCut.out _).mono ?_); rintro e W1 ⟨rfl, hb⟩; replace HM := Lib.hid (HM.out.next hb); clear hb) | (go_at_call 163; first | ((with_reducible refine (HNa.out _).mono ?_); rintro e W1 ⟨rfl, hb⟩; replace HM := Lib.hid (HM.out.next hb); clear hb) | ((with_reducible refine (HNb2.out (by trivial) _).mono ?_); rintro e W1 ⟨rfl, hb⟩; replace HM := Lib.hid (HM.out.next hb); clear hb)) | ((with_reducible refine iat 31 ?_); (refine six rfl rfl (i := 0) rfl HA0.out ?_)) | (go_at_call 164; (with_reducible refine (HTr.out _).mono ?_); rintro e W2 ⟨rfl, rfl⟩) | (go_at_call 165; (with_reducible refine (HTl.out _).mono ?_); rintro e W2 ⟨rfl, rfl⟩) | ((with_reducible refine igd ?_); (with_reducible refine skip_op ?_ ?_); (exact rfl)) | ((with_reducible refine iload ?_); first | refine ldbW HM.out 0 rfl rfl rfl ?_ | (refine ldbS HM.out 0 rfl rfl rfl ?_; simp only [List.take, List.drop])) | ((with_reducible refine istore ?_); (first | (refine stbW rfl HM.out 0 rfl rfl rfl rfl rfl rfl ?_; intro W1 HM1; replace HM := Lib.hid HM1; clear HM1; simp only [List.set] at HM) | (refine stbS rfl HM.out 0 rfl rfl rfl rfl rfl rfl ?_; intro W1 HM1; replace HM := Lib.hid HM1; clear HM1; simp only [lss, Nat.reduceAdd] at HM))) | ((with_reducible refine ialloc (d := some 2) ?_); refine alb rfl HM.out ?_; intro g2 W1 HM1; replace HM := Lib.hid HM1; clear HM1) | ((with_reducible refine ialloc ?_); refine alb rfl HM.out ?_; intro g1 W1 HM1; replace HM := Lib.hid HM1; clear HM1))
      exact bodyPost_ret (res_box_tmp rfl HM.out 0 rfl rfl rfl rfl) rfl ⟨by rw [HR.out]; rfl, HM.out.below⟩
   ·obtain ⟨nh, hnh⟩ : ∃ x, dval dl / 18446744073709551616 = x := ⟨_, rfl⟩
    obtain ⟨nl, hnl⟩ : ∃ x, dval dl % 18446744073709551616 = x := ⟨_, rfl⟩
    have HR := Lib.hid (show decV (decT ds fs) = .tuple #[.agg #[.bool false, .int .u64 nh, .int .u64 nl, .int .i64 B2.size], .int .i64 0] by rw [hr, hB2s, ← hnh, ← hnl]; rfl)
    obtain ⟨e1, e2, e3⟩ := str_full (show D.data.toList ≠ [] by rw [hDl]; exact h1)
    have HRd := Lib.hid (fun W => (show Calls Tryz.prog 166 #[.string D] W fun e w' => e = .returned (.tuple #[.agg #[.int .u64 nh, .int .u64 nl], .int .i64 0]) ∧ Below W.heap.size W w' from
     (wread_any D W (by rw [hDl]; exact htd.1) e3 (by omega) (by rw [hDl]; exact htd.2.1)).mono fun e w' ⟨h2', l2', he, hw, hb⟩ => ⟨by
      rw [hDl] at hw
      obtain ⟨w1, w2, w3⟩ := hw
      rw [he, ← hnh, ← hnl, show dval dl / 18446744073709551616 = h2' by omega, show dval dl % 18446744073709551616 = l2' by omega], hb⟩))
    have g1 : decide ((18 : Int) < B2.size) = false := decide_eq_false (by omega)
    have g2 : decide ((34 : Int) < D.size) = false := decide_eq_false (by omega)
    clear hA hB hd0 hd hf hcut hpre ha0 hbl hB2 hB2l hdl hD hDl hbsub htd hz hpt step q1 hr hAl hBl hB2s hDs h1 hnh hnl
    cases pt
    all_goals
     go_enter Tryz.func140, Tryz.ntmps140
     go_wp2_with (first | (go_at_call 161; (with_reducible refine (HCp.out _).mono ?_); rintro e W1 ⟨rfl, hb⟩; replace HM := Lib.hid (HM.out.next hb); clear hb) | (go_at_call 162; (with_reducible refine (HCut.out _).mono ?_); rintro e W1 ⟨rfl, hb⟩; replace HM := Lib.hid (HM.out.next hb); clear hb) | (go_at_call 163; first | ((with_reducible refine (HNa.out _).mono ?_); rintro e W1 ⟨rfl, hb⟩; replace HM := Lib.hid (HM.out.next hb); clear hb) | ((with_reducible refine (HNb2.out (by trivial) _).mono ?_); rintro e W1 ⟨rfl, hb⟩; replace HM := Lib.hid (HM.out.next hb); clear hb)) | ((with_reducible refine iat 31 ?_); (refine six rfl rfl (i := 0) rfl HA0.out ?_)) | (go_at_call 164; (with_reducible refine (HTr.out _).mono ?_); rintro e W2 ⟨rfl, rfl⟩) | (go_at_call 165; (with_reducible refine (HTl.out _).mono ?_); rintro e W2 ⟨rfl, rfl⟩) | (go_at_call 166; (with_reducible refine (HRd.out _).mono ?_); rintro e W1 ⟨rfl, hb⟩; replace HM := Lib.hid (HM.out.next hb); clear hb) | ((with_reducible refine igd ?_); (with_reducible refine skip_op ?_ ?_); (exact rfl)) | ((with_reducible refine iload ?_); first | refine ldbW HM.out 0 rfl rfl rfl ?_ | refine ldbW HM.out 1 rfl rfl rfl ?_ | ((first | refine ldbS HM.out 0 rfl rfl rfl ?_ | refine ldbS HM.out 1 rfl rfl rfl ?_); simp only [List.take, List.drop])) | ((with_reducible refine istore ?_); (first | ((first | refine stbW rfl HM.out 0 rfl rfl rfl rfl rfl rfl ?_ | refine stbW rfl HM.out 1 rfl rfl rfl rfl rfl rfl ?_); intro W1 HM1; replace HM := Lib.hid HM1; clear HM1; simp only [List.set] at HM) | ((first | refine stbS rfl HM.out 0 rfl rfl rfl rfl rfl rfl ?_ | refine stbS rfl HM.out 1 rfl rfl rfl rfl rfl rfl ?_); intro W1 HM1; replace HM := Lib.hid HM1; clear HM1; simp only [lss, Nat.reduceAdd] at HM))) | ((with_reducible refine ialloc (d := some 2) ?_); refine alb rfl HM.out ?_; intro g2 W1 HM1; replace HM := Lib.hid HM1; clear HM1) | ((with_reducible refine ialloc (d := some 9) ?_); refine alb rfl HM.out ?_; intro g9 W1 HM1; replace HM := Lib.hid HM1; clear HM1))
     exact bodyPost_ret (res_box_tmp rfl HM.out 1 rfl rfl rfl rfl) rfl ⟨HR.out ▸ rfl, HM.out.below⟩
end Go.Proofs.YtkackccmhghphaaGreatDoor
