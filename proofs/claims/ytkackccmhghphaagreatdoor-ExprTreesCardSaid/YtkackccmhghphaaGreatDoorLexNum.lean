/- The reader's number; dec's Parse of what it has gone behind. (fast) -/
import Derived.Test.YtkackccmhghphaaGreatDoorDecParse
import Derived.Test.YtkackccmhghphaaGreatDoorLexWhile
namespace Go.Proofs.YtkackccmhghphaaGreatDoor
open Go.RowKit
set_option linter.unusedVariables false
set_option linter.unusedSimpArgs false
set_option maxRecDepth 100000

theorem ext_list (s : ByteArray) (i k : Nat) : (s.extract i k).data.toList = (s.data.toList.drop i).take (k - i) := by
 rw [ByteArray.data_extract]
 simp [Array.toList_extract, List.extract_eq_take_drop]
theorem idx_none {c : UInt8} : ∀ {l : List UInt8}, (∀ b ∈ l, b ≠ c) → Lib.indexByte l c = -1
 | [], _ => rfl
 | b :: l, h => by
  unfold Lib.indexByte
  rw [if_neg (by simpa using h b (List.mem_cons_self ..)), idx_none (fun x hx => h x (List.mem_cons_of_mem _ hx))]
  rfl
theorem idx_at {c : UInt8} {r : List UInt8} : ∀ {l : List UInt8}, (∀ b ∈ l, b ≠ c) → Lib.indexByte (l ++ c :: r) c = l.length
 | [], _ => by unfold Lib.indexByte; simp
 | b :: l, h => by
  rw [List.cons_append]
  unfold Lib.indexByte
  have hr := idx_at (c := c) (r := r) (l := l) (fun x hx => h x (List.mem_cons_of_mem _ hx))
  rw [if_neg (by simpa using h b (List.mem_cons_self ..)), hr]
  have h2 : ¬ ((l.length : Int) == -1) = true := by simp
  rw [if_neg h2]
  simp
theorem dg_ne {b : UInt8} (h : dg b = true) : b ≠ 46 ∧ b ≠ 45 ∧ b ≠ 34 ∧ b ≠ 64 := by
 have := (Cal.digB_iff b).1 h
 refine ⟨?_, ?_, ?_, ?_⟩ <;> (rintro rfl; revert this; decide)
/-- Where a number ends. -/
theorem numE_dot {l : List UInt8} {i k : Nat} {c : UInt8} (hk : spanE dg l i = k) (h1 : l[k]? = some 46) (h2 : l[k + 1]? = some c) (h3 : dg c = true) : numE l i = spanE dg l (k + 1) := by
 unfold numE
 simp only [hk]
 rw [if_pos ⟨h1, by rw [h2]; exact congrArg some h3⟩]
theorem numE_one {l : List UInt8} {i k : Nat} (hk : spanE dg l i = k) (h : ¬ (l[k]? = some 46 ∧ (l[k + 1]?.map dg) = some true)) : numE l i = k := by
 unfold numE
 simp only [hk]
 rw [if_neg h]
theorem take_at (l : List UInt8) (i k : Nat) (hk : i + k ≤ l.length) (p : UInt8 → Bool) (h : ∀ j, i ≤ j → j < i + k → ∃ b, l[j]? = some b ∧ p b = true) : ∀ b ∈ (l.drop i).take k, p b = true := fun b hb => by
 obtain ⟨j, hj⟩ := List.mem_iff_getElem?.1 hb
 rw [List.getElem?_take] at hj
 split at hj
 ·rename_i hjk
  rw [List.getElem?_drop] at hj
  obtain ⟨c, hc, hp⟩ := h (i + j) (by omega) (by omega)
  rw [hj] at hc
  rw [Option.some.inj hc]
  exact hp
 ·cases hj
/-- The text of a number: its digits, with those behind the point. -/
theorem num_parts {l : List UInt8} {i : Nat} {c : UInt8} (hc : l[i]? = some c) (hd : dg c = true) :
  i < numE l i ∧ numE l i ≤ l.length ∧ numD l i ≠ [] ∧ (∀ b ∈ numD l i, dg b = true) ∧ (∀ b ∈ numF l i, dg b = true) ∧ (l.drop i).take (numE l i - i) = numD l i ++ (if numF l i = [] then [] else 46 :: numF l i) := by
 have hil : i < l.length := (List.getElem?_eq_some_iff.1 hc).1
 obtain ⟨k, hk⟩ : ∃ k, spanE dg l i = k := ⟨_, rfl⟩
 have hle := spanE_le (p := dg) (l := l) (i := i) (by omega)
 rw [hk] at hle
 have hik : i < k := by
  have := spanE_yes hc hd
  have h2 := (spanE_le (p := dg) (l := l) (i := i + 1) (by omega)).1
  omega
 have hsp : spanL dg (l.drop i) = k - i := by have : i + spanL dg (l.drop i) = k := hk; omega
 have hD : numD l i = (l.drop i).take (k - i) := by unfold numD; rw [hsp]
 have hDd : ∀ b ∈ numD l i, dg b = true := by
  rw [hD]
  exact take_at l i (k - i) (by omega) dg (fun j h1 h2 => spanE_in _ i j rfl h1 (by rw [hk]; omega))
 have hDn : numD l i ≠ [] := by
  rw [hD]
  intro e
  have := congrArg List.length e
  rw [List.length_take, List.length_drop] at this
  simp at this
  omega
 by_cases hdot : l[k]? = some 46 ∧ (l[k + 1]?.map dg) = some true
 ·obtain ⟨h1, h2⟩ := hdot
  cases h3 : l[k + 1]? with
  | none => rw [h3] at h2; cases h2
  | some c2 =>
   rw [h3] at h2
   have h4 : dg c2 = true := Option.some.inj h2
   have hkl : k + 1 < l.length := (List.getElem?_eq_some_iff.1 h3).1
   obtain ⟨e, he⟩ : ∃ e, spanE dg l (k + 1) = e := ⟨_, rfl⟩
   have hle2 := spanE_le (p := dg) (l := l) (i := k + 1) (by omega)
   rw [he] at hle2
   have hke : k + 1 < e := by
    have := spanE_yes h3 h4
    have h5 := (spanE_le (p := dg) (l := l) (i := k + 1 + 1) (by omega)).1
    omega
   have hE : numE l i = e := by rw [numE_dot hk h1 h3 h4, he]
   have hF : numF l i = (l.drop (k + 1)).take (e - (k + 1)) := by unfold numF; rw [hk, hE, if_neg (by omega)]
   have hFd : ∀ b ∈ numF l i, dg b = true := by
    rw [hF]
    exact take_at l (k + 1) (e - (k + 1)) (by omega) dg (fun j h1 h2 => spanE_in _ (k + 1) j rfl h1 (by rw [he]; omega))
   have hFn : numF l i ≠ [] := by
    rw [hF]
    intro e'
    have := congrArg List.length e'
    rw [List.length_take, List.length_drop] at this
    simp at this
    omega
   refine ⟨by omega, by omega, hDn, hDd, hFd, ?_⟩
   rw [if_neg hFn, hE, hD, hF]
   apply List.ext_getElem?
   intro j
   have hlen : ((l.drop i).take (k - i)).length = k - i := by rw [List.length_take, List.length_drop]; omega
   rw [List.getElem?_append, hlen]
   split
   ·rename_i hj
    rw [List.getElem?_take, List.getElem?_take, if_pos (by omega), if_pos hj]
   ·rename_i hj
    cases hj2 : j - (k - i) with
    | zero =>
     rw [List.getElem?_take, if_pos (by omega), List.getElem?_drop, show i + j = k by omega, h1]
     rfl
    | succ m =>
     rw [List.getElem?_cons_succ, List.getElem?_take, List.getElem?_take, List.getElem?_drop, List.getElem?_drop, show i + j = k + 1 + m by omega]
     by_cases hm : m < e - (k + 1)
     ·rw [if_pos (by omega), if_pos hm]
     ·rw [if_neg (by omega), if_neg hm]
 ·have hE : numE l i = k := numE_one hk hdot
  have hF : numF l i = [] := by unfold numF; rw [hk, hE, if_pos rfl]
  refine ⟨by omega, by omega, hDn, hDd, (by rw [hF]; intro b hb; cases hb), ?_⟩
  rw [hF, if_pos rfl, List.append_nil, hE, hD]

theorem decParse_at (s : ByteArray) (i : Nat) {c : UInt8} (w : World) (hc : s.data.toList[i]? = some c) (hd : dg c = true) (hs : s.size ≤ 1000) :
  Calls Tryz.prog 140 #[.string (s.extract i (numE s.data.toList i))] w fun e w' => e = .returned (decV (decT (numD s.data.toList i) (numF s.data.toList i))) ∧ Below w.heap.size w w' := by
 obtain ⟨h1, h2, h3, h4, h5, h6⟩ := num_parts hc hd
 have hlen : s.data.toList.length = s.size := by simp
 obtain ⟨S, hS⟩ : ∃ S, s.extract i (numE s.data.toList i) = S := ⟨_, rfl⟩
 have hSl := ext_list s i (numE s.data.toList i)
 rw [hS, h6] at hSl
 rw [hS]
 obtain ⟨ds, hds⟩ : ∃ x, numD s.data.toList i = x := ⟨_, rfl⟩
 obtain ⟨fs, hfs⟩ : ∃ x, numF s.data.toList i = x := ⟨_, rfl⟩
 rw [hds, hfs] at hSl
 rw [hds] at h3 h4
 rw [hfs] at h5
 rw [hds, hfs]
 have hSz : S.size = S.data.toList.length := by simp
 have hSz2 : S.size ≤ 1000 := by
  have h7 := ext_list s i (numE s.data.toList i)
  rw [hS] at h7
  rw [hSz, h7, List.length_take, List.length_drop]
  omega
 have hpre : Lib.hasPrefix S.data.toList [45] = false := by
  cases ds with
  | nil => exact absurd rfl h3
  | cons a ds =>
   rw [hSl]
   have := (dg_ne (h4 a (List.mem_cons_self ..))).2.1
   show [45].isPrefixOf (a :: _) = false
   simp [List.isPrefixOf, Ne.symm this]
 by_cases hf : fs = []
 ·subst hf
  rw [if_pos rfl, List.append_nil] at hSl
  refine decParse_core S S ⟨#[]⟩ ds [] false w hSl rfl rfl h3 h4 h5 (by rw [← hSl, ← hSz]; simpa using hSz2) (fun W => cut_none S W (by rw [hSl]; exact idx_none (fun b hb => (dg_ne (h4 b hb)).1))) hpre
 ·rw [if_neg hf] at hSl
  have hix : Lib.indexByte S.data.toList 46 = ds.length := by rw [hSl]; exact idx_at (fun b hb => (dg_ne (h4 b hb)).1)
  have hsl : S.size = ds.length + (fs.length + 1) := by rw [hSz, hSl]; simp
  refine decParse_core S (S.extract 0 ds.length) (S.extract (ds.length + 1) S.size) ds fs true w ?_ ?_ (by cases fs with | nil => exact absurd rfl hf | cons a b => rfl) h3 h4 h5 (by omega) (fun W => cut_some S ds.length W hix (by omega) (by omega)) hpre
  ·rw [ext_list, hSl]; simp
  ·rw [ext_list, hSl, hsl]
   simp
   exact List.take_of_length_le (by omega)

theorem lDgB (b : UInt8) (w : World) : Calls Tryz.prog 105 #[.int .u8 b.toNat] w fun e w' => e = .returned (.bool (dg b)) ∧ Below w.heap.size w w' :=
 (lDg b w).mono fun e w' ⟨h1, h2⟩ => ⟨h1, h2 ▸ Below.refl _ _⟩

set_option maxHeartbeats 4000000 in
theorem lNumber (w0 W : World) (R : Nat) (T : List Res) (s : ByteArray) (i on oc : Nat) (op : Option Addr) (bo bf : Bool) {c : UInt8} (HM0 : Mem w0 W (.box R 114 [.string s, .int .i64 i, .slice op on oc, .bool bo, .bool bf] :: T)) (hc : s.data.toList[i]? = some c) (hd : dg c = true) (hs : s.size ≤ 1000) :
  Calls Tryz.prog 106 #[.pointer (some ⟨R, 0, none⟩)] W fun e w' => e = .returned (decV (decT (numD s.data.toList i) (numF s.data.toList i))) ∧ Mem w0 w' (.box R 114 [.string s, .int .i64 (numE s.data.toList i : Nat), .slice op on oc, .bool bo, .bool bf] :: T) := by
 have HM := Lib.hid HM0
 have hlen : s.data.toList.length = s.size := by simp
 have hil : i < s.size := by rw [← hlen]; exact (List.getElem?_eq_some_iff.1 hc).1
 obtain ⟨n1, n2, -⟩ := num_parts hc hd
 have HP := Lib.hid (fun W => decParse_at s i W hc hd hs)
 obtain ⟨E, hE⟩ : ∃ x, numE s.data.toList i = x := ⟨_, rfl⟩
 rw [hE] at HP n1 n2 ⊢
 rw [hlen] at n2
 obtain ⟨⟨⟨n, sc⟩, ee⟩, hdv⟩ : ∃ x, decT (numD s.data.toList i) (numF s.data.toList i) = x := ⟨_, rfl⟩
 rw [hdv] at HP ⊢
 obtain ⟨nh, hnh⟩ : ∃ x, n / 18446744073709551616 = x := ⟨_, rfl⟩
 obtain ⟨nl, hnl⟩ : ∃ x, n % 18446744073709551616 = x := ⟨_, rfl⟩
 have hv : decV ((n, sc), ee) = .tuple #[.agg #[.bool false, .int .u64 nh, .int .u64 nl, .int .i64 sc], .int .i64 ee] := by rw [← hnh, ← hnl]; rfl
 rw [hv] at HP ⊢
 obtain ⟨k, hk⟩ : ∃ k, spanE dg s.data.toList i = k := ⟨_, rfl⟩
 have hle := spanE_le (p := dg) (l := s.data.toList) (i := i) (by omega)
 rw [hk, hlen] at hle
 have HW1 := Lib.hid (fun W T (h : Mem w0 W (.box R 114 [.string s, .int .i64 i, .slice op on oc, .bool bo, .bool bf] :: T)) => hk ▸ whileDg w0 W R T s i on oc op bo bf h (by omega) hs)
 have hiE : i ≤ E := by omega
 have HDg := Lib.hid (fun b W => lDgB b W)
 by_cases hk1 : k + 1 < s.size
 ·obtain ⟨b1, hb1⟩ : ∃ b, s.data.toList[k]? = some b := ⟨_, List.getElem?_eq_getElem (by omega)⟩
  obtain ⟨b2, hb2⟩ : ∃ b, s.data.toList[k + 1]? = some b := ⟨_, List.getElem?_eq_getElem (by omega)⟩
  have HB1 := Lib.hid hb1
  have HB2 := Lib.hid hb2
  have d1 : decide ((k : Int) + 1 < s.size) = true := decide_eq_true (by omega)
  by_cases hdot : b1 = 46
  ·subst hdot
   have HD2 := Lib.hid (fun W => HDg.out b2 W)
   cases hp : dg b2 with
   | true =>
    have hE2 : spanE dg s.data.toList (k + 1) = E := by rw [← hE]; exact (numE_dot hk hb1 hb2 hp).symm
    have HW2 := Lib.hid (fun W T (h : Mem w0 W (.box R 114 [.string s, .int .i64 ((k : Int) + 1), .slice op on oc, .bool bo, .bool bf] :: T)) => hE2 ▸ whileDg w0 W R T s (k + 1) on oc op bo bf h (by omega) hs)
    rw [hp] at HD2
    clear HM0 hc hd hE hdv hv hk hb1 hb2 hp hE2 hnh hnl
    go_enter Tryz.func106, Tryz.ntmps106
    go_wp2_with (first | (go_at_call 68; (with_reducible refine (HW1.out _ _ (HM.out.perm (List.Perm.swap _ _ _))).mono ?_); rintro e W2 ⟨rfl, hM2⟩; have HM1 := Lib.hid hM2; clear hM2; clear HM; (try clear W1); rename World => W1; have HM := HM1; clear HM1) | ((with_reducible refine igd ?_); (with_reducible refine skip_op ?_ ?_); (exact rfl)) | ((with_reducible refine inilCheck ?_); (refine lnil rfl ?_)) | ((with_reducible refine iload ?_); first | refine ldb1 HM.out 0 rfl rfl rfl ?_ | refine ldb1 HM.out 1 rfl rfl rfl ?_) | ((with_reducible refine istore ?_); (first | ((first | refine stb1 (v := .int _ _) rfl HM.out 0 rfl rfl rfl rfl rfl ?_ | refine stb1 (v := .int _ _) rfl HM.out 1 rfl rfl rfl rfl rfl ?_ | refine stbW rfl HM.out 0 rfl rfl rfl rfl rfl rfl ?_ | refine stbW rfl HM.out 1 rfl rfl rfl rfl rfl rfl ?_); intro W1 HM1; replace HM := Lib.hid HM1; clear HM1; simp only [List.set] at HM) | ((first | refine stbS rfl HM.out 0 rfl rfl rfl rfl rfl rfl ?_ | refine stbS rfl HM.out 1 rfl rfl rfl rfl rfl rfl ?_); intro W1 HM1; replace HM := Lib.hid HM1; clear HM1; simp only [lss, Nat.reduceAdd] at HM))) | ((with_reducible refine ialloc (d := some 2) ?_); refine alb rfl HM.out ?_; intro g2 W1 HM1; replace HM := Lib.hid HM1; clear HM1))
    refine wp_region_mem (by kernel_rfl) (by kernel_rfl) HM.out ?_; intro hNE; (repeat (any_goals (first | ((with_reducible refine qgd ?_); (with_reducible refine skip_q ?_ ?_ ?_); (exact rfl); (rotate_left; (exact (hNE.elim fun p => ⟨p.W, p, rfl⟩)))) | ((with_reducible refine qnilCheck ?_); (refine qnil rfl ?_)) | ((with_reducible refine qload ?_); first | (refine qdb1 HM.out 0 rfl rfl rfl ?_) | (refine qdbW HM.out 0 rfl rfl rfl ?_) | (refine qdbS HM.out 0 rfl rfl rfl ?_; simp only [List.take, List.drop])) | ((with_reducible show wpQuiet _ _ _ _ (Oper.mk _ (Op.call { callee := Callee.value (Operand.func 105), args := _, argTypes := _ }) _ _ _ _ :: _) _); (refine qcall HM.out (fun W hC => HD2.out _) Tryz.func105 rfl rfl rfl ?_)) | ((with_reducible refine qat 31 ?_); (refine qsix rfl rfl rfl HB1.out ?_)) | ((with_reducible refine qat 44 ?_); (refine qsix rfl rfl (i := k + 1) rfl HB2.out ?_)) | go_big_quiet_step (fail) | quiet_step (fail)))); clear hNE; refine wpQuiet_nil ?_; intro W1 HM1; replace HM := Lib.hid HM1; clear HM1
    go_wp2_with (first | (go_at_call 68; (with_reducible refine (HW2.out _ _ HM.out).mono ?_); rintro e W2 ⟨rfl, hM2⟩; have HM1 := Lib.hid hM2; clear hM2; clear HM; (try clear W1); rename World => W1; have HM := HM1; clear HM1) | ((with_reducible refine igd ?_); (with_reducible refine skip_op ?_ ?_); (exact rfl)) | ((with_reducible refine inilCheck ?_); (refine lnil rfl ?_)) | ((with_reducible refine iload ?_); first | refine ldb1 HM.out 0 rfl rfl rfl ?_ | refine ldb1 HM.out 1 rfl rfl rfl ?_) | ((with_reducible refine istore ?_); (first | ((first | refine stb1 (v := .int _ _) rfl HM.out 0 rfl rfl rfl rfl rfl ?_ | refine stb1 (v := .int _ _) rfl HM.out 1 rfl rfl rfl rfl rfl ?_ | refine stbW rfl HM.out 0 rfl rfl rfl rfl rfl rfl ?_ | refine stbW rfl HM.out 1 rfl rfl rfl rfl rfl rfl ?_); intro W1 HM1; replace HM := Lib.hid HM1; clear HM1; simp only [List.set] at HM) | ((first | refine stbS rfl HM.out 0 rfl rfl rfl rfl rfl rfl ?_ | refine stbS rfl HM.out 1 rfl rfl rfl rfl rfl rfl ?_); intro W1 HM1; replace HM := Lib.hid HM1; clear HM1; simp only [lss, Nat.reduceAdd] at HM))) | ((with_reducible refine ialloc (d := some 2) ?_); refine alb rfl HM.out ?_; intro g2 W1 HM1; replace HM := Lib.hid HM1; clear HM1))
    refine wp_region_steps2 [(true, 0), (true, 1), (true, 2), (true, 3), (true, 4), (true, 5), (true, 6), (true, 7), (true, 8), (true, 9), (false, 10), (true, 11), (true, 12), (false, 13), (true, 14)] (by kernel_rfl) (by kernel_rfl) rfl (by kernel_rfl) (fun _ _ _ _ _ h => h) HM.out _ (.cons_cons _ (.cons _ (List.nil_sublist _))) ?_
    intro hNE W1 HM1; replace HM := Lib.hid HM1; clear HM1
    have HS0 := Lib.hid (HM.out.sub (.cons_cons _ (.cons _ (List.nil_sublist _))))
    simp only [wpSteps, List.getElem?_cons_succ, List.getElem?_cons_zero]
    (repeat (first | ((with_reducible refine qnilCheck ?_); (refine qnil rfl ?_)) | ((with_reducible refine wpQuiet_nil ?_); (try dsimp only)) | ((with_reducible refine qload ?_); first | (refine qdb1 HS0.out 0 rfl rfl rfl ?_)) | ((with_reducible refine qat 65 ?_); (refine qssls rfl rfl rfl rfl rfl hiE n2 ?_)) | go_big_quiet_step (fail) | quiet_step (fail)))
    go_wp2_with (first | (go_at_call 140; (with_reducible refine (HP.out _).mono ?_); rintro e W1 ⟨rfl, hb⟩; replace HM := Lib.hid (HM.out.next hb); clear hb))
    refine ⟨⟨⟨_, HM.out.sub (by repeat (first | exact List.nil_sublist _ | with_reducible refine List.Sublist.cons_cons _ ?_ | refine List.Sublist.cons _ ?_))⟩, rfl⟩, ?_⟩
    (try dsimp only)
    (repeat (first | ((with_reducible refine wpQuiet_nil ?_); (try dsimp only)) | go_big_quiet_step (fail) | quiet_step (fail)))
    go_wp2_with (first | ((with_reducible refine istore ?_); (first | ((first | refine stbW rfl HM.out 0 rfl rfl rfl rfl rfl rfl ?_ | refine stbW rfl HM.out 1 rfl rfl rfl rfl rfl rfl ?_); intro W1 HM1; replace HM := Lib.hid HM1; clear HM1; simp only [List.set] at HM) | ((first | refine stbS rfl HM.out 0 rfl rfl rfl rfl rfl rfl ?_ | refine stbS rfl HM.out 1 rfl rfl rfl rfl rfl rfl ?_); intro W1 HM1; replace HM := Lib.hid HM1; clear HM1; simp only [lss, Nat.reduceAdd] at HM))))
    refine ⟨⟨⟨_, HM.out.sub (by repeat (first | exact List.nil_sublist _ | with_reducible refine List.Sublist.cons_cons _ ?_ | refine List.Sublist.cons _ ?_))⟩, rfl⟩, ?_⟩
    (try dsimp only)
    (repeat (first | ((with_reducible refine wpQuiet_nil ?_); (try dsimp only)) | go_big_quiet_step (fail) | quiet_step (fail)))
    clear HS0 hNE
    go_wp2_with fail
    exact bodyPost_ret (res_box_tmp rfl HM.out 1 rfl rfl rfl rfl) rfl ⟨rfl, HM.out.sub (.cons_cons _ (.cons _ (.refl _)))⟩
   | false =>
    have hE2 : k = E := by rw [← hE]; exact (numE_one hk (fun h => by rw [hb2] at h; have := Option.some.inj h.2; rw [hp] at this; cases this)).symm
    subst hE2
    rw [hp] at HD2
    clear HM0 hc hd hE hdv hv hk hb1 hb2 hp hnh hnl
    go_enter Tryz.func106, Tryz.ntmps106
    go_wp2_with (first | (go_at_call 68; (with_reducible refine (HW1.out _ _ (HM.out.perm (List.Perm.swap _ _ _))).mono ?_); rintro e W2 ⟨rfl, hM2⟩; have HM1 := Lib.hid hM2; clear hM2; clear HM; (try clear W1); rename World => W1; have HM := HM1; clear HM1) | ((with_reducible refine igd ?_); (with_reducible refine skip_op ?_ ?_); (exact rfl)) | ((with_reducible refine inilCheck ?_); (refine lnil rfl ?_)) | ((with_reducible refine iload ?_); first | refine ldb1 HM.out 0 rfl rfl rfl ?_ | refine ldb1 HM.out 1 rfl rfl rfl ?_) | ((with_reducible refine istore ?_); (first | ((first | refine stb1 (v := .int _ _) rfl HM.out 0 rfl rfl rfl rfl rfl ?_ | refine stb1 (v := .int _ _) rfl HM.out 1 rfl rfl rfl rfl rfl ?_ | refine stbW rfl HM.out 0 rfl rfl rfl rfl rfl rfl ?_ | refine stbW rfl HM.out 1 rfl rfl rfl rfl rfl rfl ?_); intro W1 HM1; replace HM := Lib.hid HM1; clear HM1; simp only [List.set] at HM) | ((first | refine stbS rfl HM.out 0 rfl rfl rfl rfl rfl rfl ?_ | refine stbS rfl HM.out 1 rfl rfl rfl rfl rfl rfl ?_); intro W1 HM1; replace HM := Lib.hid HM1; clear HM1; simp only [lss, Nat.reduceAdd] at HM))) | ((with_reducible refine ialloc (d := some 2) ?_); refine alb rfl HM.out ?_; intro g2 W1 HM1; replace HM := Lib.hid HM1; clear HM1))
    refine wp_region_mem (by kernel_rfl) (by kernel_rfl) HM.out ?_; intro hNE; (repeat (any_goals (first | ((with_reducible refine qgd ?_); (with_reducible refine skip_q ?_ ?_ ?_); (exact rfl); (rotate_left; (exact (hNE.elim fun p => ⟨p.W, p, rfl⟩)))) | ((with_reducible refine qnilCheck ?_); (refine qnil rfl ?_)) | ((with_reducible refine qload ?_); first | (refine qdb1 HM.out 0 rfl rfl rfl ?_) | (refine qdbW HM.out 0 rfl rfl rfl ?_) | (refine qdbS HM.out 0 rfl rfl rfl ?_; simp only [List.take, List.drop])) | ((with_reducible show wpQuiet _ _ _ _ (Oper.mk _ (Op.call { callee := Callee.value (Operand.func 105), args := _, argTypes := _ }) _ _ _ _ :: _) _); (refine qcall HM.out (fun W hC => HD2.out _) Tryz.func105 rfl rfl rfl ?_)) | ((with_reducible refine qat 31 ?_); (refine qsix rfl rfl rfl HB1.out ?_)) | ((with_reducible refine qat 44 ?_); (refine qsix rfl rfl (i := k + 1) rfl HB2.out ?_)) | go_big_quiet_step (fail) | quiet_step (fail)))); clear hNE; refine wpQuiet_nil ?_; intro W1 HM1; replace HM := Lib.hid HM1; clear HM1
    go_wp2_with fail
    refine wp_region_steps2 [(true, 0), (true, 1), (true, 2), (true, 3), (true, 4), (true, 5), (true, 6), (true, 7), (true, 8), (true, 9), (false, 10), (true, 11), (true, 12), (false, 13), (true, 14)] (by kernel_rfl) (by kernel_rfl) rfl (by kernel_rfl) (fun _ _ _ _ _ h => h) HM.out _ (.cons_cons _ (.cons _ (List.nil_sublist _))) ?_
    intro hNE W1 HM1; replace HM := Lib.hid HM1; clear HM1
    have HS0 := Lib.hid (HM.out.sub (.cons_cons _ (.cons _ (List.nil_sublist _))))
    simp only [wpSteps, List.getElem?_cons_succ, List.getElem?_cons_zero]
    (repeat (first | ((with_reducible refine qnilCheck ?_); (refine qnil rfl ?_)) | ((with_reducible refine wpQuiet_nil ?_); (try dsimp only)) | ((with_reducible refine qload ?_); first | (refine qdb1 HS0.out 0 rfl rfl rfl ?_)) | ((with_reducible refine qat 65 ?_); (refine qssls rfl rfl rfl rfl rfl hiE n2 ?_)) | go_big_quiet_step (fail) | quiet_step (fail)))
    go_wp2_with (first | (go_at_call 140; (with_reducible refine (HP.out _).mono ?_); rintro e W1 ⟨rfl, hb⟩; replace HM := Lib.hid (HM.out.next hb); clear hb))
    refine ⟨⟨⟨_, HM.out.sub (by repeat (first | exact List.nil_sublist _ | with_reducible refine List.Sublist.cons_cons _ ?_ | refine List.Sublist.cons _ ?_))⟩, rfl⟩, ?_⟩
    (try dsimp only)
    (repeat (first | ((with_reducible refine wpQuiet_nil ?_); (try dsimp only)) | go_big_quiet_step (fail) | quiet_step (fail)))
    go_wp2_with (first | ((with_reducible refine istore ?_); (first | ((first | refine stbW rfl HM.out 0 rfl rfl rfl rfl rfl rfl ?_ | refine stbW rfl HM.out 1 rfl rfl rfl rfl rfl rfl ?_); intro W1 HM1; replace HM := Lib.hid HM1; clear HM1; simp only [List.set] at HM) | ((first | refine stbS rfl HM.out 0 rfl rfl rfl rfl rfl rfl ?_ | refine stbS rfl HM.out 1 rfl rfl rfl rfl rfl rfl ?_); intro W1 HM1; replace HM := Lib.hid HM1; clear HM1; simp only [lss, Nat.reduceAdd] at HM))))
    refine ⟨⟨⟨_, HM.out.sub (by repeat (first | exact List.nil_sublist _ | with_reducible refine List.Sublist.cons_cons _ ?_ | refine List.Sublist.cons _ ?_))⟩, rfl⟩, ?_⟩
    (try dsimp only)
    (repeat (first | ((with_reducible refine wpQuiet_nil ?_); (try dsimp only)) | go_big_quiet_step (fail) | quiet_step (fail)))
    clear HS0 hNE
    go_wp2_with fail
    exact bodyPost_ret (res_box_tmp rfl HM.out 1 rfl rfl rfl rfl) rfl ⟨rfl, HM.out.sub (.cons_cons _ (.cons _ (.refl _)))⟩
  ·have hE2 : k = E := by rw [← hE]; exact (numE_one hk (fun h => by rw [hb1] at h; exact hdot (Option.some.inj h.1))).symm
   subst hE2
   have hq : ((b1.toNat : Int) == 46) = false := by simpa using fun e : (b1.toNat : Int) = 46 => hdot (UInt8.toNat_inj.1 (by show b1.toNat = 46; omega))
   clear HM0 hc hd hE hdv hv hk hb1 hb2 hnh hnl hdot
   go_enter Tryz.func106, Tryz.ntmps106
   go_wp2_with (first | (go_at_call 68; (with_reducible refine (HW1.out _ _ (HM.out.perm (List.Perm.swap _ _ _))).mono ?_); rintro e W2 ⟨rfl, hM2⟩; have HM1 := Lib.hid hM2; clear hM2; clear HM; (try clear W1); rename World => W1; have HM := HM1; clear HM1) | ((with_reducible refine igd ?_); (with_reducible refine skip_op ?_ ?_); (exact rfl)) | ((with_reducible refine inilCheck ?_); (refine lnil rfl ?_)) | ((with_reducible refine iload ?_); first | refine ldb1 HM.out 0 rfl rfl rfl ?_ | refine ldb1 HM.out 1 rfl rfl rfl ?_) | ((with_reducible refine istore ?_); (first | ((first | refine stb1 (v := .int _ _) rfl HM.out 0 rfl rfl rfl rfl rfl ?_ | refine stb1 (v := .int _ _) rfl HM.out 1 rfl rfl rfl rfl rfl ?_ | refine stbW rfl HM.out 0 rfl rfl rfl rfl rfl rfl ?_ | refine stbW rfl HM.out 1 rfl rfl rfl rfl rfl rfl ?_); intro W1 HM1; replace HM := Lib.hid HM1; clear HM1; simp only [List.set] at HM) | ((first | refine stbS rfl HM.out 0 rfl rfl rfl rfl rfl rfl ?_ | refine stbS rfl HM.out 1 rfl rfl rfl rfl rfl rfl ?_); intro W1 HM1; replace HM := Lib.hid HM1; clear HM1; simp only [lss, Nat.reduceAdd] at HM))) | ((with_reducible refine ialloc (d := some 2) ?_); refine alb rfl HM.out ?_; intro g2 W1 HM1; replace HM := Lib.hid HM1; clear HM1))
   refine wp_region_mem (by kernel_rfl) (by kernel_rfl) HM.out ?_; intro hNE; (repeat (any_goals (first | ((with_reducible refine qgd ?_); (with_reducible refine skip_q ?_ ?_ ?_); (exact rfl); (rotate_left; (exact (hNE.elim fun p => ⟨p.W, p, rfl⟩)))) | ((with_reducible refine qnilCheck ?_); (refine qnil rfl ?_)) | ((with_reducible refine qload ?_); first | (refine qdb1 HM.out 0 rfl rfl rfl ?_) | (refine qdbW HM.out 0 rfl rfl rfl ?_) | (refine qdbS HM.out 0 rfl rfl rfl ?_; simp only [List.take, List.drop])) | ((with_reducible refine qat 31 ?_); (refine qsix rfl rfl rfl HB1.out ?_)) | go_big_quiet_step (fail) | quiet_step (fail)))); clear hNE; refine wpQuiet_nil ?_; intro W1 HM1; replace HM := Lib.hid HM1; clear HM1
   go_wp2_with fail
   refine wp_region_steps2 [(true, 0), (true, 1), (true, 2), (true, 3), (true, 4), (true, 5), (true, 6), (true, 7), (true, 8), (true, 9), (false, 10), (true, 11), (true, 12), (false, 13), (true, 14)] (by kernel_rfl) (by kernel_rfl) rfl (by kernel_rfl) (fun _ _ _ _ _ h => h) HM.out _ (.cons_cons _ (.cons _ (List.nil_sublist _))) ?_
   intro hNE W1 HM1; replace HM := Lib.hid HM1; clear HM1
   have HS0 := Lib.hid (HM.out.sub (.cons_cons _ (.cons _ (List.nil_sublist _))))
   simp only [wpSteps, List.getElem?_cons_succ, List.getElem?_cons_zero]
   (repeat (first | ((with_reducible refine qnilCheck ?_); (refine qnil rfl ?_)) | ((with_reducible refine wpQuiet_nil ?_); (try dsimp only)) | ((with_reducible refine qload ?_); first | (refine qdb1 HS0.out 0 rfl rfl rfl ?_)) | ((with_reducible refine qat 65 ?_); (refine qssls rfl rfl rfl rfl rfl hiE n2 ?_)) | go_big_quiet_step (fail) | quiet_step (fail)))
   go_wp2_with (first | (go_at_call 140; (with_reducible refine (HP.out _).mono ?_); rintro e W1 ⟨rfl, hb⟩; replace HM := Lib.hid (HM.out.next hb); clear hb))
   refine ⟨⟨⟨_, HM.out.sub (by repeat (first | exact List.nil_sublist _ | with_reducible refine List.Sublist.cons_cons _ ?_ | refine List.Sublist.cons _ ?_))⟩, rfl⟩, ?_⟩
   (try dsimp only)
   (repeat (first | ((with_reducible refine wpQuiet_nil ?_); (try dsimp only)) | go_big_quiet_step (fail) | quiet_step (fail)))
   go_wp2_with (first | ((with_reducible refine istore ?_); (first | ((first | refine stbW rfl HM.out 0 rfl rfl rfl rfl rfl rfl ?_ | refine stbW rfl HM.out 1 rfl rfl rfl rfl rfl rfl ?_); intro W1 HM1; replace HM := Lib.hid HM1; clear HM1; simp only [List.set] at HM) | ((first | refine stbS rfl HM.out 0 rfl rfl rfl rfl rfl rfl ?_ | refine stbS rfl HM.out 1 rfl rfl rfl rfl rfl rfl ?_); intro W1 HM1; replace HM := Lib.hid HM1; clear HM1; simp only [lss, Nat.reduceAdd] at HM))))
   refine ⟨⟨⟨_, HM.out.sub (by repeat (first | exact List.nil_sublist _ | with_reducible refine List.Sublist.cons_cons _ ?_ | refine List.Sublist.cons _ ?_))⟩, rfl⟩, ?_⟩
   (try dsimp only)
   (repeat (first | ((with_reducible refine wpQuiet_nil ?_); (try dsimp only)) | go_big_quiet_step (fail) | quiet_step (fail)))
   clear HS0 hNE
   go_wp2_with fail
   exact bodyPost_ret (res_box_tmp rfl HM.out 1 rfl rfl rfl rfl) rfl ⟨rfl, HM.out.sub (.cons_cons _ (.cons _ (.refl _)))⟩
 ·have hE2 : k = E := by rw [← hE]; exact (numE_one hk (fun h => by rw [List.getElem?_eq_none (show s.data.toList.length ≤ k + 1 by omega)] at h; exact absurd h.2 (by simp))).symm
  subst hE2
  have d1 : decide ((k : Int) + 1 < s.size) = false := decide_eq_false (by omega)
  clear HM0 hc hd hE hdv hv hk hnh hnl
  go_enter Tryz.func106, Tryz.ntmps106
  go_wp2_with (first | (go_at_call 68; (with_reducible refine (HW1.out _ _ (HM.out.perm (List.Perm.swap _ _ _))).mono ?_); rintro e W2 ⟨rfl, hM2⟩; have HM1 := Lib.hid hM2; clear hM2; clear HM; (try clear W1); rename World => W1; have HM := HM1; clear HM1) | ((with_reducible refine igd ?_); (with_reducible refine skip_op ?_ ?_); (exact rfl)) | ((with_reducible refine inilCheck ?_); (refine lnil rfl ?_)) | ((with_reducible refine iload ?_); first | refine ldb1 HM.out 0 rfl rfl rfl ?_ | refine ldb1 HM.out 1 rfl rfl rfl ?_) | ((with_reducible refine istore ?_); (first | ((first | refine stb1 (v := .int _ _) rfl HM.out 0 rfl rfl rfl rfl rfl ?_ | refine stb1 (v := .int _ _) rfl HM.out 1 rfl rfl rfl rfl rfl ?_ | refine stbW rfl HM.out 0 rfl rfl rfl rfl rfl rfl ?_ | refine stbW rfl HM.out 1 rfl rfl rfl rfl rfl rfl ?_); intro W1 HM1; replace HM := Lib.hid HM1; clear HM1; simp only [List.set] at HM) | ((first | refine stbS rfl HM.out 0 rfl rfl rfl rfl rfl rfl ?_ | refine stbS rfl HM.out 1 rfl rfl rfl rfl rfl rfl ?_); intro W1 HM1; replace HM := Lib.hid HM1; clear HM1; simp only [lss, Nat.reduceAdd] at HM))) | ((with_reducible refine ialloc (d := some 2) ?_); refine alb rfl HM.out ?_; intro g2 W1 HM1; replace HM := Lib.hid HM1; clear HM1))
  refine wp_region_mem (by kernel_rfl) (by kernel_rfl) HM.out ?_; intro hNE; (repeat (any_goals (first | ((with_reducible refine qgd ?_); (with_reducible refine skip_q ?_ ?_ ?_); (exact rfl); (rotate_left; (exact (hNE.elim fun p => ⟨p.W, p, rfl⟩)))) | ((with_reducible refine qnilCheck ?_); (refine qnil rfl ?_)) | ((with_reducible refine qload ?_); first | (refine qdb1 HM.out 0 rfl rfl rfl ?_) | (refine qdbW HM.out 0 rfl rfl rfl ?_) | (refine qdbS HM.out 0 rfl rfl rfl ?_; simp only [List.take, List.drop])) | go_big_quiet_step (fail) | quiet_step (fail)))); clear hNE; refine wpQuiet_nil ?_; intro W1 HM1; replace HM := Lib.hid HM1; clear HM1
  go_wp2_with fail
  refine wp_region_steps2 [(true, 0), (true, 1), (true, 2), (true, 3), (true, 4), (true, 5), (true, 6), (true, 7), (true, 8), (true, 9), (false, 10), (true, 11), (true, 12), (false, 13), (true, 14)] (by kernel_rfl) (by kernel_rfl) rfl (by kernel_rfl) (fun _ _ _ _ _ h => h) HM.out _ (.cons_cons _ (.cons _ (List.nil_sublist _))) ?_
  intro hNE W1 HM1; replace HM := Lib.hid HM1; clear HM1
  have HS0 := Lib.hid (HM.out.sub (.cons_cons _ (.cons _ (List.nil_sublist _))))
  simp only [wpSteps, List.getElem?_cons_succ, List.getElem?_cons_zero]
  (repeat (first | ((with_reducible refine qnilCheck ?_); (refine qnil rfl ?_)) | ((with_reducible refine wpQuiet_nil ?_); (try dsimp only)) | ((with_reducible refine qload ?_); first | (refine qdb1 HS0.out 0 rfl rfl rfl ?_)) | ((with_reducible refine qat 65 ?_); (refine qssls rfl rfl rfl rfl rfl hiE n2 ?_)) | go_big_quiet_step (fail) | quiet_step (fail)))
  go_wp2_with (first | (go_at_call 140; (with_reducible refine (HP.out _).mono ?_); rintro e W1 ⟨rfl, hb⟩; replace HM := Lib.hid (HM.out.next hb); clear hb))
  refine ⟨⟨⟨_, HM.out.sub (by repeat (first | exact List.nil_sublist _ | with_reducible refine List.Sublist.cons_cons _ ?_ | refine List.Sublist.cons _ ?_))⟩, rfl⟩, ?_⟩
  (try dsimp only)
  (repeat (first | ((with_reducible refine wpQuiet_nil ?_); (try dsimp only)) | go_big_quiet_step (fail) | quiet_step (fail)))
  go_wp2_with (first | ((with_reducible refine istore ?_); (first | ((first | refine stbW rfl HM.out 0 rfl rfl rfl rfl rfl rfl ?_ | refine stbW rfl HM.out 1 rfl rfl rfl rfl rfl rfl ?_); intro W1 HM1; replace HM := Lib.hid HM1; clear HM1; simp only [List.set] at HM) | ((first | refine stbS rfl HM.out 0 rfl rfl rfl rfl rfl rfl ?_ | refine stbS rfl HM.out 1 rfl rfl rfl rfl rfl rfl ?_); intro W1 HM1; replace HM := Lib.hid HM1; clear HM1; simp only [lss, Nat.reduceAdd] at HM))))
  refine ⟨⟨⟨_, HM.out.sub (by repeat (first | exact List.nil_sublist _ | with_reducible refine List.Sublist.cons_cons _ ?_ | refine List.Sublist.cons _ ?_))⟩, rfl⟩, ?_⟩
  (try dsimp only)
  (repeat (first | ((with_reducible refine wpQuiet_nil ?_); (try dsimp only)) | go_big_quiet_step (fail) | quiet_step (fail)))
  clear HS0 hNE
  go_wp2_with fail
  exact bodyPost_ret (res_box_tmp rfl HM.out 1 rfl rfl rfl rfl) rfl ⟨rfl, HM.out.sub (.cons_cons _ (.cons _ (.refl _)))⟩
end Go.Proofs.YtkackccmhghphaaGreatDoor
