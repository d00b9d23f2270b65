/- Contexts: the reader of expressions. (fast) -/
import Derived.Test.YtkackccmhghphaaGreatDoorExprRd6
namespace Go.Proofs.YtkackccmhghphaaGreatDoor
open Go.RowKit
set_option linter.unusedVariables false
set_option linter.unusedSimpArgs false
set_option maxRecDepth 100000

def strC (x : ByteArray) : List Value := [.string x]
theorem strC_len (x : ByteArray) : (strC x).length = 1 := rfl
def hasS (l : List ByteArray) (x : ByteArray) : Bool := l.any fun y => y.toList == x.toList

set_option maxHeartbeats 8000000 in
theorem sIndex (p : Option Addr) (c : Nat) (l : List ByteArray) (x : ByteArray) (W : World) (h : Sl W p (l.flatMap strC)) (hl : l.length ≤ 2000) :
  Calls Tryz.prog 229 #[.slice p l.length c, .string x] W fun e w' => (∃ k : Int, e = .returned (.int .i64 k) ∧ (hasS l x = true → 0 ≤ k) ∧ (hasS l x = false → k = -1)) ∧ W = w' := by
 have HS := Lib.hid h
 obtain ⟨n, hn⟩ : ∃ n, l.length = n := ⟨_, rfl⟩
 have HN := Lib.hid hn
 rw [hn] at hl ⊢
 clear h hn
 go_enter Tryz.func229, Tryz.ntmps229
 go_wp2_with fail
 go_loop [8] (fun kv => ∃ k : Nat, kv = .int .i64 k ∧ k ≤ n ∧ Hid (∀ (j : Nat) (y : ByteArray), j < k → l[j]? = some y → (y.toList == x.toList) = false)) (fun kv => n - (intOf kv).toNat)
 case atStart => exact ⟨0, rfl, Nat.zero_le _, Lib.hid (fun j y hj => absurd hj (Nat.not_lt_zero _))⟩
 case round =>
  obtain ⟨k, rfl, hk, HF⟩ := hrel
  by_cases hlt : k < n
  ·obtain ⟨y, hy⟩ : ∃ y, l[k]? = some y := ⟨_, List.getElem?_eq_getElem (by rw [HN.out]; exact hlt)⟩
   obtain ⟨a, rfl, ha⟩ := HS.out.some_at strC_len (by decide) (show k < l.length by rw [HN.out]; exact hlt)
   have HE := Lib.hid (show Cells _ (a.add (k * 1)) [.string y] from ha.elem strC 1 strC_len hy)
   have hlt3 := Lib.hid (show k + 1 ≤ n from hlt)
   have d1 : decide ((k : Int) < n) = true := decide_eq_true (by omega)
   cases hb : (x.toList == y.toList) with
   | true =>
    have hb' : (y.toList == x.toList) = true := by simpa using (by simpa using hb : x.toList = y.toList).symm
    have HY := Lib.hid (show hasS l x = true from List.any_eq_true.2 ⟨y, List.mem_of_getElem? hy, hb'⟩)
    clear hy ha hb'
    go_wp2_with (first | ((with_reducible refine iat 14 ?_); (refine ixa rfl rfl rfl hlt ?_)) | ((with_reducible refine iat 15 ?_); (refine ldx0 HE.out rfl rfl ?_)))
    first | go_ret | go_ret2
    exact ⟨⟨_, rfl, (fun _ => by omega), (fun h => by rw [HY.out] at h; cases h)⟩, rfl⟩
   | false =>
    have hb' : (y.toList == x.toList) = false := by
     cases h : (y.toList == x.toList) with
     | false => rfl
     | true => rw [show (x.toList == y.toList) = true by simpa using (by simpa using h : y.toList = x.toList).symm] at hb; cases hb
    have HF2 := Lib.hid (show ∀ (j : Nat) (z : ByteArray), j < k + 1 → l[j]? = some z → (z.toList == x.toList) = false from fun j z hj hz => by
     by_cases e : j = k
     ·subst e; rw [hy] at hz; cases hz; exact hb'
     ·exact HF.out j z (by omega) hz)
    clear hy ha hb' HF
    go_wp2_with (first | ((with_reducible refine iat 14 ?_); (refine ixa rfl rfl rfl hlt ?_)) | ((with_reducible refine iat 15 ?_); (refine ldx0 HE.out rfl rfl ?_)))
    go_round
    case rel => exact ⟨k + 1, by go_num, hlt3.out, HF2⟩
    case measure => have := hlt3.out; simp [intOf]; omega
  ·obtain rfl : k = n := by omega
   have d1 : decide ((k : Int) < k) = false := by simp
   have HY := Lib.hid (show hasS l x = false by
    unfold hasS
    rw [List.any_eq_false]
    intro y hy
    obtain ⟨j, hj⟩ := List.mem_iff_getElem?.1 hy
    rw [HF.out j y (by have := (List.getElem?_eq_some_iff.1 hj).1; have := HN.out; omega) hj]
    decide)
   go_wp2_with fail
   first | go_ret | go_ret2
   exact ⟨⟨_, rfl, (fun h => by rw [HY.out] at h; cases h), fun _ => rfl⟩, rfl⟩

set_option maxHeartbeats 4000000 in
theorem sContains (p : Option Addr) (c : Nat) (l : List ByteArray) (x : ByteArray) (W : World) (h : Sl W p (l.flatMap strC)) (hl : l.length ≤ 2000) :
  Calls Tryz.prog 227 #[.slice p l.length c, .string x] W fun e w' => e = .returned (.bool (hasS l x)) ∧ W = w' := by
 have HI := Lib.hid (sIndex p c l x W h hl)
 cases hb : hasS l x with
 | true =>
  rw [hb] at HI
  clear hb
  go_enter Tryz.func227, Tryz.ntmps227
  go_wp2_with (go_at_call 229; (with_reducible refine HI.out.mono ?_); rintro e W2 ⟨⟨k, rfl, hk, -⟩, rfl⟩; have hk0 := hk rfl; have d0 : decide (0 ≤ k) = true := decide_eq_true hk0; clear hk hk0)
  go_ret
  exact ⟨rfl, rfl⟩
 | false =>
  rw [hb] at HI
  clear hb
  go_enter Tryz.func227, Tryz.ntmps227
  go_wp2_with (go_at_call 229; (with_reducible refine HI.out.mono ?_); rintro e W2 ⟨⟨k, rfl, -, hk⟩, rfl⟩; obtain rfl := hk rfl)
  go_ret
  exact ⟨rfl, rfl⟩

/-- An entry of a context. -/
def entF (T : List TokD) (g : Nat) (ns : List ByteArray) (i : Nat) : PR := match T[i]? with
 | none => .no
 | some t => if t.kind = 4 then if hasS ns t.text then .no else if isT T (i + 1) [58] then (G T g .expr (i + 2)).bind fun b _ j => .ok (b ++ [nTx 28 1 t.text]) 0 j else .no else .no
def EPost (T : List TokD) (r : PR) (w0 : World) (R g2 g4 i : Nat) (tp : Option Addr) (n tc : Nat) (acc : List NodeD) (ns : List ByteArray) (rest : List Res) (e : Ending) (w' : World) : Prop := match r with
 | .out => False
 | .no => e = faultE ∧ Below w0.heap.size w0 w'
 | .ok l k j => ∃ op oc np nc tx, (∃ t, T[i]? = some t ∧ t.text = tx) ∧ (i + 3 ≤ j ∧ j ≤ T.length ∧ l.length ≤ j - i) ∧ e = .returned (.tuple #[]) ∧ Mem w0 w' (.box R 94 [.slice tp n tc, .int .i64 j, .slice op (acc ++ l).length oc] :: .row op oc 36 8 (acc ++ l).length ((acc ++ l).flatMap NodeD.cs) :: .box g2 92 [.pointer (some ⟨R, 0, none⟩)] :: .box g4 172 [.slice np (ns ++ [tx]).length nc] :: .row np nc 9 1 (ns ++ [tx]).length ((ns ++ [tx]).flatMap strC) :: rest)
theorem EPost.no_ {T : List TokD} {r : PR} {w0 : World} {R g2 g4 i : Nat} {tp : Option Addr} {n tc : Nat} {acc : List NodeD} {ns : List ByteArray} {rest : List Res} {w' : World} (h : r = .no) (hb : Below w0.heap.size w0 w') : EPost T r w0 R g2 g4 i tp n tc acc ns rest faultE w' := by
 subst h
 exact ⟨rfl, hb⟩

set_option maxHeartbeats 8000000 in
theorem xEntry {T : List TokD} (hT : TksOk T) (g : Nat) (ihE : XC T 49 .expr g) (w0 W : World) (R g2 g4 : Nat) (tp np : Option Addr) (tc nc i : Nat) (op : Option Addr) (oc : Nat) (acc : List NodeD) (ns : List ByteArray) (rest : List Res) (HTk : Sl w0 tp (T.flatMap TokD.cs)) (HM0 : Mem w0 W (.box R 94 [.slice tp T.length tc, .int .i64 i, .slice op acc.length oc] :: .row op oc 36 8 acc.length (acc.flatMap NodeD.cs) :: .box g2 92 [.pointer (some ⟨R, 0, none⟩)] :: .box g4 172 [.slice np ns.length nc] :: .row np nc 9 1 ns.length (ns.flatMap strC) :: rest))
  (hi : i ≤ T.length) (ha : acc.length ≤ i + 2) (hns : ns.length ≤ i) (hne : entF T g ns i ≠ .out) :
  Calls Tryz.prog 226 #[.pointer (some ⟨g2, 0, none⟩), .pointer (some ⟨g4, 0, none⟩)] W (EPost T (entF T g ns i) w0 R g2 g4 i tp T.length tc acc ns rest) := by
 obtain ⟨r, hr⟩ : ∃ r, entF T g ns i = r := ⟨_, rfl⟩
 rw [hr] at hne ⊢
 have hR2 := hr
 unfold entF at hR2
 clear hr
 have hr : r ≠ .out := hne
 have HM := Lib.hid HM0
 have HTk := Lib.hid HTk
 have hT1 := hT.len
 clear HM0 hne
 cases ht : T[i]? with
 | none =>
  rw [ht] at hR2
  have hno : r = .no := hR2.symm
  have HN := Lib.hid (show ∀ t, T[i]? = some t → t.kind ≠ 4 from fun t h => by rw [ht] at h; cases h)
  clear hR2 ht
  go_enter Tryz.func226, Tryz.ntmps226
  go_wp2_with (first | (go_at_call 208; (with_reducible refine (xNameN T w0 _ R tp tc _ _ _ HTk.out HM.out hT1 HN.out).mono ?_); rintro e W2 ⟨rfl, hb⟩; unfold faultE) | ((with_reducible refine iload ?_); first | refine ldb1 HM.out 0 rfl rfl rfl ?_ | refine ldb1 HM.out 1 rfl rfl rfl ?_ | refine ldb1 HM.out 2 rfl rfl rfl ?_ | refine ldb1 HM.out 3 rfl rfl rfl ?_) | ((with_reducible refine istore ?_); ((first | refine stb1 (v := .slice _ _ _) rfl HM.out 0 rfl rfl rfl rfl rfl ?_ | refine stb1 (v := .slice _ _ _) rfl HM.out 1 rfl rfl rfl rfl rfl ?_ | refine stb1 (v := .slice _ _ _) rfl HM.out 2 rfl rfl rfl rfl rfl ?_ | refine stb1 (v := .slice _ _ _) rfl HM.out 3 rfl rfl rfl rfl rfl ?_); intro W1 HM1; replace HM := Lib.hid HM1; clear HM1; simp only [List.set] at HM)) | ((with_reducible refine ibuildSlice ?_); refine bs1c (v := .string _) rfl HM.out rfl rfl ?_; intro g1 W1 HM1; replace HM := Lib.hid HM1; clear HM1))
  exact ⟨rfl, EPost.no_ (by first | exact hno | rfl) hb⟩
 | some t =>
  rw [ht] at hR2
  simp only at hR2
  by_cases h4 : t.kind = 4
  ·rw [if_pos h4] at hR2
   have HT4 := Lib.hid ht
   have HK4 := Lib.hid h4
   have hi1 := some_lt ht
   have HC := Lib.hid (fun (W : World) (h : Sl W np (ns.flatMap strC)) => sContains np nc ns t.text W h (by omega))
   cases hc : hasS ns t.text with
   | true =>
    rw [hc, if_pos rfl] at hR2
    rw [hc] at HC
    have hno : r = .no := hR2.symm
    clear hR2 ht h4 hc
    go_enter Tryz.func226, Tryz.ntmps226
    go_wp2_with (first | (go_at_call 208; (with_reducible refine (xNameY T w0 _ R tp tc _ _ _ HTk.out HM.out hT1 HT4.out HK4.out).mono ?_); rintro e W2 ⟨rfl, hM2⟩; have HM1 := Lib.hid hM2; clear HM hM2; (try clear W1); rename World => W1; have HM := HM1; clear HM1) | (go_at_call 227; (with_reducible refine (HC.out _ (row_sl (HM.out.get (k := 4) rfl))).mono ?_); rintro e W2 ⟨rfl, rfl⟩) | (go_at_call 50; (with_reducible refine (xFail _).mono ?_); rintro e W2 ⟨rfl, rfl⟩; unfold faultE) | ((with_reducible refine iload ?_); first | refine ldb1 HM.out 0 rfl rfl rfl ?_ | refine ldb1 HM.out 1 rfl rfl rfl ?_ | refine ldb1 HM.out 2 rfl rfl rfl ?_ | refine ldb1 HM.out 3 rfl rfl rfl ?_) | ((with_reducible refine istore ?_); ((first | refine stb1 (v := .slice _ _ _) rfl HM.out 0 rfl rfl rfl rfl rfl ?_ | refine stb1 (v := .slice _ _ _) rfl HM.out 1 rfl rfl rfl rfl rfl ?_ | refine stb1 (v := .slice _ _ _) rfl HM.out 2 rfl rfl rfl rfl rfl ?_ | refine stb1 (v := .slice _ _ _) rfl HM.out 3 rfl rfl rfl rfl rfl ?_); intro W1 HM1; replace HM := Lib.hid HM1; clear HM1; simp only [List.set] at HM)) | ((with_reducible refine ibuildSlice ?_); refine bs1c (v := .string _) rfl HM.out rfl rfl ?_; intro g1 W1 HM1; replace HM := Lib.hid HM1; clear HM1))
    exact ⟨rfl, EPost.no_ (by first | exact hno | rfl) HM.out.below⟩
   | false =>
    rw [hc, if_neg (by simp)] at hR2
    rw [hc] at HC
    have HR := Lib.hid hR2
    obtain ⟨nv, hnv⟩ : ∃ x, ns.flatMap strC = x := ⟨_, rfl⟩
    obtain ⟨m0, hm0⟩ : ∃ m, ns.length = m := ⟨_, rfl⟩
    have HNv := Lib.hid (show nv.take (m0 * 1) ++ [.string t.text] = (ns ++ [t.text]).flatMap strC by
     rw [← hnv, ← hm0, List.take_of_length_le (by rw [flat_len strC 1 strC_len]; exact Nat.le_refl _), List.flatMap_append]
     rfl)
    have HNl := Lib.hid (show (ns ++ [t.text]).length = m0 + 1 by rw [List.length_append, hm0]; rfl)
    rw [hnv, hm0] at HM
    rw [hnv, hm0] at HC
    rw [hm0] at hns
    clear hR2 ht h4 hc hnv hm0
    go_enter Tryz.func226, Tryz.ntmps226
    go_wp2_with (first | (go_at_call 208; (with_reducible refine (xNameY T w0 _ R tp tc _ _ _ HTk.out HM.out hT1 HT4.out HK4.out).mono ?_); rintro e W2 ⟨rfl, hM2⟩; have HM1 := Lib.hid hM2; clear HM hM2; (try clear W1); rename World => W1; have HM := HM1; clear HM1) | (go_at_call 227; (with_reducible refine (HC.out _ (row_sl (HM.out.get (k := 4) rfl))).mono ?_); rintro e W2 ⟨rfl, rfl⟩) | (go_at_call 76; refine must_use HR.out HTk.out (HM.out.sub (.cons _ (.refl _))) (by omega) hT1 (by omega) rfl (fun hno W2 hb => (show _ ∧ _ from ⟨rfl, EPost.no_ hno hb⟩)) ?_; intro hb hR2 W2 hM2; have hlt := isT_lt hb; clear hb; have HR1 := Lib.hid hR2; clear HR hR2; have HR := HR1; clear HR1; have HM1 := Lib.hid hM2; clear HM hM2; (try clear W1); rename World => W1; have HM := HM1; clear HM1) | (refine apb rfl HM.out 5 0 rfl rfl rfl rfl rfl rfl (by omega) (by omega) (by omega) ?_; intro p1 cap1 W1 HM1; replace HM := Lib.hid HM1; clear HM1; simp only [List.set] at HM) | (go_at_call 49; refine XC.use (ihE) HR.out hr HTk.out HM.out (by omega) (by omega) (by (first | omega | (simp only [List.length_append, List.length_cons, List.length_nil]; omega))) (fun hno W2 hb => (show _ ∧ _ from ⟨rfl, EPost.no_ hno hb⟩)) ?_; intro l m j hR2 hG op1 oc1 W2 hM2; have hg := (hG (by simp)).lenc 0 rfl rfl rfl; clear hG; obtain ⟨hL, hF, hJ⟩ := hg; have HR1 := Lib.hid hR2; clear HR hR2; have HR := HR1; clear HR1; have HM1 := Lib.hid hM2; clear HM hM2; (try clear W1); rename World => W1; have HM := HM1; clear HM1) | (go_at_call 148; refine named_use _ _ _ HM.out (by (first | omega | (simp only [List.length_append, List.length_cons, List.length_nil]; omega))) ?_; intro op1 oc1 W2 hM2; have HM1 := Lib.hid hM2; clear HM hM2; (try clear W1); rename World => W1; have HM := HM1; clear HM1) | ((with_reducible refine iload ?_); first | refine ldb1 HM.out 0 rfl rfl rfl ?_ | refine ldb1 HM.out 1 rfl rfl rfl ?_ | refine ldb1 HM.out 2 rfl rfl rfl ?_ | refine ldb1 HM.out 3 rfl rfl rfl ?_ | refine ldb1 HM.out 4 rfl rfl rfl ?_) | ((with_reducible refine istore ?_); ((first | refine stb1 (v := .slice _ _ _) rfl HM.out 0 rfl rfl rfl rfl rfl ?_ | refine stb1 (v := .slice _ _ _) rfl HM.out 1 rfl rfl rfl rfl rfl ?_ | refine stb1 (v := .slice _ _ _) rfl HM.out 2 rfl rfl rfl rfl rfl ?_ | refine stb1 (v := .slice _ _ _) rfl HM.out 3 rfl rfl rfl rfl rfl ?_ | refine stb1 (v := .slice _ _ _) rfl HM.out 4 rfl rfl rfl rfl rfl ?_); intro W1 HM1; replace HM := Lib.hid HM1; clear HM1; simp only [List.set] at HM)) | ((with_reducible refine ibuildSlice ?_); refine bs1c (v := .string _) rfl HM.out rfl rfl ?_; intro g1 W1 HM1; replace HM := Lib.hid HM1; clear HM1))
    first | go_end0 | go_ret | go_ret2
    have HM2 := HM.out
    rw [HNv.out, ← HNl.out] at HM2
    rw [← HR.out]
    exact ⟨op1, oc1, p1, cap1, t.text, ⟨t, HT4.out, rfl⟩, ⟨by omega, by omega, by simp only [List.length_append, List.length_singleton]; omega⟩, rfl, by simpa only [List.append_assoc] using HM2⟩
  ·rw [if_neg h4] at hR2
   have hno : r = .no := hR2.symm
   have HN := Lib.hid (show ∀ t, T[i]? = some t → t.kind ≠ 4 from fun t' h => by rw [ht] at h; cases h; exact h4)
   clear hR2 ht h4
   go_enter Tryz.func226, Tryz.ntmps226
   go_wp2_with (first | (go_at_call 208; (with_reducible refine (xNameN T w0 _ R tp tc _ _ _ HTk.out HM.out hT1 HN.out).mono ?_); rintro e W2 ⟨rfl, hb⟩; unfold faultE) | ((with_reducible refine iload ?_); first | refine ldb1 HM.out 0 rfl rfl rfl ?_ | refine ldb1 HM.out 1 rfl rfl rfl ?_ | refine ldb1 HM.out 2 rfl rfl rfl ?_ | refine ldb1 HM.out 3 rfl rfl rfl ?_) | ((with_reducible refine istore ?_); ((first | refine stb1 (v := .slice _ _ _) rfl HM.out 0 rfl rfl rfl rfl rfl ?_ | refine stb1 (v := .slice _ _ _) rfl HM.out 1 rfl rfl rfl rfl rfl ?_ | refine stb1 (v := .slice _ _ _) rfl HM.out 2 rfl rfl rfl rfl rfl ?_ | refine stb1 (v := .slice _ _ _) rfl HM.out 3 rfl rfl rfl rfl rfl ?_); intro W1 HM1; replace HM := Lib.hid HM1; clear HM1; simp only [List.set] at HM)) | ((with_reducible refine ibuildSlice ?_); refine bs1c (v := .string _) rfl HM.out rfl rfl ?_; intro g1 W1 HM1; replace HM := Lib.hid HM1; clear HM1))
   exact ⟨rfl, EPost.no_ (by first | exact hno | rfl) hb⟩

theorem G_ctxL (T : List TokD) (g : Nat) (a : List NodeD) (ns : List ByteArray) (i : Nat) : G T (g + 1) (.ctxL a ns) i = (entF T g ns i).bind fun l _ j => if isT T j [125] then .ok (a ++ l) (ns.length + 1) (j + 1) else if isT T j [44] then (match T[i]? with | some t => G T g (.ctxL (a ++ l) (ns ++ [t.text])) (j + 1) | none => .no) else .no := by
 simp only [G]
 unfold entF hasS
 cases T[i]? with
 | none => rfl
 | some t =>
  simp only
  split
  ·split
   ·rfl
   ·split
    ·cases G T g .expr (i + 2) with
     | out => rfl
     | no => rfl
     | ok l n j => simp only [PR.bind, List.append_assoc]
    ·rfl
  ·rfl
theorem ctx_use {T : List TokD} (hT : TksOk T) {g : Nat} (ihE : XC T 49 .expr g) {w0 W : World} {R g2 g4 : Nat} {tp np : Option Addr} {tc nc i : Nat} {op : Option Addr} {oc : Nat} {acc a : List NodeD} {ns : List ByteArray} {rest : List Res} {r : PR} {K : Ending → World → Prop} (HR : G T (g + 1) (.ctxL a ns) i = r) (hr : r ≠ .out) (HTk : Sl w0 tp (T.flatMap TokD.cs)) (HM0 : Mem w0 W (.box R 94 [.slice tp T.length tc, .int .i64 i, .slice op (acc ++ a).length oc] :: .row op oc 36 8 (acc ++ a).length ((acc ++ a).flatMap NodeD.cs) :: .box g2 92 [.pointer (some ⟨R, 0, none⟩)] :: .box g4 172 [.slice np ns.length nc] :: .row np nc 9 1 ns.length (ns.flatMap strC) :: rest))
  (hi : i ≤ T.length) (ha : (acc ++ a).length ≤ i + 2) (hns : ns.length ≤ i) (hno : r = .no → ∀ W', Below w0.heap.size w0 W' → K faultE W')
  (hok : ∀ (l : List NodeD) (j : Nat) (tx : ByteArray), (if isT T j [125] = true then PR.ok (a ++ l) (ns.length + 1) (j + 1) else if isT T j [44] = true then G T g (.ctxL (a ++ l) (ns ++ [tx])) (j + 1) else .no) = r → (i + 3 ≤ j ∧ j ≤ T.length ∧ l.length ≤ j - i) → ∀ (op np : Option Addr) (oc nc : Nat) (W' : World), Mem w0 W' (.box R 94 [.slice tp T.length tc, .int .i64 j, .slice op (acc ++ a ++ l).length oc] :: .row op oc 36 8 (acc ++ a ++ l).length ((acc ++ a ++ l).flatMap NodeD.cs) :: .box g2 92 [.pointer (some ⟨R, 0, none⟩)] :: .box g4 172 [.slice np (ns ++ [tx]).length nc] :: .row np nc 9 1 (ns ++ [tx]).length ((ns ++ [tx]).flatMap strC) :: rest) → K (.returned (.tuple #[])) W') :
  Calls Tryz.prog 226 #[.pointer (some ⟨g2, 0, none⟩), .pointer (some ⟨g4, 0, none⟩)] W K := by
 rw [G_ctxL] at HR
 have hne : entF T g ns i ≠ .out := fun e => by rw [e] at HR; exact hr HR.symm
 refine (xEntry hT g ihE w0 W R g2 g4 tp np tc nc i op oc (acc ++ a) ns rest HTk HM0 hi ha hns hne).mono fun e W' hp => ?_
 cases hg : entF T g ns i with
 | out => exact absurd hg hne
 | no =>
  rw [hg] at hp HR
  obtain ⟨rfl, hb⟩ := hp
  exact hno HR.symm W' hb
 | ok l m j =>
  rw [hg] at hp HR
  obtain ⟨op', oc', np', nc', tx, ⟨t, ht, htx⟩, hf, rfl, hM⟩ := hp
  refine hok l j tx ?_ hf op' np' oc' nc' W' hM
  rw [← htx, ← HR]
  simp only [PR.bind, ht]

set_option maxHeartbeats 8000000 in
theorem xListC {T : List TokD} (hT : TksOk T) (fuel : Nat) (ihE : ∀ g, g ≤ fuel → XC T 49 .expr g) (w0 W : World) (R g2 g4 : Nat) (tp np : Option Addr) (tc nc i : Nat) (op : Option Addr) (oc : Nat) (acc : List NodeD) (rest : List Res) (HTk : Sl w0 tp (T.flatMap TokD.cs)) (HM0 : Mem w0 W (.box R 94 [.slice tp T.length tc, .int .i64 i, .slice op acc.length oc] :: .row op oc 36 8 acc.length (acc.flatMap NodeD.cs) :: .box g2 92 [.pointer (some ⟨R, 0, none⟩)] :: .box g4 172 [.slice np 0 nc] :: .row np nc 9 1 0 [] :: rest))
  (hi : i ≤ T.length) (ha : acc.length ≤ i + 2) (hne : G T (fuel + 1) .ctx i ≠ .out) :
  Calls Tryz.prog 219 #[.pointer (some ⟨R, 0, none⟩), .string ⟨#[125]⟩, .func (.func 226) #[] #[.pointer (some ⟨g2, 0, none⟩), .pointer (some ⟨g4, 0, none⟩)]] W fun e w' => ∃ np nc m, XPost (G T (fuel + 1) .ctx i) cntV w0 R tp T.length tc acc (.box g2 92 [.pointer (some ⟨R, 0, none⟩)] :: .box g4 172 [.slice np m nc] :: rest) e w' := by
 obtain ⟨r, hr⟩ : ∃ r, G T (fuel + 1) .ctx i = r := ⟨_, rfl⟩
 rw [hr] at hne ⊢
 have HR := Lib.hid hr
 clear hr
 have hr : r ≠ .out := hne
 have HM := Lib.hid HM0
 have HTk := Lib.hid HTk
 have hT1 := hT.len
 clear HM0 hne
 simp only [G] at HR
 cases hb : isT T i [125] with
 | true =>
  rw [hb, if_pos rfl] at HR
  have HB := Lib.hid hb
  clear hb
  go_enter Tryz.func219, Tryz.ntmps219
  go_wp2_with (first | (go_at_call 72; (with_reducible refine (take_yes HB.out HTk.out HM.out (by omega) hT1 (by omega) rfl).mono ?_); rintro e W2 ⟨rfl, hM2⟩; have HM1 := Lib.hid hM2; clear HM hM2; (try clear W1); rename World => W1; have HM := HM1; clear HM1))
  all_goals (first | go_ret | go_ret2)
  exact ⟨_, _, _, XPost.ok_ (v := cntV) HR.out (by simp only [List.append_nil]) (HM.out.sub (.cons_cons _ (.cons_cons _ (.cons_cons _ (.cons_cons _ (.cons _ (.refl _)))))))⟩
 | false =>
  rw [hb, if_neg (by simp)] at HR
  have HB := Lib.hid hb
  clear hb
  go_enter Tryz.func219, Tryz.ntmps219
  go_wp2_with (first | (go_at_call 72; (with_reducible refine (take_no HB.out HTk.out HM.out (by omega) hT1 (by omega) rfl).mono ?_); rintro e W2 ⟨rfl, hM2⟩; have HM1 := Lib.hid hM2; clear HM hM2; (try clear W1); rename World => W1; have HM := HM1; clear HM1))
  go_loopw [7] (fun nv wr => ∃ (g j oc nc : Nat) (op np : Option Addr) (a : List NodeD) (ns : List ByteArray), nv = .int .i64 ns.length ∧ g ≤ fuel ∧ j ≤ T.length ∧ i + a.length ≤ j ∧ ns.length ≤ j ∧ Hid (G T g (.ctxL a ns) j = r) ∧ Hid (Mem w0 wr (.box R 94 [.slice tp T.length tc, .int .i64 j, .slice op (acc ++ a).length oc] :: .row op oc 36 8 (acc ++ a).length ((acc ++ a).flatMap NodeD.cs) :: .box g2 92 [.pointer (some ⟨R, 0, none⟩)] :: .box g4 172 [.slice np ns.length nc] :: .row np nc 9 1 ns.length (ns.flatMap strC) :: rest))) (fun _ wr => T.length - (intOf ((wr.cell? ⟨R, 1, none⟩).getD undef)).toNat)
  case atStart => exact ⟨fuel, _, _, _, _, _, [], [], rfl, Nat.le_refl _, hi, Nat.le_refl _, Nat.zero_le _, HR, Lib.hid (by rw [List.append_nil]; exact HM.out)⟩
  case round =>
   clear HM HR HB
   obtain ⟨g, j0, oc2, nc2, op2, np2, a, ns, rfl, hg, hj0, hla, hm, HR, HM⟩ := hrel
   have HK := Lib.hid (xrd_at HM.out)
   cases g with
   | zero => exact absurd HR.out.symm hr
   | succ g =>
    go_wp2_with (first | (go_at_call 72; refine take_use HR.out HTk.out HM.out (by omega) hT1 (by omega) rfl ?_ ?_; all_goals (intro hb hR2 W2 hM2; (try have hlt := isT_lt hb); clear hb; have HR1 := Lib.hid hR2; clear HR hR2; have HR := HR1; clear HR1; have HM1 := Lib.hid hM2; clear HM hM2; (try clear W1); rename World => W1; have HM := HM1; clear HM1)) | (go_at_call 226; refine ctx_use hT (ihE g (by omega)) HR.out hr HTk.out HM.out (by omega) (by (first | omega | (simp only [List.length_append, List.length_cons, List.length_nil]; omega))) (by omega) (fun hno W2 hb => (show _ ∧ _ from ⟨rfl, none, 0, 0, XPost.no_ hno hb⟩)) ?_; intro l j tx hR2 hf op1 np1 oc1 nc1 W2 hM2; obtain ⟨hF, hJ, hL⟩ := hf; have HR1 := Lib.hid hR2; clear HR hR2; have HR := HR1; clear HR1; have HM1 := Lib.hid hM2; clear HM hM2; (try clear W1); rename World => W1; have HM := HM1; clear HM1) | (go_at_call 76; refine must_use HR.out HTk.out HM.out (by omega) hT1 (by omega) rfl (fun hno W2 hb => (show _ ∧ _ from ⟨rfl, none, 0, 0, XPost.no_ hno hb⟩)) ?_; intro hb hR2 W2 hM2; have hlt := isT_lt hb; clear hb; have HR1 := Lib.hid hR2; clear HR hR2; have HR := HR1; clear HR1; have HM1 := Lib.hid hM2; clear HM hM2; (try clear W1); rename World => W1; have HM := HM1; clear HM1))
    all_goals first
     |(go_roundw
       case rel => exact ⟨g, _, _, _, _, _, _, _, by (simp only [List.length_append, List.length_cons, List.length_nil]; go_num), by omega, by omega, by (simp only [List.length_append]; omega), by (simp only [List.length_append, List.length_cons, List.length_nil]; omega), HR, Lib.hid (by simpa only [List.append_assoc] using HM.out)⟩
       case measure => rw [xrd_at HM.out, HK.out]; omega)
     |(go_ret; exact ⟨_, _, _, XPost.ok_ (v := cntV) HR.out (by simp only [List.append_assoc]) (HM.out.sub (.cons_cons _ (.cons_cons _ (.cons_cons _ (.cons_cons _ (.cons _ (.refl _)))))))⟩)
     |(go_ret2; exact ⟨_, _, _, XPost.ok_ (v := cntV) HR.out (by simp only [List.append_assoc]) (HM.out.sub (.cons_cons _ (.cons_cons _ (.cons_cons _ (.cons_cons _ (.cons _ (.refl _)))))))⟩)
end Go.Proofs.YtkackccmhghphaaGreatDoor
