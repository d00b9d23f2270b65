/- Brackets around an expression change nothing; a row of sums is read from the left; what is a sum is a test: in plain Lean. -/
import Derived.Test.YtkackccmhghphaaGreatDoorExprEv
import Derived.Test.YtkackccmhghphaaGreatDoorLexPcs
import Derived.Test.YtkackccmhghphaaGreatDoorExprFold
namespace Go.Proofs.YtkackccmhghphaaGreatDoor
open Go.RowKit
set_option linter.unusedVariables false
set_option linter.unusedSimpArgs false

theorem len_snoc (l : List NodeD) (n : NodeD) : (l ++ [n]).length = l.length + 1 := by rw [List.length_append]; rfl
theorem partsF_one {op : Int} {k : Nat} {d : Int} (t : ThingD) {l : List ThingD} (h : t.sort = wantI op k) : partsF op k d (t :: l) = partsF op (k + 1) (max d t.depth) l := by rw [partsF_cons, if_pos h]
section
variable {a b c : List NodeD} {s s1 s2 s3 d d1 d2 d3 op : Int}
theorem alone_nn (h : Alone a s d) : 0 ≤ d := (foldA_inv h).nn
theorem alone_leaf {n : NodeD} (h1 : fieldsB n = true) (h2 : kidsB n.op n.kids = true) (h3 : n.kids = 0) (h4 : n.op ≠ 27) : Alone [n] (sortI n.op) 1 := by
 have hst : stepC [n] [] 0 n = some ([⟨sortI n.op, 0 + 1, 0⟩], 0 + 1) := StepOk.step (d := 0) ⟨h1, h2, by rw [h3]; exact Nat.le_refl _, by simp [partsF], fun x => h4 x.1, by simp⟩
 show foldC [n] [n] 0 [] 0 = _
 rw [foldC_cons, hst]
 rfl
theorem alone_one {n : NodeD} (ha : Alone a s1 d1) (h1 : fieldsB n = true) (h2 : kidsB n.op n.kids = true) (h3 : n.kids = 1) (h4 : n.op ≠ 27) (w1 : s1 = wantI n.op 0) : Alone (a ++ [n]) (sortI n.op) (d1 + 1) := by
 have hn := alone_nn ha
 have hst : stepC a [⟨s1, d1, a.length - 1⟩] a.length n = some ([⟨sortI n.op, d1 + 1, a.length⟩], d1 + 1) := StepOk.step (d := d1) ⟨h1, h2, by rw [h3]; exact Nat.le_refl _, by
  rw [h3]
  show partsF n.op 0 0 [⟨s1, d1, a.length - 1⟩] = _
  rw [partsF_one ⟨s1, d1, a.length - 1⟩ w1]
  show some (max 0 d1) = some d1
  rw [show max 0 d1 = d1 by omega], fun x => h4 x.1, by rw [h3]; rfl⟩
 unfold Alone
 rw [foldA_snoc, show foldA a = _ from ha]
 show (stepC a [⟨s1, d1, a.length - 1⟩] a.length n).elim none (fun y => some (y.1, max d1 y.2)) = _
 rw [hst, List.length_append, List.length_singleton]
 show (some ([(⟨sortI n.op, d1 + 1, a.length⟩ : ThingD)], max d1 (d1 + 1)) : Option (List ThingD × Int)) = _
 rw [show max d1 (d1 + 1) = d1 + 1 by omega, Nat.add_sub_cancel]
theorem alone_two {n : NodeD} (ha : Alone a s1 d1) (hb : Alone b s2 d2) (h1 : fieldsB n = true) (h2 : kidsB n.op n.kids = true) (h3 : n.kids = 2) (h4 : n.op ≠ 27) (w1 : s1 = wantI n.op 0) (w2 : s2 = wantI n.op 1) : Alone (a ++ b ++ [n]) (sortI n.op) (max d1 d2 + 1) := by
 have hn := alone_nn ha
 have hm := alone_nn hb
 have hab := foldA_app ha hb
 have hst : stepC (a ++ b) ([⟨s1, d1, a.length - 1⟩] ++ [⟨s2, d2, b.length - 1⟩].map (sh a.length)) (a ++ b).length n = some ([⟨sortI n.op, max d1 d2 + 1, (a ++ b).length⟩], max d1 d2 + 1) := StepOk.step (d := max d1 d2) ⟨h1, h2, by rw [h3]; exact Nat.le_refl _, by
  rw [h3]
  show partsF n.op 0 0 [⟨s1, d1, a.length - 1⟩, sh a.length ⟨s2, d2, b.length - 1⟩] = _
  rw [partsF_one ⟨s1, d1, a.length - 1⟩ w1, partsF_one (sh a.length ⟨s2, d2, b.length - 1⟩) w2]
  show some (max (max 0 d1) d2) = some (max d1 d2)
  rw [show max (max 0 d1) d2 = max d1 d2 by omega], fun x => h4 x.1, by rw [h3]; rfl⟩
 unfold Alone
 rw [foldA_snoc, hab]
 show (stepC (a ++ b) ([⟨s1, d1, a.length - 1⟩] ++ [⟨s2, d2, b.length - 1⟩].map (sh a.length)) (a ++ b).length n).elim none (fun y => some (y.1, max (max d1 d2) y.2)) = _
 rw [hst, len_snoc (a ++ b) n]
 show (some ([(⟨sortI n.op, max d1 d2 + 1, (a ++ b).length⟩ : ThingD)], max (max d1 d2) (max d1 d2 + 1)) : Option (List ThingD × Int)) = _
 rw [show max (max d1 d2) (max d1 d2 + 1) = max d1 d2 + 1 by omega, Nat.add_sub_cancel]
end
def tOp : TokD := ⟨6, ⟨#[40]⟩, 0, 0, 0, 0⟩
def tCl : TokD := ⟨6, ⟨#[41]⟩, 0, 0, 0, 0⟩
def tMi : TokD := ⟨6, ⟨#[45]⟩, 0, 0, 0, 0⟩
def tOne : TokD := ⟨1, ⟨#[]⟩, 1, 0, 0, 0⟩
theorem lex_cl : lexF ⟨#[41]⟩ = ([tCl], 0) := by kernel_rfl
theorem lex_mi : lexF ⟨#[45]⟩ = ([tMi], 0) := by kernel_rfl
theorem lex_one : lexF ⟨#[49]⟩ = ([tOne], 0) := by kernel_rfl
section
variable {L : List TokD} {i : Nat} {t : TokD} {s : List UInt8}
theorem isT_at (h : L[i]? = some t) (h5 : 5 ≤ t.kind) (hx : t.text.data.toList = s) : isT L i s = true := by
 unfold isT sgT
 rw [h]
 simp only
 rw [if_pos h5, ByteArray.toList_eq, hx]
 exact beq_self_eq_true _
theorem isT_num (h : L[i]? = some t) (h5 : t.kind < 5) (hs : s ≠ []) : isT L i s = false := by
 cases hb : isT L i s with
 | false => rfl
 | true =>
  obtain ⟨u, hu, h5', -⟩ := isT_tok hb hs
  rw [h] at hu
  cases hu
  omega
theorem FinT.end_ (h : L.length ≤ i) : FinT L i := .inl (by rw [sgT_none h, ByteArray.toList_eq])
end
/-- The tokens of what is put in brackets. -/
theorem lex_br {s u : ByteArray} {T : List TokD} (hs : lexF s = (T, 0)) (hsz : s.size ≤ 900) (hu : u.data.toList = [40] ++ s.data.toList ++ [41]) : ∃ ts, lexF u = (ts, 0) ∧ ts.map noAt = ([tOp] ++ (T ++ tCl :: [])).map noAt := by
 have hsl : s.data.toList.length = s.size := by simp
 have hul : u.data.toList.length = u.size := by simp
 obtain ⟨ts, h1, h2⟩ := lexF_pcs (u := u) (l := [.opn, .txt s T, .txt ⟨#[41]⟩ [tCl]]) (by rw [hu]; simp [Pc.bs]) (by rw [← hul, hu]; simp; omega) ⟨hs, rfl, lex_cl, rfl, trivial⟩
 exact ⟨ts, h1, by rw [h2]; rfl⟩
theorem br_one {s u : ByteArray} {a : List NodeD} (hs : parseF s false = (a, 0)) (hsz : s.size ≤ 900) (hu : u.data.toList = [40] ++ s.data.toList ++ [41]) : parseF u false = (a, 0) := by
 obtain ⟨n, hl, hg, hc⟩ := parse_ok hs
 have hK := lexF_knd s
 generalize (lexF s).1 = T at hl hg hK
 have hE : Ev ([tOp] ++ (T ++ tCl :: [])) .expr 1 a n (1 + T.length) (T.length * 16 + 12) := ev_mid (N := .expr) (f := T.length * 16 + 12) hK ⟨rfl, rfl⟩ trivial (by simp) hg rfl rfl rfl
 have hlen : ([tOp] ++ (T ++ tCl :: [])).length = T.length + 2 := by simp
 have h0 : isT ([tOp] ++ (T ++ tCl :: [])) 0 [40] = true := isT_at (t := tOp) rfl (by decide) rfl
 have h1 : isT ([tOp] ++ (T ++ tCl :: [])) (1 + T.length) [41] = true := isT_at (t := tCl) (by rw [List.getElem?_append_right (by simp), show 1 + T.length - [tOp].length = T.length by simp, List.getElem?_append_right (Nat.le_refl _), Nat.sub_self]; rfl) (by decide) rfl
 have hP := ev_all (ev_par h0 hE h1) (FinT.end_ (by rw [hlen]; omega)) (isT_not h0 (by decide)) (isT_not h0 (by decide))
 rw [parse_of (tests := false) (l := a) (n := 0) (f := T.length * 16 + 24) (lex_br hl hsz hu) (by rw [hlen, show T.length + 2 = 1 + T.length + 1 by omega]; exact hP.mono (by omega)) (by rw [hlen]; omega), if_pos hc]
theorem alone_want {a : List NodeD} {d : Int} (h : Alone a 1 d) : Alone (a ++ a ++ [nOp 10 2] ++ [nNum tOne] ++ [nOp 10 2]) 1 (max (max d d + 1) 1 + 1) :=
 alone_two (n := nOp 10 2) (alone_two (n := nOp 10 2) h h (by kernel_rfl) (by kernel_rfl) rfl (by decide) rfl rfl) (alone_leaf (n := nNum tOne) (by kernel_rfl) (by kernel_rfl) rfl (by decide)) (by kernel_rfl) (by kernel_rfl) rfl (by decide) rfl rfl
/-- (s) - (s) - 1. -/
theorem br_sum {s v : ByteArray} {a : List NodeD} (hs : parseF s false = (a, 0)) (hsz : s.size ≤ 400) (ha : a.length ≤ 140) (hv : v.data.toList = [40] ++ s.data.toList ++ [41, 32, 45, 32, 40] ++ s.data.toList ++ [41, 32, 45, 32, 49]) :
  parseF v false = ([], 7) ∨ parseF v false = (a ++ a ++ [nOp 10 2] ++ [nNum tOne] ++ [nOp 10 2], 0) := by
 obtain ⟨n, hl, hg, hc⟩ := parse_ok hs
 have hK := lexF_knd s
 generalize (lexF s).1 = T at hl hg hK
 have hsl : s.data.toList.length = s.size := by simp
 have hvl : v.data.toList.length = v.size := by simp
 obtain ⟨ts, x1, x2⟩ := lexF_pcs (u := v) (l := [.opn, .txt s T, .txt ⟨#[41]⟩ [tCl], .blk, .txt ⟨#[45]⟩ [tMi], .blk, .opn, .txt s T, .txt ⟨#[41]⟩ [tCl], .blk, .txt ⟨#[45]⟩ [tMi], .blk, .txt ⟨#[49]⟩ [tOne]]) (by rw [hv]; simp [Pc.bs]) (by rw [← hvl, hv]; simp; omega) ⟨hl, rfl, lex_cl, rfl, lex_mi, rfl, hl, rfl, lex_cl, rfl, lex_mi, rfl, lex_one, rfl, trivial⟩
 obtain ⟨L, hL⟩ : ∃ L, L = [tOp] ++ (T ++ tCl :: (tMi :: tOp :: (T ++ tCl :: [tMi, tOne]))) := ⟨_, rfl⟩
 have hx : ts.map noAt = L.map noAt := by rw [x2, hL]; simp [Pc.ts]; rfl
 have hlen : L.length = 2 * T.length + 7 := by rw [hL]; simp; omega
 have hL2 : L = ([tOp] ++ T ++ [tCl, tMi, tOp]) ++ (T ++ tCl :: [tMi, tOne]) := by rw [hL]; simp
 have hE1 : Ev L .expr 1 a n (1 + T.length) (T.length * 16 + 12) := ev_mid (N := .expr) (f := T.length * 16 + 12) hK ⟨rfl, rfl⟩ trivial (by simp) hg hL rfl rfl
 have hE2 : Ev L .expr (T.length + 4) a n (T.length + 4 + T.length) (T.length * 16 + 12) := ev_mid (N := .expr) (f := T.length * 16 + 12) hK ⟨rfl, rfl⟩ trivial (by simp) hg hL2 (by simp) (by simp)
 have h0 : isT L 0 [40] = true := isT_at (t := tOp) (by rw [hL]; rfl) (by decide) rfl
 have g : ∀ k, L[1 + T.length + k]? = (tCl :: (tMi :: tOp :: (T ++ tCl :: [tMi, tOne])))[k]? := fun k => by
  rw [hL, List.getElem?_append_right (by simp; omega), show 1 + T.length + k - [tOp].length = T.length + k by simp; omega, List.getElem?_append_right (by omega), show T.length + k - T.length = k by omega]
 have g2 : ∀ k, L[T.length + 4 + T.length + k]? = (tCl :: [tMi, tOne])[k]? := fun k => by
  rw [hL2, List.getElem?_append_right (by simp; omega), show T.length + 4 + T.length + k - ([tOp] ++ T ++ [tCl, tMi, tOp]).length = T.length + k by simp; omega, List.getElem?_append_right (by omega), show T.length + k - T.length = k by omega]
 have h1 : isT L (1 + T.length) [41] = true := isT_at (t := tCl) (g 0) (by decide) rfl
 have h2 : isT L (1 + T.length + 1) [45] = true := isT_at (t := tMi) (g 1) (by decide) rfl
 have h3 : isT L (T.length + 3) [40] = true := isT_at (t := tOp) (by rw [show T.length + 3 = 1 + T.length + 2 by omega]; exact g 2) (by decide) rfl
 have h4 : isT L (T.length + 4 + T.length) [41] = true := isT_at (t := tCl) (g2 0) (by decide) rfl
 have h5 : isT L (T.length + 4 + T.length + 1) [45] = true := isT_at (t := tMi) (g2 1) (by decide) rfl
 have h6 : L[T.length + 4 + T.length + 2]? = some tOne := g2 2
 have hF : FinT L (T.length + 4 + T.length + 3) := FinT.end_ (by rw [hlen]; omega)
 have P1 : Ev L .prod 0 a 0 (1 + T.length + 1) (T.length * 16 + 12 + 1 + 2 + 2) := ev_prod (ev_sgn (ev_par h0 hE1 h1) (isT_not h0 (by decide)) (isT_not h2 (by decide))) (isT_not h2 (by decide)) (isT_not h2 (by decide))
 have P2 : Ev L .prod (1 + T.length + 1 + 1) a 0 (T.length + 4 + T.length + 1) (T.length * 16 + 12 + 1 + 2 + 2) := by
  rw [show 1 + T.length + 1 + 1 = T.length + 3 by omega]
  exact ev_prod (ev_sgn (ev_par h3 hE2 h4) (isT_not h3 (by decide)) (isT_not h5 (by decide))) (isT_not h5 (by decide)) (isT_not h5 (by decide))
 have P3 : Ev L .prod (T.length + 4 + T.length + 1 + 1) [nNum tOne] 0 (T.length + 4 + T.length + 3) (1 + 2 + 2) := ev_prod (ev_sgn (ev_num h6 rfl) (isT_num h6 (by decide) (by decide)) (hF.no (by decide))) (hF.no (by decide)) (hF.no (by decide))
 have hS := ev_sum P1 (ev_sumL_sub h2 P2 (ev_sumL_sub h5 P3 (ev_sumL_end (hF.no (by decide)) (hF.no (by decide)))))
 have hA := ev_expr_of (ev_cmp_of hS hF) hF (isT_not h0 (by decide))
 have hp := parse_of (tests := false) (n := 0) (f := T.length * 16 + 40) ⟨ts, x1, hx⟩ (by rw [hlen, show 2 * T.length + 7 = T.length + 4 + T.length + 3 by omega]; exact hA.mono (by omega)) (by rw [hlen]; omega)
 obtain ⟨s', d, hAl, hs', hd, hd0, -, -⟩ := check_zero hc
 have hs1 : s' = 1 := hs'
 subst hs1
 have hck := check_alone (tests := false) (alone_want hAl) (by simp; omega) rfl
 rw [hp]
 rw [hck]
 by_cases h40 : 40 < max (max d d + 1) 1 + 1
 ·rw [if_pos h40]; exact .inl rfl
 ·rw [if_neg h40]; exact .inr rfl
theorem scanL_opn {t : TokD} {r : List TokD} {d : Int} (h : opn t = true) : scanL (t :: r) d = scanL r (d + 1) := by
 show (if opn t = true then _ else _) = _
 rw [if_pos h]
theorem scanL_cls {t : TokD} {r : List TokD} {d : Int} (h : cls t = true) : scanL (t :: r) d = if d - 1 = 0 then .inl false else scanL r (d - 1) := by
 show (if opn t = true then _ else if cls t = true then (if d - 1 = 0 then Sum.inl false else scanL r (d - 1)) else _) = _
 rw [if_neg (by rw [cls_opn h]; decide), if_pos h]
theorem opn_op : opn tOp = true := by
 unfold opn
 rw [ByteArray.toList_eq]
 rfl
theorem cls_cl : cls tCl = true := by
 unfold cls
 rw [ByteArray.toList_eq]
 rfl
/-- ((s)) as tests. -/
theorem br_test {s w : ByteArray} {a : List NodeD} (hs : parseF s false = (a, 0)) (hsz : s.size ≤ 400) (ha : a.length ≤ 140) (hw : w.data.toList = [40, 40] ++ s.data.toList ++ [41, 41]) :
  parseF w true = ([], 7) ∨ parseF w true = (a ++ [nOp 30 1] ++ [nOp 36 1], 0) := by
 obtain ⟨n, hl, hg, hc⟩ := parse_ok hs
 have hK := lexF_knd s
 generalize (lexF s).1 = T at hl hg hK
 have hsl : s.data.toList.length = s.size := by simp
 have hwl : w.data.toList.length = w.size := by simp
 obtain ⟨ts, x1, x2⟩ := lexF_pcs (u := w) (l := [.opn, .opn, .txt s T, .txt ⟨#[41]⟩ [tCl], .txt ⟨#[41]⟩ [tCl]]) (by rw [hw]; simp [Pc.bs]) (by rw [← hwl, hw]; simp; omega) ⟨hl, rfl, lex_cl, rfl, lex_cl, rfl, trivial⟩
 obtain ⟨L, hL⟩ : ∃ L, L = [tOp, tOp] ++ (T ++ tCl :: [tCl]) := ⟨_, rfl⟩
 have hx : ts.map noAt = L.map noAt := by rw [x2, hL]; simp [Pc.ts]; rfl
 have hlen : L.length = T.length + 4 := by rw [hL]; simp
 have hE : Ev L .expr 2 a n (2 + T.length) (T.length * 16 + 12) := ev_mid (N := .expr) (f := T.length * 16 + 12) hK ⟨rfl, rfl⟩ trivial (by simp) hg hL rfl rfl
 have g : ∀ k, L[2 + T.length + k]? = (tCl :: [tCl])[k]? := fun k => by
  rw [hL, List.getElem?_append_right (by simp; omega), show 2 + T.length + k - [tOp, tOp].length = T.length + k by simp; omega, List.getElem?_append_right (by omega), show T.length + k - T.length = k by omega]
 have h0 : isT L 0 [40] = true := isT_at (t := tOp) (by rw [hL]; rfl) (by decide) rfl
 have h1 : isT L 1 [40] = true := isT_at (t := tOp) (by rw [hL]; rfl) (by decide) rfl
 have h2 : isT L (2 + T.length) [41] = true := isT_at (t := tCl) (g 0) (by decide) rfl
 have h3 : isT L (2 + T.length + 1) [41] = true := isT_at (t := tCl) (g 1) (by decide) rfl
 have hF : FinT L (2 + T.length + 1 + 1) := FinT.end_ (by rw [hlen]; omega)
 have E1 := ev_all (ev_par h1 hE h2) (FinT.of h3) (isT_not h1 (by decide)) (isT_not h1 (by decide))
 have hS := ev_sum_of (ev_sgn (ev_par h0 E1 h3) (isT_not h0 (by decide)) (hF.no (by decide))) hF
 have hB := ((G_bal hK _ .expr 0 a n T.length trivial (by simp) hg).op rfl).2 2 (by decide)
 have hseg : seg T 0 T.length = T := by unfold seg; rw [List.drop_zero, Nat.sub_zero, List.take_length]
 rw [hseg] at hB
 have hiv : ivl L 0 = false := by
  rw [ivl_scan, hL, List.drop_zero]
  show toldB (scanL (tOp :: tOp :: (T ++ [tCl, tCl])) 0) = false
  rw [scanL_opn opn_op, scanL_opn opn_op, scanL_app]
  rcases hB with ⟨e, -⟩ | e
  ·cases e
  ·show toldB (scanK (scanL T 2) [tCl, tCl]) = false
   rw [e]
   show toldB (scanL (tCl :: [tCl]) 2) = false
   rw [scanL_cls cls_cl, if_neg (by decide), scanL_cls cls_cl, if_pos (by decide)]
   rfl
 have hT := ev_unary (ev_tests_one (ev_test_is (rel_zero h0 rfl) (by rw [hiv, Bool.and_false]) hS) (hF.no (by decide))) (isT_not h0 (by decide)) (isT_not h0 (by decide))
 have hp := parse_of (tests := true) (n := 0) (f := T.length * 16 + 60) ⟨ts, x1, hx⟩ (by rw [hlen, show T.length + 4 = 2 + T.length + 1 + 1 by omega]; exact hT.mono (by omega)) (by rw [hlen]; omega)
 obtain ⟨s', d, hAl, hs', hd, hd0, -, -⟩ := check_zero hc
 have hs1 : s' = 1 := hs'
 subst hs1
 have hal : Alone (a ++ [nOp 30 1] ++ [nOp 36 1]) 4 (d + 1 + 1) := alone_one (n := nOp 36 1) (alone_one (n := nOp 30 1) hAl (by kernel_rfl) (by kernel_rfl) rfl (by decide) rfl) (by kernel_rfl) (by kernel_rfl) rfl (by decide) rfl
 have hck := check_alone (tests := true) hal (by simp; omega) (.inl rfl)
 rw [hp, hck]
 by_cases h40 : 40 < d + 1 + 1
 ·rw [if_pos h40]; exact .inl rfl
 ·rw [if_neg h40]; exact .inr rfl
end Go.Proofs.YtkackccmhghphaaGreatDoor
