/- How the grammar of expressions reads what is put together: brackets, sums, comparisons, choices; in plain Lean. -/
import Derived.Test.YtkackccmhghphaaGreatDoorExprEmb
namespace Go.Proofs.YtkackccmhghphaaGreatDoor
open Go.RowKit
set_option linter.unusedVariables false
set_option linter.unusedSimpArgs false

section
variable {T : List TokD}
theorem sg_no (i : Nat) : sgT (T.map noAt) i = sgT T i := by
 unfold sgT
 rw [List.getElem?_map]
 cases T[i]? <;> rfl
theorem isT_no (i : Nat) (s : List UInt8) : isT (T.map noAt) i s = isT T i s := by
 unfold isT
 rw [sg_no]
theorem relT_no (i : Nat) : relT (T.map noAt) i = relT T i := by
 unfold relT
 rw [sg_no]
theorem ivl_no (i : Nat) : ivl (T.map noAt) i = ivl T i := by
 rw [ivl_scan, ivl_scan, ← List.map_drop, scanL_no]
theorem G_no : ∀ (f : Nat) (N : NT) (i : Nat), G (T.map noAt) f N i = G T f N i := by
 intro f
 induction f with
 | zero => intro N i; rfl
 | succ f ih =>
  intro N i
  have ih' : ∀ N, G (T.map noAt) f N = G T f N := fun N => funext fun i => ih N i
  cases N <;> simp only [G, isT_no, relT_no, ivl_no, sg_no, ih', List.length_map, List.getElem?_map]
  ·cases T[i]? <;> rfl
  ·cases T[i + 1]? <;> rfl
  ·cases T[i]? <;> rfl
end
/-- With so much fuel or more the grammar reads that. -/
def Ev (L : List TokD) (N : NT) (i : Nat) (l : List NodeD) (n j f : Nat) : Prop := ∀ g, f ≤ g → G L g N i = .ok l n j
/-- What may stand behind a whole expression: nothing, a closing bracket, then, else. -/
def FinT (L : List TokD) (j : Nat) : Prop := (sgT L j).toList = [] ∨ (sgT L j).toList = [41] ∨ (sgT L j).toList = [116, 104, 101, 110] ∨ (sgT L j).toList = [101, 108, 115, 101]
section
variable {L : List TokD} {N : NT} {i j k q f f' f'' n m : Nat} {l a b c r : List NodeD}
theorem Ev.mono (h : Ev L N i l n j f) (hf : f ≤ f') : Ev L N i l n j f' := fun g hg => h g (Nat.le_trans hf hg)
theorem isT_not {s s' : List UInt8} (h : isT L i s = true) (hs : s ≠ s') : isT L i s' = false := by
 cases hb : isT L i s' with
 | false => rfl
 | true => exact absurd (isT_ne h hb) hs
theorem FinT.no (h : FinT L j) {s : List UInt8} (hs : s ≠ [] ∧ s ≠ [41] ∧ s ≠ [116, 104, 101, 110] ∧ s ≠ [101, 108, 115, 101]) : isT L j s = false := by
 cases hb : isT L j s with
 | false => rfl
 | true =>
  unfold isT at hb
  have e := beq_iff_eq.1 hb
  rcases h with h | h | h | h <;> (rw [h] at e; first | exact absurd e.symm hs.1 | exact absurd e.symm hs.2.1 | exact absurd e.symm hs.2.2.1 | exact absurd e.symm hs.2.2.2)
theorem FinT.rel (h : FinT L j) : relT L j = 0 := by
 unfold relT
 rcases h with h | h | h | h <;> (rw [h]; rfl)
theorem FinT.of (h : isT L j [41] = true) : FinT L j := .inr (.inl (beq_iff_eq.1 h))
theorem rel_zero {s : List UInt8} (h : isT L j s = true) (hs : relL s = 0) : relT L j = 0 := by
 unfold relT
 rw [show (sgT L j).toList = s from beq_iff_eq.1 h]
 exact hs
theorem ev_par (h1 : isT L i [40] = true) (hE : Ev L .expr (i + 1) l n j f) (h2 : isT L j [41] = true) : Ev L .sing i l 0 (j + 1) (f + 1) := by
 intro g hg
 obtain ⟨g, rfl⟩ : ∃ k, g = k + 1 := ⟨g - 1, by omega⟩
 obtain ⟨t, ht, h5, -⟩ := isT_tok h1 (by decide)
 simp only [G]
 rw [ht]
 simp only
 rw [if_neg (by omega), if_neg (by omega), if_neg (by omega), if_neg (by omega), isT_not h1 (by decide : ([40] : List UInt8) ≠ [110, 117, 108, 108]), isT_not h1 (by decide : ([40] : List UInt8) ≠ [116, 114, 117, 101]), isT_not h1 (by decide : ([40] : List UInt8) ≠ [102, 97, 108, 115, 101]), if_neg (by decide), if_neg (by decide), if_neg (by decide), if_pos h1, hE g (by omega)]
 show (if isT L j [41] = true then PR.ok l 0 (j + 1) else PR.no) = _
 rw [if_pos h2]
theorem ev_num {t : TokD} (h : L[i]? = some t) (hk : t.kind = 1) : Ev L .sing i [nNum t] 0 (i + 1) 1 := by
 intro g hg
 obtain ⟨g, rfl⟩ : ∃ k, g = k + 1 := ⟨g - 1, by omega⟩
 simp only [G]
 rw [h]
 simp only
 rw [if_pos hk]
theorem ev_pathL_end (h : isT L j [46] = false) : Ev L (.pathL a) j a 0 j 1 := by
 intro g hg
 obtain ⟨g, rfl⟩ : ∃ k, g = k + 1 := ⟨g - 1, by omega⟩
 simp only [G]
 rw [if_neg (by rw [h]; decide)]
theorem ev_prodL_end (h1 : isT L j [42] = false) (h2 : isT L j [47] = false) : Ev L (.prodL a) j a 0 j 1 := by
 intro g hg
 obtain ⟨g, rfl⟩ : ∃ k, g = k + 1 := ⟨g - 1, by omega⟩
 simp only [G]
 rw [if_neg (by rw [h1]; decide), if_neg (by rw [h2]; decide)]
theorem ev_andL_end (h : isT L j [97, 110, 100] = false) : Ev L (.andL a) j a 0 j 1 := by
 intro g hg
 obtain ⟨g, rfl⟩ : ∃ k, g = k + 1 := ⟨g - 1, by omega⟩
 simp only [G]
 rw [if_neg (by rw [h]; decide)]
theorem ev_orL_end (h : isT L j [111, 114] = false) : Ev L (.orL a) j a 0 j 1 := by
 intro g hg
 obtain ⟨g, rfl⟩ : ∃ k, g = k + 1 := ⟨g - 1, by omega⟩
 simp only [G]
 rw [if_neg (by rw [h]; decide)]
theorem ev_testsL_end (h : isT L j [44] = false) : Ev L (.testsL a m) j (a ++ [nOp 36 m]) 0 j 1 := by
 intro g hg
 obtain ⟨g, rfl⟩ : ∃ k, g = k + 1 := ⟨g - 1, by omega⟩
 simp only [G]
 rw [if_neg (by rw [h]; decide)]
theorem ev_sgn (h : Ev L .sing i l n j f) (h1 : isT L i [45] = false) (h2 : isT L j [46] = false) : Ev L .sgn i l 0 j (f + 2) := by
 intro g hg
 obtain ⟨g, rfl⟩ : ∃ k, g = k + 1 := ⟨g - 1, by omega⟩
 simp only [G]
 rw [if_neg (by rw [h1]; decide), h g (by omega)]
 exact ev_pathL_end h2 g (by omega)
theorem ev_prod (h : Ev L .sgn i l n j f) (h1 : isT L j [42] = false) (h2 : isT L j [47] = false) : Ev L .prod i l 0 j (f + 2) := by
 intro g hg
 obtain ⟨g, rfl⟩ : ∃ k, g = k + 1 := ⟨g - 1, by omega⟩
 simp only [G]
 rw [h g (by omega)]
 exact ev_prodL_end h1 h2 g (by omega)
theorem ev_sumL_end (h1 : isT L j [43] = false) (h2 : isT L j [45] = false) : Ev L (.sumL a) j a 0 j 1 := by
 intro g hg
 obtain ⟨g, rfl⟩ : ∃ k, g = k + 1 := ⟨g - 1, by omega⟩
 simp only [G]
 rw [if_neg (by rw [h1]; decide), if_neg (by rw [h2]; decide)]
theorem ev_sumL_sub (h1 : isT L j [45] = true) (hP : Ev L .prod (j + 1) b n k f) (hL : Ev L (.sumL (a ++ b ++ [nOp 10 2])) k r m q f') : Ev L (.sumL a) j r m q (max f f' + 1) := by
 intro g hg
 obtain ⟨g, rfl⟩ : ∃ k, g = k + 1 := ⟨g - 1, by omega⟩
 simp only [G]
 rw [isT_not h1 (by decide : ([45] : List UInt8) ≠ [43]), if_neg (by decide), if_pos h1, hP g (by omega)]
 exact hL g (by omega)
theorem ev_sum (hP : Ev L .prod i a n j f) (hL : Ev L (.sumL a) j r m q f') : Ev L .sum i r m q (max f f' + 1) := by
 intro g hg
 obtain ⟨g, rfl⟩ : ∃ k, g = k + 1 := ⟨g - 1, by omega⟩
 simp only [G]
 rw [hP g (by omega)]
 exact hL g (by omega)
theorem ev_cmp_end (hS : Ev L .sum i a n j f) (h1 : relT L j = 0) (h2 : isT L j [98, 101, 116, 119, 101, 101, 110] = false) (h3 : isT L j [105, 110] = false) : Ev L .cmp i a 0 j (f + 1) := by
 intro g hg
 obtain ⟨g, rfl⟩ : ∃ k, g = k + 1 := ⟨g - 1, by omega⟩
 simp only [G]
 rw [hS g (by omega)]
 show (if relT L j ≠ 0 then _ else if isT L j _ = true then _ else if isT L j _ = true then _ else PR.ok a 0 j) = _
 rw [if_neg (fun x => x h1), if_neg (by rw [h2]; decide), if_neg (by rw [h3]; decide)]
theorem ev_and (h : Ev L .cmp i a n j f) (h1 : isT L j [97, 110, 100] = false) : Ev L .and i a 0 j (f + 2) := by
 intro g hg
 obtain ⟨g, rfl⟩ : ∃ k, g = k + 1 := ⟨g - 1, by omega⟩
 simp only [G]
 rw [h g (by omega)]
 exact ev_andL_end h1 g (by omega)
theorem ev_or (h : Ev L .and i a n j f) (h1 : isT L j [111, 114] = false) : Ev L .or i a 0 j (f + 2) := by
 intro g hg
 obtain ⟨g, rfl⟩ : ∃ k, g = k + 1 := ⟨g - 1, by omega⟩
 simp only [G]
 rw [h g (by omega)]
 exact ev_orL_end h1 g (by omega)
theorem ev_expr (h : Ev L .or i a n j f) (h1 : isT L i [105, 102] = false) : Ev L .expr i a n j (f + 1) := by
 intro g hg
 obtain ⟨g, rfl⟩ : ∃ k, g = k + 1 := ⟨g - 1, by omega⟩
 simp only [G]
 rw [if_neg (by rw [h1]; decide), h g (by omega)]
theorem ev_test_is (h1 : relT L i = 0) (h2 : ((isT L i [91] || isT L i [40]) && ivl L i) = false) (hS : Ev L .sum i a n j f) : Ev L .test i (a ++ [nOp 30 1]) 0 j (f + 1) := by
 intro g hg
 obtain ⟨g, rfl⟩ : ∃ k, g = k + 1 := ⟨g - 1, by omega⟩
 simp only [G]
 rw [if_neg (by rw [h1]; decide), if_neg (by rw [h2]; decide), hS g (by omega)]
 rfl
theorem ev_tests_one (hT : Ev L .test i a n j f) (h1 : isT L j [44] = false) : Ev L .tests i (a ++ [nOp 36 1]) 0 j (f + 2) := by
 intro g hg
 obtain ⟨g, rfl⟩ : ∃ k, g = k + 1 := ⟨g - 1, by omega⟩
 simp only [G]
 rw [hT g (by omega)]
 exact ev_testsL_end (m := 1) h1 g (by omega)
theorem ev_unary (hT : Ev L .tests 0 a n j f) (h1 : isT L 0 [45] = false) (h2 : isT L 0 [110, 111, 116] = false) : Ev L .unary 0 a n j (f + 1) := by
 intro g hg
 obtain ⟨g, rfl⟩ : ∃ k, g = k + 1 := ⟨g - 1, by omega⟩
 simp only [G]
 rw [if_neg (by rw [h1]; exact fun x => by cases x.2), if_neg (by rw [h2]; decide), hT g (by omega)]
/-- A sum, where it ends. -/
theorem ev_sum_of (h : Ev L .sgn i l n j f) (hF : FinT L j) : Ev L .sum i l 0 j (f + 3) :=
 (ev_sum (ev_prod h (hF.no (by decide)) (hF.no (by decide))) (ev_sumL_end (hF.no (by decide)) (hF.no (by decide)))).mono (by omega)
theorem ev_cmp_of (h : Ev L .sum i l n j f) (hF : FinT L j) : Ev L .cmp i l 0 j (f + 1) := ev_cmp_end h hF.rel (hF.no (by decide)) (hF.no (by decide))
theorem ev_expr_of (h : Ev L .cmp i l n j f) (hF : FinT L j) (h1 : isT L i [105, 102] = false) : Ev L .expr i l 0 j (f + 5) :=
 (ev_expr (ev_or (ev_and h (hF.no (by decide))) (hF.no (by decide))) h1).mono (by omega)
/-- A thing by itself as a whole expression. -/
theorem ev_all (h : Ev L .sing i l n j f) (hF : FinT L j) (h0 : isT L i [45] = false) (h1 : isT L i [105, 102] = false) : Ev L .expr i l 0 j (f + 11) :=
 (ev_expr_of (ev_cmp_of (ev_sum_of (ev_sgn h h0 (hF.no (by decide))) hF) hF) hF h1).mono (by omega)
end
/-- Tokens between others, a closing bracket behind them. -/
theorem TEmb.mid (A T : List TokD) (c : TokD) (R : List TokD) (hc : c.kind = 6 ∧ c.text = ⟨#[41]⟩) : TEmb (A ++ (T ++ c :: R)) A.length T := by
 refine ⟨fun i t ht => ⟨t.at_, ?_⟩, fun s hs => ?_⟩
 ·rw [List.getElem?_append_right (by omega), show A.length + i - A.length = i by omega, List.getElem?_append_left (List.getElem?_eq_some_iff.1 ht).1, ht]
 ·refine .inr ?_
  unfold isT sgT at hs
  rw [List.getElem?_append_right (by omega), show A.length + T.length - A.length = T.length by omega, List.getElem?_append_right (by omega), Nat.sub_self] at hs
  simp only [List.getElem?_cons_zero] at hs
  rw [if_pos (by omega), hc.2, ByteArray.toList_eq] at hs
  exact (beq_iff_eq.1 hs).symm
/-- Expressions in brackets among other tokens. -/
theorem ev_mid {A T : List TokD} {c : TokD} {R : List TokD} {l : List NodeD} {n j f : Nat} {N : NT} (hK : KndOk T) (hc : c.kind = 6 ∧ c.text = ⟨#[41]⟩) (hN : N.cOk) (hu : N ≠ .unary) (h : G T f N 0 = .ok l n j) {L : List TokD} (hL : L = A ++ (T ++ c :: R)) {i q : Nat} (hi : i = A.length) (hq : q = A.length + j) : Ev L N i l n q f := by
 subst hL hi hq
 intro g hg
 exact G_emb hK (TEmb.mid A T c R hc) f N 0 l n j (Nat.zero_le _) hN hu h g _ hg (Nat.add_zero _).symm
/-- What is read of a text whose tokens are so. -/
theorem parse_of {u : ByteArray} {L : List TokD} {tests : Bool} {l : List NodeD} {n f : Nat} (hlex : ∃ ts, lexF u = (ts, 0) ∧ ts.map noAt = L.map noAt) (hE : Ev L (topN tests) 0 l n L.length f) (hf : f ≤ L.length * 16 + 12) : parseF u tests = if checkC l tests = 0 then (l, 0) else ([], checkC l tests) := by
 obtain ⟨ts, h1, h2⟩ := hlex
 have hlen : ts.length = L.length := by
  have := congrArg List.length h2
  simpa using this
 have hG : topG ts tests = .ok l n L.length := by
  unfold topG
  rw [← G_no, h2, G_no, hlen]
  exact hE _ hf
 unfold parseF topF
 rw [h1]
 simp only
 rw [hG]
 simp only
 rw [if_pos trivial, if_pos hlen.symm]
/-- What a text that is right comes to. -/
theorem parse_ok {s : ByteArray} {tests : Bool} {a : List NodeD} (h : parseF s tests = (a, 0)) : ∃ n, lexF s = ((lexF s).1, 0) ∧ topG (lexF s).1 tests = .ok a n (lexF s).1.length ∧ checkC a tests = 0 := by
 unfold parseF at h
 split at h
 ·rename_i h0
  unfold topF at h
  cases hg : topG (lexF s).1 tests with
  | out => rw [hg] at h; cases h
  | no => rw [hg] at h; cases h
  | ok l n j =>
   rw [hg] at h
   simp only at h
   split at h
   ·rename_i hj
    split at h
    ·rename_i hc
     cases h
     exact ⟨n, by rw [← h0], by rw [hj], hc⟩
    ·rename_i hc
     exact absurd (congrArg Prod.snd h) hc
   ·cases h
 ·rename_i h0
  exact absurd (congrArg Prod.snd h) h0
theorem parseF_err {s : ByteArray} {tests : Bool} (h : (parseF s tests).2 ≠ 0) : (parseF s tests).1 = [] := by
 revert h
 unfold parseF
 split
 ·unfold topF
  cases hg : topG (lexF s).1 tests with
  | out => intro _; rfl
  | no => intro _; rfl
  | ok l n j =>
   simp only
   split
   ·split
    ·intro h; exact absurd rfl h
    ·intro _; rfl
   ·intro _; rfl
 ·intro _; rfl
end Go.Proofs.YtkackccmhghphaaGreatDoor
