/- The parts of what is in form lie one behind the other, each is in form by itself; in plain Lean. -/
import Derived.Test.YtkackccmhghphaaGreatDoorExprFold
import Derived.Test.YtkackccmhghphaaGreatDoorStackA
namespace Go.Proofs.YtkackccmhghphaaGreatDoor
open Go.RowKit
set_option linter.unusedVariables false
set_option linter.unusedSimpArgs false

theorem placeF_step {ns : List NodeD} {m i : Nat} {hv : List Nat} {ps : List (List Nat)} {n : NodeD} (hn : ns[i]? = some n) (hk : kidsB n.op n.kids = true) (hl : n.kids ≤ hv.length) : placeF ns (m + 1) i hv ps = placeF ns m (i + 1) (hv.take (hv.length - n.kids.toNat) ++ [i]) (ps ++ [hv.drop (hv.length - n.kids.toNat)]) := by
 conv => lhs; unfold placeF
 rw [hn]
 simp only
 rw [if_pos (by rw [hk, decide_eq_true hl]; rfl)]
theorem place_fold {ns : List NodeD} : ∀ (r : List NodeD) (i : Nat) (st : List ThingD) (deep : Int) (x : List ThingD × Int) (m : Nat) (ps : List (List Nat)), (∀ j n, r[j]? = some n → ns[i + j]? = some n) → foldC ns r i st deep = some x →
  ∃ ps' : List (List Nat), ps'.length = ps.length + r.length ∧ placeF ns (r.length + m) i (st.map (·.at_)) ps = placeF ns m (i + r.length) (x.1.map (·.at_)) ps'
 | [], i, st, deep, x, m, ps, hr, h => by
  cases h
  exact ⟨ps, by simp, by rw [List.length_nil, Nat.zero_add, Nat.add_zero]⟩
 | n :: r, i, st, deep, x, m, ps, hr, h => by
  rw [foldC_cons] at h
  cases hs : stepC ns st i n with
  | none => rw [hs] at h; cases h
  | some y =>
   rw [hs] at h
   obtain ⟨d, hk⟩ := step_ok hs
   have h0 := kidsB_nonneg hk.kb
   have hle := hk.le
   obtain ⟨ps', h1, h2⟩ := place_fold r (i + 1) y.1 (max deep y.2) x m (ps ++ [(st.map (·.at_)).drop (st.length - n.kids.toNat)]) (fun j u hu => by
    have := hr (j + 1) u (by simpa using hu)
    rw [show i + 1 + j = i + (j + 1) by omega]
    exact this) h
   refine ⟨ps', by rw [h1, List.length_append, List.length_cons, List.length_cons, List.length_nil]; omega, ?_⟩
   have hn : ns[i]? = some n := hr 0 n (by simp)
   rw [List.length_cons, show r.length + 1 + m = (r.length + m) + 1 by omega]
   rw [placeF_step hn hk.kb (by rw [List.length_map]; omega), List.length_map, show i + (r.length + 1) = i + 1 + r.length by omega, ← h2, hk.eq]
   simp
/-- What Parts answers. -/
def partsV (ns : List NodeD) (at_ : Int) : List Nat × Int :=
 if 300 < ns.length then ([], 6) else if at_ < 0 ∨ (ns.length : Int) ≤ at_ then ([], 1) else match placeF ns (at_.toNat + 1) 0 [] [] with
 | none => ([], 2)
 | some x => (x.1.getD at_.toNat [], 0)
/-- What is in form: what its last node stands above. -/
structure Whole (a a' : List NodeD) (n : NodeD) (st : List ThingD) : Prop where
 eq : a = a' ++ [n]
 deep : ∃ D, foldA a' = some (st, D) ∧ D ≤ 40
 kids : n.kids = st.length
 sort : sortI n.op = 1
 parts : ∃ d, partsF n.op 0 0 st = some d
 val : partsV a a'.length = (st.map (·.at_), 0)
 len : a.length ≤ 300
theorem whole_of {a : List NodeD} (h : checkC a false = 0) : ∃ a' n st, Whole a a' n st := by
 obtain ⟨s, d, hA, hs, hd, -, hl, hne⟩ := check_zero h
 obtain ⟨a', n, rfl⟩ : ∃ p' n, a = p' ++ [n] := ⟨a.dropLast, a.getLast hne, (List.dropLast_concat_getLast _).symm⟩
 have hA' := hA
 unfold Alone at hA
 rw [foldA_snoc] at hA
 cases hf : foldA a' with
 | none => rw [hf] at hA; cases hA
 | some x =>
  rw [hf] at hA
  cases hst : stepC a' x.1 a'.length n with
  | none => rw [show ((some x : Option (List ThingD × Int)).elim none fun x => (stepC a' x.1 a'.length n).elim none fun y => some (y.1, max x.2 y.2)) = (stepC a' x.1 a'.length n).elim none fun y => some (y.1, max x.2 y.2) from rfl, hst] at hA; cases hA
  | some y =>
   rw [show ((some x : Option (List ThingD × Int)).elim none fun x => (stepC a' x.1 a'.length n).elim none fun y => some (y.1, max x.2 y.2)) = (stepC a' x.1 a'.length n).elim none fun y => some (y.1, max x.2 y.2) from rfl, hst] at hA
   obtain ⟨e, hk⟩ := step_ok hst
   have he := Option.some.inj hA
   have he1 := congrArg Prod.fst he
   have he2 : max x.2 y.2 = d := congrArg Prod.snd he
   rw [hk.eq] at he1
   simp only at he1
   have hlen := congrArg List.length he1
   rw [List.length_append, List.length_take] at hlen
   simp only [List.length_cons, List.length_nil] at hlen
   have h0 := kidsB_nonneg hk.kb
   have hle := hk.le
   have hz : x.1.length - n.kids.toNat = 0 := by omega
   rw [hz] at he1
   have hpa := hk.pa
   rw [hz] at hpa
   simp only [List.take_zero, List.nil_append, List.cons.injEq, and_true, ThingD.mk.injEq] at he1
   have hs1 : s = 1 := hs
   refine ⟨a', n, x.1, rfl, ⟨x.2, hf, by omega⟩, by omega, by rw [he1.1]; exact hs1, ⟨e, hpa⟩, ?_, hl⟩
   unfold partsV
   rw [List.length_append, List.length_singleton] at hl ⊢
   rw [if_neg (by omega), if_neg (by omega)]
   have hfold : foldC (a' ++ [n]) a' 0 [] 0 = some x := by rw [fold_pre a' 0 [] 0 .nil (by omega)]; exact hf
   obtain ⟨ps, h1, h2⟩ := place_fold (ns := a' ++ [n]) a' 0 [] 0 x 1 [] (fun j u hu => by rw [Nat.zero_add, List.getElem?_append_left (List.getElem?_eq_some_iff.1 hu).1]; exact hu) hfold
   rw [List.map_nil] at h2
   rw [show ((a'.length : Nat) : Int).toNat = a'.length by omega, h2]
   rw [Nat.zero_add, placeF_step (m := 0) (n := n) (by rw [List.getElem?_append_right (Nat.le_refl _), Nat.sub_self]; rfl) hk.kb (by rw [List.length_map]; omega), List.length_map, hz]
   show ((ps ++ [(x.1.map (·.at_)).drop 0]).getD a'.length [], (0 : Int)) = _
   rw [List.drop_zero]
   rw [List.length_nil, Nat.zero_add] at h1
   rw [List.getD_eq_getElem?_getD, List.getElem?_append_right (by omega), h1, Nat.sub_self]
   rfl
theorem partsF_want {op : Int} : ∀ (l : List ThingD) (k : Nat) (d r : Int), partsF op k d l = some r → ∀ (i : Nat) (t : ThingD), l[i]? = some t → t.sort = wantI op ((k + i : Nat) : Int)
 | [], k, d, r, h, i, t, ht => by simp at ht
 | u :: l, k, d, r, h, 0, t, ht => by
  simp only [List.getElem?_cons_zero, Option.some.injEq] at ht
  subst ht
  rw [partsF_cons] at h
  split at h
  ·rename_i hw
   exact hw
  ·cases h
 | u :: l, k, d, r, h, i + 1, t, ht => by
  rw [partsF_cons] at h
  split at h
  ·have := partsF_want l (k + 1) _ r h i t (by simpa using ht)
   rw [show k + 1 + i = k + (i + 1) by omega] at this
   exact this
  ·cases h
/-- Where part number i begins. -/
def fromP (l : List Nat) : Nat → Nat
 | 0 => 0
 | i + 1 => l.getD i 0 + 1
theorem last_at {st : List ThingD} {D : Int} {n : Nat} (hI : FInv st D n) (hn : n = 0 → st = []) : n = fromP (st.map (·.at_)) st.length := by
 rcases hI.last with h | ⟨l, t, rfl, h⟩
 ·rw [hn h]; exact h
 ·rw [List.length_append, List.length_singleton]
  show n = List.getD _ l.length 0 + 1
  rw [List.getD_eq_getElem?_getD, List.getElem?_map, List.getElem?_append_right (Nat.le_refl _), Nat.sub_self]
  exact h.symm
theorem foldA_zero {p : List NodeD} {x : List ThingD × Int} (h : foldA p = some x) (hp : p.length = 0) : x.1 = [] := by
 rw [List.length_eq_zero_iff.1 hp] at h
 cases h
 rfl
theorem sort_last {q : List NodeD} {s d : Int} (h : Alone q s d) (hq : q ≠ []) : ∃ q' n, q = q' ++ [n] ∧ s = sortI n.op := by
 obtain ⟨a', n, rfl⟩ : ∃ p' n, q = p' ++ [n] := ⟨q.dropLast, q.getLast hq, (List.dropLast_concat_getLast _).symm⟩
 refine ⟨a', n, rfl, ?_⟩
 unfold Alone at h
 rw [foldA_snoc] at h
 cases hf : foldA a' with
 | none => rw [hf] at h; cases h
 | some x =>
  rw [hf] at h
  cases hst : stepC a' x.1 a'.length n with
  | none => rw [show ((some x : Option (List ThingD × Int)).elim none fun x => (stepC a' x.1 a'.length n).elim none fun y => some (y.1, max x.2 y.2)) = (stepC a' x.1 a'.length n).elim none fun y => some (y.1, max x.2 y.2) from rfl, hst] at h; cases h
  | some y =>
   rw [show ((some x : Option (List ThingD × Int)).elim none fun x => (stepC a' x.1 a'.length n).elim none fun y => some (y.1, max x.2 y.2)) = (stepC a' x.1 a'.length n).elim none fun y => some (y.1, max x.2 y.2) from rfl, hst] at h
   obtain ⟨e, hk⟩ := step_ok hst
   have he1 := congrArg Prod.fst (Option.some.inj h)
   rw [hk.eq] at he1
   have := List.append_inj_right' (s₁ := _) (s₂ := []) (t₁ := [_]) (t₂ := [_]) he1 rfl
   simp only [List.cons.injEq, and_true, ThingD.mk.injEq] at this
   exact this.1.symm
theorem part_alone {a' : List NodeD} {st : List ThingD} {D : Int} {i : Nat} {t : ThingD} (hf : foldA a' = some (st, D)) (hi : st[i]? = some t) :
  ∃ p1 q1 q2, a' = p1 ++ q1 ++ q2 ∧ p1.length = fromP (st.map (·.at_)) i ∧ t.at_ + 1 = p1.length + q1.length ∧ q1 ≠ [] ∧ Alone q1 t.sort t.depth ∧ t.depth ≤ D := by
 have hil := (List.getElem?_eq_some_iff.1 hi).1
 obtain ⟨p1, p2, st2, D1, D2, rfl, g1, g2, g3, g4⟩ := fold_cut _ a' rfl (st.take i) (st.drop i) D (by rw [List.take_append_drop]; exact hf)
 have hst2 : ∃ u r, st2 = u :: r := by
  cases st2 with
  | nil =>
   have := congrArg List.length g3
   rw [List.length_drop] at this
   simp at this
   omega
  | cons u r => exact ⟨u, r, rfl⟩
 obtain ⟨u, r, rfl⟩ := hst2
 have htu : t = sh p1.length u := by
  have h0 : (st.drop i)[0]? = some t := by rw [List.getElem?_drop, Nat.add_zero]; exact hi
  rw [g3] at h0
  simpa using h0.symm
 obtain ⟨q1, q2, st3, D3, D4, rfl, k1, k2, k3, k4⟩ := fold_cut _ p2 rfl [u] r D2 g2
 obtain ⟨e1, e2, e3⟩ := alone_of k1
 have hI1 := foldA_inv g1
 have hq := foldA_inv k1
 have hqa : u.at_ + 1 = q1.length := by
  rcases hq.last with h | ⟨l, v, e, h⟩
  ·exact absurd (List.length_eq_zero_iff.1 h) e3
  ·have := List.append_inj_right' (s₁ := []) (t₁ := [u]) e rfl
   cases this
   exact h
 have hdep := (foldA_inv hf).dep t (List.mem_of_getElem? hi)
 refine ⟨p1, q1, q2, by rw [List.append_assoc], ?_, by rw [htu]; show p1.length + u.at_ + 1 = _; omega, e3, by rw [htu]; exact e1, hdep.2⟩
 have h := last_at hI1 (fun h => foldA_zero g1 h)
 rw [h, List.length_take, Nat.min_eq_left (by omega)]
 cases i with
 | zero => rfl
 | succ j =>
  show List.getD _ j 0 + 1 = List.getD _ j 0 + 1
  rw [List.getD_eq_getElem?_getD, List.getD_eq_getElem?_getD, List.getElem?_map, List.getElem?_map, List.getElem?_take_of_lt (by omega)]
/-- A part of what is in form is in form by itself. -/
theorem part_law {a a' : List NodeD} {n : NodeD} {st : List ThingD} (h : Whole a a' n st) {i : Nat} {t : ThingD} (hi : st[i]? = some t) :
  fromP (st.map (·.at_)) i ≤ t.at_ ∧ t.at_ < a'.length ∧ ∃ q, (a.drop (fromP (st.map (·.at_)) i)).take (t.at_ + 1 - fromP (st.map (·.at_)) i) = q ∧ q ≠ [] ∧ (checkC q false = 0 ∨ checkC q true = 0 ∨ ∃ q' m, q = q' ++ [m] ∧ m.op = 28) := by
 obtain ⟨D, hf, hD⟩ := h.deep
 obtain ⟨p1, q1, q2, rfl, h1, h2, h3, h4, h5⟩ := part_alone hf hi
 have hq1 : 0 < q1.length := by cases q1 with | nil => exact absurd rfl h3 | cons a l => simp
 have hlen := h.len
 have hsub : (a.drop (fromP (st.map (·.at_)) i)).take (t.at_ + 1 - fromP (st.map (·.at_)) i) = q1 := by
  rw [h.eq, ← h1, h2, show p1.length + q1.length - p1.length = q1.length by omega, List.append_assoc, List.append_assoc, List.drop_left, List.take_left]
 refine ⟨by omega, by rw [List.length_append, List.length_append]; omega, q1, hsub, h3, ?_⟩
 have hql : q1.length ≤ 300 := by
  rw [h.eq] at hlen
  simp only [List.length_append] at hlen
  omega
 obtain ⟨d, hp⟩ := h.parts
 have hw := partsF_want _ _ _ _ hp i t hi
 have hso := h.sort
 have hop : n.op ≤ 27 := by
  unfold sortI at hso
  by_cases h27 : n.op ≤ 27
  ·exact h27
  ·exfalso
   rw [if_neg h27] at hso
   split at hso
   ·cases hso
   ·split at hso
    ·cases hso
    ·split at hso <;> cases hso
 have hc : ∀ tests, endS tests t.sort → checkC q1 tests = 0 := fun tests he => by
  rw [check_alone h4 hql he, if_neg (by omega)]
 unfold wantI at hw
 by_cases h27 : n.op = 27
 ·rw [if_pos h27] at hw
  obtain ⟨q', m, e, hs⟩ := sort_last h4 h3
  refine .inr (.inr ⟨q', m, e, ?_⟩)
  rw [hw] at hs
  unfold sortI at hs
  by_cases g1 : m.op ≤ 27
  ·rw [if_pos g1] at hs; cases hs
  ·rw [if_neg g1] at hs
   by_cases g2 : m.op = 28
   ·exact g2
   ·rw [if_neg g2] at hs
    split at hs
    ·cases hs
    ·split at hs <;> cases hs
 ·rw [if_neg h27, if_neg (by omega)] at hw
  by_cases h4' : n.op = 37 ∨ n.op = 23 ∧ ((0 + i : Nat) : Int) = 1
  ·rw [if_pos h4'] at hw
   exact .inr (.inl (hc true (by unfold endS; rw [if_pos rfl]; exact .inl hw)))
  ·rw [if_neg h4'] at hw
   exact .inl (hc false hw)
end Go.Proofs.YtkackccmhghphaaGreatDoor
