/- What checking nodes comes to, put together out of parts, and taken apart; in plain Lean. -/
import Derived.Test.YtkackccmhghphaaGreatDoorPlainA
namespace Go.Proofs.YtkackccmhghphaaGreatDoor
open Go.RowKit
set_option linter.unusedVariables false
set_option linter.unusedSimpArgs false

def foldC (ns : List NodeD) : List NodeD → Nat → List ThingD → Int → Option (List ThingD × Int)
 | [], _, st, deep => some (st, deep)
 | n :: rest, i, st, deep => (stepC ns st i n).elim none fun x => foldC ns rest (i + 1) x.1 (max deep x.2)
theorem foldC_cons (ns : List NodeD) (n : NodeD) (rest : List NodeD) (i : Nat) (st : List ThingD) (deep : Int) : foldC ns (n :: rest) i st deep = (stepC ns st i n).elim none fun x => foldC ns rest (i + 1) x.1 (max deep x.2) := rfl
theorem runC_fold (ns : List NodeD) (tests : Bool) : ∀ (l : List NodeD) (i : Nat) (st : List ThingD) (deep : Int), runC ns tests l i st deep = (foldC ns l i st deep).elim 2 fun x => endC tests x.1 x.2
 | [], i, st, deep => rfl
 | n :: rest, i, st, deep => by
  rw [runC_cons, foldC_cons]
  cases stepC ns st i n with
  | none => rfl
  | some x => exact runC_fold ns tests rest (i + 1) x.1 (max deep x.2)
theorem foldC_app (ns : List NodeD) : ∀ (a b : List NodeD) (i : Nat) (st : List ThingD) (deep : Int), foldC ns (a ++ b) i st deep = (foldC ns a i st deep).elim none fun x => foldC ns b (i + a.length) x.1 x.2
 | [], b, i, st, deep => rfl
 | n :: a, b, i, st, deep => by
  rw [List.cons_append, foldC_cons, foldC_cons]
  cases stepC ns st i n with
  | none => rfl
  | some x =>
   show foldC ns (a ++ b) (i + 1) x.1 (max deep x.2) = (foldC ns a (i + 1) x.1 (max deep x.2)).elim none fun x => foldC ns b (i + (a.length + 1)) x.1 x.2
   rw [foldC_app ns a b (i + 1), show i + 1 + a.length = i + (a.length + 1) by omega]
/-- A thing at another place. -/
def sh (o : Nat) (t : ThingD) : ThingD := { t with at_ := o + t.at_ }
theorem partsF_sh (op : Int) (o : Nat) : ∀ (ts : List ThingD) (k : Nat) (d : Int), partsF op k d (ts.map (sh o)) = partsF op k d ts
 | [], k, d => rfl
 | t :: ts, k, d => by
  rw [List.map_cons, partsF_cons, partsF_cons, partsF_sh op o ts]
  rfl
theorem textsOf_sh {p l q : List NodeD} {ts : List ThingD} (h : ∀ t, t ∈ ts → t.at_ < l.length) : textsOf (p ++ l ++ q) (ts.map (sh p.length)) = textsOf l ts := by
 unfold textsOf
 rw [List.map_map]
 apply List.map_congr_left
 intro t ht
 show textAt (p ++ l ++ q) (p.length + t.at_) = textAt l t.at_
 unfold textAt
 rw [List.append_assoc, List.getElem?_append_right (by omega), show p.length + t.at_ - p.length = t.at_ by omega, List.getElem?_append_left (h t ht)]
/-- A step that finds its parts. -/
structure StepOk (ns : List NodeD) (st : List ThingD) (i : Nat) (n : NodeD) (x : List ThingD × Int) (d : Int) : Prop where
 fl : fieldsB n = true
 kb : kidsB n.op n.kids = true
 le : n.kids.toNat ≤ st.length
 pa : partsF n.op 0 0 (st.drop (st.length - n.kids.toNat)) = some d
 un : ¬ (n.op = 27 ∧ unlikeB (textsOf ns (st.drop (st.length - n.kids.toNat))) = false)
 eq : x = (st.take (st.length - n.kids.toNat) ++ [⟨sortI n.op, d + 1, i⟩], d + 1)
theorem step_ok {ns : List NodeD} {st : List ThingD} {i : Nat} {n : NodeD} {x : List ThingD × Int} (h : stepC ns st i n = some x) : ∃ d, StepOk ns st i n x d := by
 unfold stepC at h
 split at h
 ·rename_i hg
  rw [Bool.and_eq_true, Bool.and_eq_true] at hg
  have hle := of_decide_eq_true hg.2
  have h0 := kidsB_nonneg hg.1.2
  cases hp : partsF n.op 0 0 (st.drop (st.length - n.kids.toNat)) with
  | none => rw [hp] at h; cases h
  | some d =>
   rw [hp] at h
   simp only at h
   split at h
   ·cases h
   ·rename_i hu
    exact ⟨d, hg.1.1, hg.1.2, by omega, hp, hu, (Option.some.inj h).symm⟩
 ·cases h
theorem StepOk.step {ns : List NodeD} {st : List ThingD} {i : Nat} {n : NodeD} {x : List ThingD × Int} {d : Int} (h : StepOk ns st i n x d) : stepC ns st i n = some x := by
 have h0 := kidsB_nonneg h.kb
 unfold stepC
 rw [if_pos (by rw [h.fl, h.kb, decide_eq_true (show n.kids ≤ st.length by have := h.le; omega)]; rfl), h.pa]
 simp only
 rw [if_neg h.un, h.eq]
theorem drop_base {α : Type} (b m : List α) (j : Nat) : (b ++ m).drop (b.length + j) = m.drop j := by
 rw [← List.drop_drop, List.drop_left]
theorem take_base {α : Type} (b m : List α) (j : Nat) : (b ++ m).take (b.length + j) = b ++ m.take j := by
 rw [List.take_append, List.take_of_length_le (by omega), show b.length + j - b.length = j by omega]
theorem step_local {p l q : List NodeD} {base st : List ThingD} {i : Nat} {n : NodeD} (hk : n.kids.toNat ≤ st.length) (hat : ∀ t, t ∈ st → t.at_ < l.length) :
  stepC (p ++ l ++ q) (base ++ st.map (sh p.length)) (p.length + i) n = (stepC l st i n).map fun x => (base ++ x.1.map (sh p.length), x.2) := by
 unfold stepC
 have hlen : (base ++ st.map (sh p.length)).length - n.kids.toNat = base.length + (st.length - n.kids.toNat) := by rw [List.length_append, List.length_map]; omega
 by_cases hg : (fieldsB n && kidsB n.op n.kids) = true
 ·have hg2 := hg
  rw [Bool.and_eq_true] at hg2
  have h0 := kidsB_nonneg hg2.2
  rw [if_pos (by rw [hg, decide_eq_true (by rw [List.length_append, List.length_map]; omega)]; rfl), if_pos (by rw [hg, decide_eq_true (by omega)]; rfl), hlen, drop_base, take_base, ← List.map_drop, ← List.map_take, partsF_sh, textsOf_sh (fun t ht => hat t (List.mem_of_mem_drop ht))]
  cases partsF n.op 0 0 (st.drop (st.length - n.kids.toNat)) with
  | none => rfl
  | some d =>
   simp only
   split
   ·rfl
   ·rw [List.append_assoc]
    simp [sh]
 ·rw [if_neg (by rw [Bool.and_eq_true]; exact fun x => hg x.1), if_neg (by rw [Bool.and_eq_true]; exact fun x => hg x.1)]
  rfl
theorem step_pre {l q : List NodeD} {st : List ThingD} {i : Nat} {n : NodeD} (hat : ∀ t, t ∈ st → t.at_ < l.length) : stepC (l ++ q) st i n = stepC l st i n := by
 unfold stepC
 have h : textsOf (l ++ q) (st.drop (st.length - n.kids.toNat)) = textsOf l (st.drop (st.length - n.kids.toNat)) := by
  unfold textsOf
  apply List.map_congr_left
  intro t ht
  unfold textAt
  rw [List.getElem?_append_left (hat t (List.mem_of_mem_drop ht))]
 rw [h]
/-- What holds of a stack behind i nodes. -/
structure FInv (st : List ThingD) (deep : Int) (i : Nat) : Prop where
 nn : 0 ≤ deep
 dep : ∀ t, t ∈ st → 0 ≤ t.depth ∧ t.depth ≤ deep
 att : deep = 0 ∨ ∃ t, t ∈ st ∧ t.depth = deep
 at_ : ∀ t, t ∈ st → t.at_ < i
 last : i = 0 ∨ ∃ l t, st = l ++ [t] ∧ t.at_ + 1 = i
theorem FInv.nil : FInv [] 0 0 := ⟨Int.le_refl _, fun t h => (by cases h), .inl rfl, fun t h => (by cases h), .inl rfl⟩
theorem partsF_max {op : Int} : ∀ (l : List ThingD) (k : Nat) (d r : Int), partsF op k d l = some r → d ≤ r ∧ ∀ t, t ∈ l → t.depth ≤ r
 | [], k, d, r, h => by
  simp only [partsF, Option.some.injEq] at h
  exact ⟨by omega, fun t ht => by cases ht⟩
 | t :: l, k, d, r, h => by
  rw [partsF_cons] at h
  split at h
  ·have := partsF_max l (k + 1) _ r h
   refine ⟨by omega, fun u hu => ?_⟩
   rcases List.mem_cons.1 hu with rfl | hu
   ·omega
   ·exact this.2 u hu
  ·cases h
theorem FInv.step {ns : List NodeD} {st : List ThingD} {deep : Int} {i : Nat} {n : NodeD} {x : List ThingD × Int} (hI : FInv st deep i) (h : stepC ns st i n = some x) : FInv x.1 (max deep x.2) (i + 1) := by
 obtain ⟨d, h⟩ := step_ok h
 have hp := partsF_max _ _ _ _ h.pa
 have hn := hI.nn
 rw [h.eq]
 refine ⟨by show 0 ≤ max deep (d + 1); omega, fun t ht => ?_, ?_, fun t ht => ?_, .inr ⟨_, _, rfl, rfl⟩⟩
 ·rcases List.mem_append.1 ht with ht | ht
  ·have := hI.dep t (List.mem_of_mem_take ht)
   show _ ∧ _ ≤ max deep (d + 1)
   omega
  ·rw [List.mem_singleton.1 ht]
   show 0 ≤ d + 1 ∧ d + 1 ≤ max deep (d + 1)
   omega
 ·refine .inr ?_
  show ∃ t : ThingD, t ∈ _ ∧ t.depth = max deep (d + 1)
  by_cases hd : deep ≤ d + 1
  ·exact ⟨⟨sortI n.op, d + 1, i⟩, List.mem_append_right _ (List.mem_singleton.2 rfl), by show d + 1 = _; omega⟩
  ·rcases hI.att with h0 | ⟨t, ht, e⟩
   ·omega
   ·refine ⟨t, List.mem_append_left _ ?_, by omega⟩
    rw [← List.take_append_drop (st.length - n.kids.toNat) st] at ht
    rcases List.mem_append.1 ht with ht | ht
    ·exact ht
    ·have := hp.2 t ht
     omega
 ·rcases List.mem_append.1 ht with ht | ht
  ·have := hI.at_ t (List.mem_of_mem_take ht)
   omega
  ·rw [List.mem_singleton.1 ht]
   exact Nat.lt_succ_self i
theorem FInv.fold {ns : List NodeD} : ∀ (r : List NodeD) (i : Nat) (st : List ThingD) (deep : Int) (x : List ThingD × Int), FInv st deep i → foldC ns r i st deep = some x → FInv x.1 x.2 (i + r.length)
 | [], i, st, deep, x, hI, h => by
  cases h
  exact hI
 | n :: r, i, st, deep, x, hI, h => by
  rw [foldC_cons] at h
  cases hs : stepC ns st i n with
  | none => rw [hs] at h; cases h
  | some y =>
   rw [hs] at h
   have := FInv.fold r (i + 1) y.1 (max deep y.2) x (hI.step hs) h
   rw [List.length_cons, show i + (r.length + 1) = i + 1 + r.length by omega]
   exact this
theorem fold_local {p l q : List NodeD} {base : List ThingD} {D : Int} : ∀ (r : List NodeD) (i : Nat) (st : List ThingD) (deep : Int) (x : List ThingD × Int), FInv st deep i → i + r.length ≤ l.length → foldC l r i st deep = some x →
  foldC (p ++ l ++ q) r (p.length + i) (base ++ st.map (sh p.length)) (max D deep) = some (base ++ x.1.map (sh p.length), max D x.2)
 | [], i, st, deep, x, hI, hl, h => by
  cases h
  rfl
 | n :: r, i, st, deep, x, hI, hl, h => by
  rw [foldC_cons] at h ⊢
  rw [List.length_cons] at hl
  cases hs : stepC l st i n with
  | none => rw [hs] at h; cases h
  | some y =>
   rw [hs] at h
   obtain ⟨d, hk⟩ := step_ok hs
   rw [step_local hk.le (fun t ht => by have := hI.at_ t ht; omega), hs]
   have := fold_local (p := p) (q := q) (base := base) (D := D) r (i + 1) y.1 (max deep y.2) x (hI.step hs) (by omega) h
   show foldC (p ++ l ++ q) r (p.length + i + 1) (base ++ y.1.map (sh p.length)) (max (max D deep) y.2) = _
   rw [show max (max D deep) y.2 = max D (max deep y.2) by omega]
   exact this
theorem fold_pre {l q : List NodeD} : ∀ (r : List NodeD) (i : Nat) (st : List ThingD) (deep : Int), FInv st deep i → i + r.length ≤ l.length → foldC (l ++ q) r i st deep = foldC l r i st deep
 | [], i, st, deep, hI, hl => rfl
 | n :: r, i, st, deep, hI, hl => by
  rw [List.length_cons] at hl
  rw [foldC_cons, foldC_cons, step_pre (fun t ht => by have := hI.at_ t ht; omega)]
  cases hs : stepC l st i n with
  | none => rfl
  | some y => exact fold_pre r (i + 1) y.1 (max deep y.2) (hI.step hs) (by omega)
def foldA (l : List NodeD) : Option (List ThingD × Int) := foldC l l 0 [] 0
theorem foldA_inv {l : List NodeD} {x : List ThingD × Int} (h : foldA l = some x) : FInv x.1 x.2 l.length := by
 have := FInv.fold l 0 [] 0 x .nil h
 rw [Nat.zero_add] at this
 exact this
theorem foldA_snoc (p : List NodeD) (n : NodeD) : foldA (p ++ [n]) = (foldA p).elim none fun x => (stepC p x.1 p.length n).elim none fun y => some (y.1, max x.2 y.2) := by
 unfold foldA
 rw [foldC_app, fold_pre p 0 [] 0 .nil (by omega)]
 cases hf : foldC p p 0 [] 0 with
 | none => rfl
 | some x =>
  have hI := foldA_inv (l := p) hf
  show foldC (p ++ [n]) [n] (0 + p.length) x.1 x.2 = (stepC p x.1 p.length n).elim none fun y => some (y.1, max x.2 y.2)
  rw [foldC_cons, Nat.zero_add, step_pre hI.at_]
  cases stepC p x.1 p.length n <;> rfl
/-- One text's nodes behind another's. -/
theorem foldA_app {a b : List NodeD} {x y : List ThingD × Int} (ha : foldA a = some x) (hb : foldA b = some y) : foldA (a ++ b) = some (x.1 ++ y.1.map (sh a.length), max x.2 y.2) := by
 have hI := foldA_inv ha
 have h1 := fold_local (p := a) (q := []) (base := x.1) (D := x.2) b 0 [] 0 y .nil (by omega) hb
 rw [List.append_nil, Nat.add_zero, List.map_nil, List.append_nil] at h1
 unfold foldA
 rw [foldC_app, fold_pre a 0 [] 0 .nil (by omega), show foldC a a 0 [] 0 = some x from ha]
 show foldC (a ++ b) b (0 + a.length) x.1 x.2 = _
 rw [Nat.zero_add, show x.2 = max x.2 0 by have := hI.nn; omega, h1]
 have := hI.nn
 have := (foldA_inv hb).nn
 congr 2
 omega
/-- A stack taken apart: so are the nodes. -/
theorem fold_cut : ∀ (m : Nat) (p : List NodeD), p.length = m → ∀ (st1 st2 : List ThingD) (D : Int), foldA p = some (st1 ++ st2, D) →
  ∃ p1 p2 st2' D1 D2, p = p1 ++ p2 ∧ foldA p1 = some (st1, D1) ∧ foldA p2 = some (st2', D2) ∧ st2 = st2'.map (sh p1.length) ∧ D2 ≤ D
 | 0, p, hp, st1, st2, D, h => by
  obtain rfl := List.length_eq_zero_iff.1 hp
  cases hst : st1 ++ st2 with
  | cons t l => rw [hst] at h; cases h
  | nil =>
   obtain ⟨rfl, rfl⟩ := List.append_eq_nil_iff.1 hst
   cases h
   exact ⟨[], [], [], 0, 0, rfl, rfl, rfl, rfl, Int.le_refl _⟩
 | m + 1, p, hp, st1, st2, D, h => by
  have hI := foldA_inv h
  by_cases h2 : st2 = []
  ·subst h2
   rw [List.append_nil] at h
   exact ⟨p, [], [], D, 0, by simp, h, rfl, rfl, hI.nn⟩
  ·obtain ⟨p', n, rfl⟩ : ∃ p' n, p = p' ++ [n] := ⟨p.dropLast, p.getLast (by intro e; rw [e] at hp; cases hp), (List.dropLast_concat_getLast _).symm⟩
   have hm : p'.length = m := by rw [List.length_append, List.length_singleton] at hp; omega
   have h0 := h
   rw [foldA_snoc] at h
   cases hf : foldA p' with
   | none => rw [hf] at h; cases h
   | some x =>
    rw [hf] at h
    cases hs : stepC p' x.1 p'.length n with
    | none => rw [show ((some x : Option (List ThingD × Int)).elim none fun x => (stepC p' x.1 p'.length n).elim none fun y => some (y.1, max x.2 y.2)) = (stepC p' x.1 p'.length n).elim none fun y => some (y.1, max x.2 y.2) from rfl, hs] at h; cases h
    | some y =>
     rw [show ((some x : Option (List ThingD × Int)).elim none fun x => (stepC p' x.1 p'.length n).elim none fun y => some (y.1, max x.2 y.2)) = (stepC p' x.1 p'.length n).elim none fun y => some (y.1, max x.2 y.2) from rfl, hs] at h
     have he := Option.some.inj h
     have he1 : y.1 = st1 ++ st2 := congrArg Prod.fst he
     have he2 : max x.2 y.2 = D := congrArg Prod.snd he
     obtain ⟨d, hk⟩ := step_ok hs
     have hy1 := congrArg Prod.fst hk.eq
     have hy2 := congrArg Prod.snd hk.eq
     simp only at hy1 hy2
     have hl2 : 1 ≤ st2.length := by cases st2 with | nil => exact absurd rfl h2 | cons a l => simp
     have hlen : st1.length + st2.length = x.1.length - n.kids.toNat + 1 := by
      have := congrArg List.length (he1.symm.trans hy1)
      rw [List.length_append, List.length_append, List.length_take, List.length_singleton] at this
      omega
     have hpre : x.1.take st1.length = st1 := by
      have e := he1.symm.trans hy1
      have e2 := congrArg (List.take st1.length) e
      rw [List.take_left, List.take_append_of_le_length (by rw [List.length_take]; omega), List.take_take, Nat.min_eq_left (by omega)] at e2
      exact e2.symm
     have hcut : st1 ++ x.1.drop st1.length = x.1 := by
      have e := List.take_append_drop st1.length x.1
      rw [hpre] at e
      exact e
     obtain ⟨p1, p2, st', D1, D2, hpp, g1, g2, g3, g4⟩ := fold_cut m p' hm st1 (x.1.drop st1.length) x.2 (by rw [hf, hcut])
     have hI2 := foldA_inv g2
     have hxs : x.1 = st1 ++ st'.map (sh p1.length) := by rw [← g3]; exact hcut.symm
     have hlx : x.1.length = st1.length + st'.length := by rw [hxs, List.length_append, List.length_map]
     have hkl := hk.le
     have hloc := step_local (p := p1) (l := p2) (q := []) (base := st1) (st := st') (i := p2.length) (n := n) (by omega) hI2.at_
     rw [List.append_nil, ← hpp, ← hxs, ← List.length_append, ← hpp, hs] at hloc
     cases hz : stepC p2 st' p2.length n with
     | none => rw [hz] at hloc; cases hloc
     | some z =>
      rw [hz] at hloc
      have hyz := Option.some.inj hloc
      refine ⟨p1, p2 ++ [n], z.1, D1, max D2 z.2, by rw [hpp, List.append_assoc], g1, by rw [foldA_snoc, g2]; show (stepC p2 st' p2.length n).elim none _ = _; rw [hz]; rfl, ?_, ?_⟩
      ·have e : st1 ++ st2 = st1 ++ z.1.map (sh p1.length) := by rw [← he1, hyz]
       exact List.append_cancel_left e
      ·have : y.2 = z.2 := by rw [hyz]
       omega
/-- The nodes are one thing, by themselves. -/
def Alone (l : List NodeD) (s d : Int) : Prop := foldA l = some ([⟨s, d, l.length - 1⟩], d)
theorem alone_of {l : List NodeD} {t : ThingD} {D : Int} (h : foldA l = some ([t], D)) : Alone l t.sort t.depth ∧ t.depth = D ∧ l ≠ [] := by
 have hI := foldA_inv h
 have hne : l ≠ [] := by intro e; subst e; cases h
 have hl : l.length ≠ 0 := fun e => hne (List.length_eq_zero_iff.1 e)
 have hat : t.at_ = l.length - 1 := by
  rcases hI.last with e | ⟨l', t', e, ht⟩
  ·exact absurd e hl
  ·have := List.append_inj_right' (s₁ := []) (t₁ := [t]) e rfl
   cases this
   omega
 have hd : t.depth = D := by
  have h1 := hI.dep t (List.mem_singleton.2 rfl)
  rcases hI.att with e | ⟨u, hu, e⟩
  ·simp only at h1; omega
  ·rw [List.mem_singleton.1 hu] at e
   exact e
 refine ⟨?_, hd, hne⟩
 unfold Alone
 rw [h, ← hat, ← hd]
/-- Which sorts are right at the end. -/
def endS (tests : Bool) (s : Int) : Prop := if tests then s = 4 ∨ s = 5 else s = 1
theorem check_alone {l : List NodeD} {tests : Bool} {s d : Int} (h : Alone l s d) (hl : l.length ≤ 300) (hs : endS tests s) : checkC l tests = if 40 < d then 7 else 0 := by
 unfold checkC
 rw [if_neg (by omega), runC_fold, show foldC l l 0 [] 0 = some ([⟨s, d, l.length - 1⟩], d) from h]
 show endC tests [⟨s, d, l.length - 1⟩] d = _
 unfold endC
 exact if_pos hs
theorem check_zero {l : List NodeD} {tests : Bool} (h : checkC l tests = 0) : ∃ s d, Alone l s d ∧ endS tests s ∧ d ≤ 40 ∧ 0 ≤ d ∧ l.length ≤ 300 ∧ l ≠ [] := by
 unfold checkC at h
 split at h
 ·cases h
 ·rename_i hl
  rw [runC_fold] at h
  cases hf : foldC l l 0 [] 0 with
  | none => rw [hf] at h; cases h
  | some x =>
   rw [hf] at h
   obtain ⟨st, D⟩ := x
   have h' : endC tests st D = 0 := h
   unfold endC at h'
   match st, hf, h' with
   | [t], hf, h' =>
    obtain ⟨h1, h2, h3⟩ := alone_of (l := l) hf
    simp only at h'
    have hI := foldA_inv (l := l) hf
    have hn := hI.nn
    by_cases hs : (if tests then t.sort = 4 ∨ t.sort = 5 else t.sort = 1)
    ·rw [if_pos hs] at h'
     refine ⟨t.sort, t.depth, h1, hs, ?_, by omega, by omega, h3⟩
     by_cases h40 : 40 < D
     ·rw [if_pos h40] at h'; cases h'
     ·omega
    ·rw [if_neg hs] at h'; cases h'
   | [], _, h' => cases h'
   | _ :: _ :: _, _, h' => cases h'
end Go.Proofs.YtkackccmhghphaaGreatDoor
