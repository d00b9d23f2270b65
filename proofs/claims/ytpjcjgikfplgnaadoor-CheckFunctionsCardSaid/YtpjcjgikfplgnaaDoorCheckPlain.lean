/- What checking nodes comes to, in plain words: a stack of things. -/
import Derived.Test.YtpjcjgikfplgnaaDoorNodes
namespace Go.Proofs.YtpjcjgikfplgnaaDoor
open Go.RowKit
set_option linter.unusedVariables false
set_option linter.unusedSimpArgs false

theorem kidsB_nonneg {op n : Int} (h : kidsB op n = true) : 0 ≤ n := by
  unfold kidsB at h
  have h1 := (of_decide_eq_true h).2.1
  have h2 : 0 ≤ (arI op).1 := by
    rcases op_cases op with rfl | rfl | rfl | rfl | rfl | rfl | rfl | rfl | rfl | rfl | rfl | rfl | rfl | rfl | rfl | rfl | rfl | rfl | rfl | rfl | rfl | rfl | rfl | rfl | rfl | rfl | rfl | rfl | rfl | rfl | rfl | rfl | rfl | rfl | rfl | rfl | rfl | h
    all_goals first | decide | (rw [arI_none h]; decide)
  omega

theorem drop_at {α : Type} {l : List α} {k : Nat} {t : α} (h : l[k]? = some t) : l.drop k = t :: l.drop (k + 1) := by
  obtain ⟨hk, he⟩ := List.getElem?_eq_some_iff.1 h
  rw [List.drop_eq_getElem_cons hk, he]

/-- The depth of parts, where each is of the sort that is wanted. -/
def partsF (op : Int) : Nat → Int → List ThingD → Option Int
  | _, d, [] => some d
  | k, d, t :: l => if t.sort = wantI op k then partsF op (k + 1) (max d t.depth) l else none
def textsOf (ns : List NodeD) (ts : List ThingD) : List (List UInt8) := ts.map fun t => textAt ns t.at_
def stepC (ns : List NodeD) (st : List ThingD) (i : Nat) (n : NodeD) : Option (List ThingD × Int) :=
  if fieldsB n && kidsB n.op n.kids && decide (n.kids ≤ st.length) then
    match partsF n.op 0 0 (st.drop (st.length - n.kids.toNat)) with
    | none => none
    | some d => if n.op = 27 ∧ unlikeB (textsOf ns (st.drop (st.length - n.kids.toNat))) = false then none else some (st.take (st.length - n.kids.toNat) ++ [⟨sortI n.op, d + 1, i⟩], d + 1)
  else none
def endC (tests : Bool) (st : List ThingD) (deep : Int) : Int :=
  match st with
  | [t] => if (if tests then t.sort = 4 ∨ t.sort = 5 else t.sort = 1) then (if 40 < deep then 7 else 0) else 2
  | _ => 2
def runC (ns : List NodeD) (tests : Bool) : List NodeD → Nat → List ThingD → Int → Int
  | [], _, st, deep => endC tests st deep
  | n :: rest, i, st, deep => (stepC ns st i n).elim 2 fun x => runC ns tests rest (i + 1) x.1 (max deep x.2)
def checkC (ns : List NodeD) (tests : Bool) : Int := if 300 < ns.length then 6 else runC ns tests ns 0 [] 0

theorem partsF_cons (op : Int) (k : Nat) (d : Int) (t : ThingD) (l : List ThingD) : partsF op k d (t :: l) = if t.sort = wantI op k then partsF op (k + 1) (max d t.depth) l else none := rfl
theorem runC_cons (ns : List NodeD) (tests : Bool) (n : NodeD) (rest : List NodeD) (i : Nat) (st : List ThingD) (deep : Int) : runC ns tests (n :: rest) i st deep = (stepC ns st i n).elim 2 fun x => runC ns tests rest (i + 1) x.1 (max deep x.2) := rfl
/-- What holds of a stack behind i nodes. -/
structure StackOk (i : Nat) (st : List ThingD) : Prop where
  len : st.length ≤ i
  at_ : ∀ (j : Nat) (t : ThingD), st[j]? = some t → t.at_ < i ∧ 0 ≤ t.depth ∧ t.depth ≤ i
theorem partsF_bd {op : Int} {i : Nat} : ∀ (l : List ThingD) (k : Nat) (d r : Int), (∀ t, t ∈ l → 0 ≤ t.depth ∧ t.depth ≤ i) → 0 ≤ d → d ≤ i → partsF op k d l = some r → 0 ≤ r ∧ r ≤ i
  | [], k, d, r, _, h0, h1, h => by
    simp only [partsF, Option.some.injEq] at h
    omega
  | t :: l, k, d, r, ht, h0, h1, h => by
    rw [partsF_cons] at h
    split at h
    · have := ht t (List.mem_cons_self ..)
      exact partsF_bd l (k + 1) _ r (fun t' ht' => ht t' (List.mem_cons_of_mem _ ht')) (by omega) (by omega) h
    · cases h
theorem StackOk.push {i : Nat} {st : List ThingD} (h : StackOk i st) (m : Nat) (hm : m ≤ st.length) {s d : Int} (h0 : 0 ≤ d) (h1 : d ≤ i + 1) : StackOk (i + 1) (st.take m ++ [⟨s, d, i⟩]) := by
  refine ⟨by rw [List.length_append, List.length_take]; have := h.len; simp; omega, fun j t hj => ?_⟩
  rw [List.getElem?_append] at hj
  split at hj
  · rw [List.getElem?_take] at hj
    split at hj
    · have := h.at_ j t hj
      omega
    · cases hj
  · rw [List.getElem?_singleton] at hj
    split at hj
    · cases hj
      exact ⟨by simp, h0, by simpa using h1⟩
    · cases hj
theorem fieldsB_eq (n : NodeD) : fieldsB n = (okB n.op n.text n.neg n.num n.sc n.day && decide ((leftT n.op n.text).toList = [] ∧ leftB n.op n.neg = false ∧ leftN n.op n.hi = 0 ∧ leftN n.op n.lo = 0 ∧ leftS n.op n.sc = 0 ∧ leftD n.op n.day = 0)) := by
  have e0 : (⟨#[]⟩ : ByteArray).toList = [] := by decide +kernel
  unfold fieldsB leftT leftB leftN leftS leftD
  generalize okB n.op n.text n.neg n.num n.sc n.day = a
  rw [Bool.eq_iff_iff]
  by_cases h4 : n.op = 4
  · cases hu : usesText n.op <;> simp [h4, hu, e0, and_assoc] <;> (constructor <;> intro h <;> simp_all)
  by_cases h6 : n.op = 6
  · cases hu : usesText n.op <;> simp [h6, hu, e0] <;> (constructor <;> intro h <;> simp_all)
  cases hu : usesText n.op <;> simp [h4, h6, hu, e0] <;> (intros; constructor <;> intros <;> simp_all)
end Go.Proofs.YtpjcjgikfplgnaaDoor
