/- Values as plain data (trees), and where they lie in memory; what the calls answer of them, in plain Lean. -/
import Derived.Test.YtgobdcmoelcckaaGreatDoorTypes
import Derived.Test.YtgobdcmoelcckaaGreatDoorWideA
import Derived.Test.YtgobdcmoelcckaaGreatDoorCharsA
import Derived.Deep.Slices
namespace Go.Proofs.YtgobdcmoelcckaaGreatDoor
open Go.RowKit
set_option linter.unusedVariables false
set_option maxRecDepth 100000

structure DcD where
  neg : Bool
  hi : Nat
  lo : Nat
  sc : Int
  deriving DecidableEq
def DcD.n (d : DcD) : Nat := d.hi * 2 ^ 64 + d.lo
def DcD.cs (d : DcD) : List Value := [.bool d.neg, .int .u64 d.hi, .int .u64 d.lo, .int .i64 d.sc]
inductive VD where
  | mk (k : Int) (yes : Bool) (num : DcD) (text : ByteArray) (day : Int) (l : List VD) (ns : List ByteArray)
def VD.k : VD → Int | .mk k _ _ _ _ _ _ => k
def VD.yes : VD → Bool | .mk _ y _ _ _ _ _ => y
def VD.num : VD → DcD | .mk _ _ n _ _ _ _ => n
def VD.text : VD → ByteArray | .mk _ _ _ t _ _ _ => t
def VD.day : VD → Int | .mk _ _ _ _ d _ _ => d
def VD.l : VD → List VD | .mk _ _ _ _ _ l _ => l
def VD.ns : VD → List ByteArray | .mk _ _ _ _ _ _ ns => ns
def strL (b : ByteArray) : List Value := [.string b]
theorem strL_len (b : ByteArray) : (strL b).length = 1 := rfl
def vcs (k : Int) (yes : Bool) (num : DcD) (text : ByteArray) (day : Int) (lv nv : Value) : List Value := [.int .i64 k, .bool yes, .bool num.neg, .int .u64 num.hi, .int .u64 num.lo, .int .i64 num.sc, .string text, .int .i64 day, lv, nv]

/- Where a value lies. -/
mutual
def VD.at (W : World) : VD → List Value → Prop
  | .mk k y n t d l ns, cs => ∃ (lp np : Option Addr) (lc nc : Nat) (ls : List Value), cs = vcs k y n t d (.slice lp l.length lc) (.slice np ns.length nc) ∧ (l.length ≤ lc ∧ ns.length ≤ nc) ∧ Sl W np (ns.flatMap strL) ∧ Sl W lp ls ∧ VD.ats W l ls
def VD.ats (W : World) : List VD → List Value → Prop
  | [], ls => ls = []
  | v :: l, ls => ∃ c r, ls = c ++ r ∧ VD.at W v c ∧ VD.ats W l r
end
theorem VD.at_len {W : World} : ∀ {v : VD} {cs : List Value}, v.at W cs → cs.length = 10
  | .mk k y n t d l ns, cs, h => by
    simp only [VD.at] at h
    obtain ⟨lp, np, lc, nc, ls, rfl, -⟩ := h
    rfl
theorem VD.ats_len {W : World} : ∀ {l : List VD} {ls : List Value}, VD.ats W l ls → ls.length = l.length * 10
  | [], ls, h => by simp only [VD.ats] at h; subst h; rfl
  | v :: l, ls, h => by
    simp only [VD.ats] at h
    obtain ⟨c, r, rfl, h1, h2⟩ := h
    rw [List.length_append, VD.at_len h1, VD.ats_len h2, List.length_cons]
    omega
theorem VD.ats_get {W : World} : ∀ {l : List VD} {ls : List Value}, VD.ats W l ls → ∀ {i : Nat} {x : VD}, l[i]? = some x → ∃ c, x.at W c ∧ ∀ j u, c[j]? = some u → ls[i * 10 + j]? = some u
  | [], ls, h, i, x, hx => by simp at hx
  | v :: l, ls, h, i, x, hx => by
    simp only [VD.ats] at h
    obtain ⟨c, r, rfl, h1, h2⟩ := h
    have hc := VD.at_len h1
    cases i with
    | zero =>
      simp at hx
      subst hx
      refine ⟨c, h1, fun j u hj => ?_⟩
      have hj' := (List.getElem?_eq_some_iff.1 hj).1
      rw [Nat.zero_mul, Nat.zero_add, List.getElem?_append_left hj', hj]
    | succ i =>
      obtain ⟨c', h3, h4⟩ := VD.ats_get h2 (i := i) (x := x) (by simpa using hx)
      refine ⟨c', h3, fun j u hj => ?_⟩
      rw [List.getElem?_append_right (by rw [hc]; omega), hc, show (i + 1) * 10 + j - 10 = i * 10 + j by omega]
      exact h4 j u hj
theorem cells_block {W : World} {p : Addr} {vs : List Value} (h : Cells W p vs) (hne : vs ≠ []) : p.block < W.heap.size := by
  cases vs with
  | nil => exact absurd rfl hne
  | cons v r =>
    have := block_lt_of_cell (h 0 v rfl)
    unfold Addr.add at this
    split at this <;> exact this
theorem Cells.below' {W W' : World} {p : Addr} {vs : List Value} (h : Cells W p vs) (hb : RowKit.Below W.heap.size W W') : Cells W' p vs := by
  cases vs with
  | nil => intro j u hj; simp at hj
  | cons v r => exact h.below hb (cells_block h (by simp))
theorem Sl.below' {W W' : World} {p : Option Addr} {vs : List Value} (h : Sl W p vs) (hb : RowKit.Below W.heap.size W W') : Sl W' p vs := ⟨h.1, fun a e => (h.2 a e).below' hb⟩
mutual
theorem VD.at.below {W W' : World} (hb : RowKit.Below W.heap.size W W') : ∀ {v : VD} {cs : List Value}, v.at W cs → v.at W' cs
  | .mk k y n t d l ns, cs, h => by
    simp only [VD.at] at h ⊢
    obtain ⟨lp, np, lc, nc, ls, e, h0, h1, h2, h3⟩ := h
    exact ⟨lp, np, lc, nc, ls, e, h0, h1.below' hb, h2.below' hb, VD.ats.below hb h3⟩
theorem VD.ats.below {W W' : World} (hb : RowKit.Below W.heap.size W W') : ∀ {l : List VD} {ls : List Value}, VD.ats W l ls → VD.ats W' l ls
  | [], ls, h => by simp only [VD.ats] at h ⊢; exact h
  | v :: l, ls, h => by
    simp only [VD.ats] at h ⊢
    obtain ⟨c, r, e, h1, h2⟩ := h
    exact ⟨c, r, e, VD.at.below hb h1, VD.ats.below hb h2⟩
end

/- Parts, depth. -/
mutual
def VD.parts : VD → Nat
  | .mk _ _ _ _ _ l _ => VD.partsL l + 1
def VD.partsL : List VD → Nat
  | [] => 0
  | x :: r => x.parts + VD.partsL r
end
mutual
def VD.depth : VD → Nat
  | .mk _ _ _ _ _ l _ => VD.depthL l + 1
def VD.depthL : List VD → Nat
  | [] => 0
  | x :: r => max x.depth (VD.depthL r)
end
theorem VD.parts_pos (v : VD) : 1 ≤ v.parts := by cases v; simp only [VD.parts]; omega
theorem VD.partsL_len (l : List VD) : l.length ≤ VD.partsL l := by
  induction l with
  | nil => simp [VD.partsL]
  | cons x r ih => have := x.parts_pos; simp only [VD.partsL, List.length_cons]; omega
theorem VD.partsL_append (l m : List VD) : VD.partsL (l ++ m) = VD.partsL l + VD.partsL m := by
  induction l with
  | nil => simp [VD.partsL]
  | cons x r ih => simp only [List.cons_append, VD.partsL, ih]; omega
theorem VD.partsL_get {l : List VD} {i : Nat} {x : VD} (h : l[i]? = some x) : x.parts ≤ VD.partsL l := by
  induction l generalizing i with
  | nil => simp at h
  | cons y r ih =>
    simp only [VD.partsL]
    cases i with
    | zero => simp at h; subst h; omega
    | succ i => have := ih (i := i) (by simpa using h); omega
theorem VD.depthL_append (l m : List VD) : VD.depthL (l ++ m) = max (VD.depthL l) (VD.depthL m) := by
  induction l with
  | nil => simp [VD.depthL]
  | cons x r ih => simp only [List.cons_append, VD.depthL, ih]; omega
mutual
theorem VD.depth_le : ∀ v : VD, v.depth ≤ v.parts
  | .mk _ _ _ _ _ l _ => by simp only [VD.depth, VD.parts]; have := VD.depthL_le l; omega
theorem VD.depthL_le : ∀ l : List VD, VD.depthL l ≤ VD.partsL l
  | [] => by simp [VD.depthL, VD.partsL]
  | x :: r => by simp only [VD.depthL, VD.partsL]; have := VD.depth_le x; have := VD.depthL_le r; omega
end

/-- In form. -/
def namesB (l : List ByteArray) : Bool := l.all nameB && decide (l.map (·.toList)).Nodup
def VD.bare (v : VD) : Bool := (!v.yes || decide (v.k = 1)) && (decide (v.num = ⟨false, 0, 0, 0⟩) || decide (v.k = 2)) && (decide (v.text.toList = []) || decide (v.k = 3)) && (decide (v.day = 0) || decide (v.k = 4)) && (decide (v.ns = []) || decide (v.k = 6)) && decide (v.l = [] ∨ v.k = 5 ∨ v.k = 6)
def VD.own (v : VD) : Bool := v.bare && (if v.k = 0 ∨ v.k = 1 ∨ v.k = 5 then true else if v.k = 2 then dcmB v.num.neg v.num.n v.num.sc else if v.k = 3 then decide (v.text.size ≤ 1000) && textB v.text else if v.k = 4 then decide (1 ≤ v.day) && decide (v.day ≤ 3652059) else if v.k = 6 then decide (v.ns.length = v.l.length) && namesB v.ns else false)
mutual
def VD.form : VD → Bool
  | .mk k y n t d l ns => (VD.mk k y n t d l ns).own && VD.formL l
def VD.formL : List VD → Bool
  | [] => true
  | x :: r => x.form && VD.formL r
end
theorem VD.formL_append (l m : List VD) : VD.formL (l ++ m) = (VD.formL l && VD.formL m) := by
  induction l with
  | nil => simp [VD.formL]
  | cons x r ih => simp only [List.cons_append, VD.formL, ih, Bool.and_assoc]
theorem VD.formL_get {l : List VD} (h : VD.formL l = true) {i : Nat} {x : VD} (hx : l[i]? = some x) : x.form = true := by
  induction l generalizing i with
  | nil => simp at hx
  | cons y r ih =>
    simp only [VD.formL, Bool.and_eq_true] at h
    cases i with
    | zero => simp at hx; subst hx; exact h.1
    | succ i => exact ih h.2 (i := i) (by simpa using hx)
/-- Check's answer. -/
def VD.check (v : VD) : Int := if 1000 < v.parts then 6 else if 16 < v.depth then 7 else if v.form then 0 else 2

/- The same in every part. -/
mutual
def VD.same : VD → VD → Bool
  | .mk k y n t d l ns, .mk k' y' n' t' d' l' ns' => decide (k = k' ∧ y = y' ∧ n = n' ∧ t.toList = t'.toList ∧ d = d' ∧ ns.map (·.toList) = ns'.map (·.toList)) && VD.sameL l l'
def VD.sameL : List VD → List VD → Bool
  | [], [] => true
  | x :: r, y :: s => VD.same x y && VD.sameL r s
  | _ :: _, [] => false
  | [], _ :: _ => false
end

/-- Truth: none is null. -/
def bothT (a b : Option Bool) : Option Bool := if a = some false ∨ b = some false then some false else if a = some true ∧ b = some true then some true else none
def VD.truth (v : VD) : Option Bool := if v.k = 1 then some v.yes else none
def findS (l : List ByteArray) (s : ByteArray) : Option Nat := l.findIdx? (fun t => decide (t.toList = s.toList))
def place (ctx : Bool) (nsa nsb : List ByteArray) (i : Nat) : Option Nat := if ctx then (match nsa[i]? with | some s => findS nsb s | none => none) else some i
mutual
def VD.eq : VD → VD → Option Bool
  | .mk k y n t d l ns, b =>
    if k = 0 ∨ b.k = 0 then some (decide (k = b.k)) else if k ≠ b.k then none
    else if k ≠ 5 ∧ k ≠ 6 then some (VD.same (.mk k y n t d l ns) b)
    else if l.length ≠ b.l.length then some false
    else VD.eqL (decide (k = 6)) ns b l 0 (some true)
def VD.eqL (ctx : Bool) (ns : List ByteArray) (b : VD) : List VD → Nat → Option Bool → Option Bool
  | [], _, acc => acc
  | x :: r, i, acc =>
    match (place ctx ns b.ns i).bind (fun j => b.l[j]?) with
    | none => some false
    | some z => VD.eqL ctx ns b r (i + 1) (bothT acc (VD.eq x z))
end
/-- All of three values. -/
def allT : List (Option Bool) → Option Bool
  | [] => some true
  | x :: r => bothT x (allT r)
theorem bothT_assoc (a b c : Option Bool) : bothT (bothT a b) c = bothT a (bothT b c) := by
  rcases a with _ | _ | _ <;> rcases b with _ | _ | _ <;> rcases c with _ | _ | _ <;> rfl
theorem bothT_comm (a b : Option Bool) : bothT a b = bothT b a := by
  rcases a with _ | _ | _ <;> rcases b with _ | _ | _ <;> rfl
theorem bothT_true (a : Option Bool) : bothT (some true) a = a := by rcases a with _ | _ | _ <;> rfl
theorem bothT_true' (a : Option Bool) : bothT a (some true) = a := by rcases a with _ | _ | _ <;> rfl
theorem bothT_false (a : Option Bool) : bothT (some false) a = some false := by rcases a with _ | _ | _ <;> rfl
theorem bothT_false' (a : Option Bool) : bothT a (some false) = some false := by rcases a with _ | _ | _ <;> rfl
theorem allT_append (l m : List (Option Bool)) : allT (l ++ m) = bothT (allT l) (allT m) := by
  induction l with
  | nil => simp [allT, bothT_true]
  | cons x r ih => simp only [List.cons_append, allT, ih, bothT_assoc]
theorem allT_false {l : List (Option Bool)} : allT l = some false ↔ some false ∈ l := by
  induction l with
  | nil => simp [allT]
  | cons x r ih =>
    simp only [allT, List.mem_cons]
    rw [← ih]
    rcases x with _ | _ | _ <;> rcases allT r with _ | _ | _ <;> simp [bothT]
theorem allT_true {l : List (Option Bool)} : allT l = some true ↔ ∀ x ∈ l, x = some true := by
  induction l with
  | nil => simp [allT]
  | cons x r ih =>
    simp only [allT, List.mem_cons, forall_eq_or_imp]
    rw [← ih]
    rcases x with _ | _ | _ <;> rcases allT r with _ | _ | _ <;> simp [bothT]
/-- The answers of the entries, where each has its place. -/
def ansL (ctx : Bool) (ns : List ByteArray) (b : VD) : List VD → Nat → Option (List (Option Bool))
  | [], _ => some []
  | x :: r, i => match (place ctx ns b.ns i).bind (fun j => b.l[j]?) with
    | none => none
    | some z => (ansL ctx ns b r (i + 1)).map (VD.eq x z :: ·)
def sumT (acc : Option Bool) : Option (List (Option Bool)) → Option Bool
  | none => some false
  | some L => bothT acc (allT L)
theorem eqL_ans (ctx : Bool) (ns : List ByteArray) (b : VD) : ∀ (l : List VD) (i : Nat) (acc : Option Bool), VD.eqL ctx ns b l i acc = sumT acc (ansL ctx ns b l i)
  | [], i, acc => by simp only [VD.eqL, ansL, sumT, allT, bothT_true']
  | x :: r, i, acc => by
    simp only [VD.eqL, ansL]
    cases (place ctx ns b.ns i).bind (fun j => b.l[j]?) with
    | none => rfl
    | some z =>
      dsimp only
      rw [eqL_ans ctx ns b r (i + 1)]
      cases ansL ctx ns b r (i + 1) with
      | none => rfl
      | some L => simp only [sumT, Option.map_some, allT, bothT_assoc]
/-- Not. -/
def notT (a : Option Bool) : Option Bool := a.map (!·)
/- What a bound on the whole gives of all its parts. -/
mutual
def VD.wf (B : Nat) : VD → Prop
  | .mk k y n t d l ns => n.hi < 2 ^ 64 ∧ n.lo < 2 ^ 64 ∧ t.size ≤ B ∧ l.length ≤ B ∧ ns.length ≤ B ∧ (∀ s ∈ ns, s.size ≤ B) ∧ VD.wfL B l
def VD.wfL (B : Nat) : List VD → Prop
  | [] => True
  | x :: r => x.wf B ∧ VD.wfL B r
end
mutual
theorem VD.wf.mono {B C : Nat} (h : B ≤ C) : ∀ {v : VD}, v.wf B → v.wf C
  | .mk k y n t d l ns, hv => by
    simp only [VD.wf] at hv ⊢
    obtain ⟨h1, h2, h3, h4, h5, h6, h7⟩ := hv
    exact ⟨h1, h2, by omega, by omega, by omega, fun s hs => Nat.le_trans (h6 s hs) h, VD.wfL.mono h h7⟩
theorem VD.wfL.mono {B C : Nat} (h : B ≤ C) : ∀ {l : List VD}, VD.wfL B l → VD.wfL C l
  | [], _ => by simp only [VD.wfL]
  | x :: r, hl => by
    simp only [VD.wfL] at hl ⊢
    exact ⟨VD.wf.mono h hl.1, VD.wfL.mono h hl.2⟩
end
theorem VD.wfL_all {B : Nat} {l : List VD} (h : ∀ x ∈ l, x.wf B) : VD.wfL B l := by
  induction l with
  | nil => simp only [VD.wfL]
  | cons x r ih => simp only [VD.wfL]; exact ⟨h x List.mem_cons_self, ih fun y hy => h y (List.mem_cons_of_mem _ hy)⟩
theorem VD.wfL_get {B : Nat} {l : List VD} (h : VD.wfL B l) {i : Nat} {x : VD} (hx : l[i]? = some x) : x.wf B := by
  induction l generalizing i with
  | nil => simp at hx
  | cons y r ih =>
    simp only [VD.wfL] at h
    cases i with
    | zero => simp at hx; subst hx; exact h.1
    | succ i => exact ih h.2 (i := i) (by simpa using hx)
/-- An element of a row of values. -/
theorem vrow {W : World} {p : Option Addr} {ls : List Value} {l : List VD} (hS : Sl W p ls) (ha : VD.ats W l ls) {i : Nat} {x : VD} (hx : l[i]? = some x) : ∃ b c, p = some b ∧ x.at W c ∧ Cells W (b.add (i * 10)) c := by
  obtain ⟨c, hc, hj⟩ := VD.ats_get ha hx
  have hil := (List.getElem?_eq_some_iff.1 hx).1
  have hne : ls ≠ [] := fun e => by
    have := VD.ats_len ha
    rw [e] at this
    simp at this
    omega
  obtain ⟨b, rfl, hb⟩ := hS.some hne
  refine ⟨b, c, rfl, hc, fun j u hu => ?_⟩
  have := hb (i * 10 + j) u (hj j u hu)
  rwa [← Go.Deep.add_add] at this
theorem take_get {α : Type} {l : List α} {i : Nat} {x : α} (h : l[i]? = some x) : l.take (i + 1) = l.take i ++ [x] := by
  rw [List.take_add_one, h]; rfl
/-- A name's place. -/
theorem findS_hit {l : List ByteArray} {s t : ByteArray} {i : Nat} (h : l[i]? = some t) (e : t.toList = s.toList) (hb : ∀ j u, j < i → l[j]? = some u → u.toList ≠ s.toList) : findS l s = some i := by
  unfold findS
  rw [List.findIdx?_eq_some_iff_getElem]
  obtain ⟨hi, h'⟩ := List.getElem?_eq_some_iff.1 h
  refine ⟨hi, by rw [h']; simpa using e, fun j hj => ?_⟩
  have := hb j l[j] hj (List.getElem?_eq_getElem (by omega))
  simpa using this
theorem findS_miss {l : List ByteArray} {s : ByteArray} (hb : ∀ j u, j < l.length → l[j]? = some u → u.toList ≠ s.toList) : findS l s = none := by
  unfold findS
  rw [List.findIdx?_eq_none_iff]
  intro t ht
  obtain ⟨j, hj⟩ := List.mem_iff_getElem?.1 ht
  have := hb j t (List.getElem?_eq_some_iff.1 hj).1 hj
  simpa using this
def idxI (l : List ByteArray) (s : ByteArray) : Int := match findS l s with | some j => (j : Int) | none => -1
theorem Sl.pre {W : World} {p : Option Addr} {l : List ByteArray} (h : Sl W p (l.flatMap strL)) (i : Nat) : Sl W p ((l.take i).flatMap strL) := by
  rw [← flat_take strL 1 strL_len]
  exact ⟨fun e => by rw [h.1 e]; simp, fun a e => (h.2 a e).take _⟩
theorem has_idx {l : List ByteArray} {s : ByteArray} : (0 ≤ idxI l s) ↔ s.toList ∈ l.map (·.toList) := by
  unfold idxI
  cases h : findS l s with
  | none =>
    simp only
    refine ⟨fun h => by omega, fun hm => ?_⟩
    unfold findS at h
    rw [List.findIdx?_eq_none_iff] at h
    obtain ⟨t, ht, e⟩ := List.mem_map.1 hm
    have := h t ht
    simp [e] at this
  | some j =>
    simp only
    refine ⟨fun _ => ?_, fun _ => by omega⟩
    unfold findS at h
    obtain ⟨hj, h1, -⟩ := List.findIdx?_eq_some_iff_getElem.1 h
    exact List.mem_map.2 ⟨l[j], List.getElem_mem hj, by simpa using h1⟩
theorem namesB_snoc {l : List ByteArray} {s : ByteArray} : namesB (l ++ [s]) = (namesB l && nameB s && !decide (0 ≤ idxI l s)) := by
  unfold namesB
  rw [List.all_append, List.map_append, Bool.eq_iff_iff]
  simp only [Bool.and_eq_true, decide_eq_true_eq, Bool.not_eq_true', decide_eq_false_iff_not, has_idx, List.nodup_append, List.map_cons, List.map_nil, List.all_cons, List.all_nil]
  constructor
  · rintro ⟨⟨h1, h2, -⟩, h3, -, h4⟩
    exact ⟨⟨⟨h1, h3⟩, h2⟩, fun hm => h4 _ hm _ (List.mem_singleton.2 rfl) rfl⟩
  · rintro ⟨⟨⟨h1, h3⟩, h2⟩, h4⟩
    refine ⟨⟨h1, h2, trivial⟩, h3, by simp, fun a ha b hb e => ?_⟩
    rw [List.mem_singleton.1 hb] at e
    exact h4 (e ▸ ha)
theorem namesB_pre {l m : List ByteArray} (h : namesB (l ++ m) = true) : namesB l = true := by
  unfold namesB at *
  rw [List.all_append, List.map_append] at h
  simp only [Bool.and_eq_true, decide_eq_true_eq, List.nodup_append] at h ⊢
  exact ⟨h.1.1, h.2.1⟩
end Go.Proofs.YtgobdcmoelcckaaGreatDoor
