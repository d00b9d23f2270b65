/- Trees of elements, in plain Lean: what is right, what Check answers. -/
import Derived.Test.YtanncakdlflopaaGreatDoorMarkPlain
namespace Go.Proofs.YtanncakdlflopaaGreatDoor
open Go.RowKit
set_option linter.unusedVariables false
set_option linter.unusedSimpArgs false
set_option maxRecDepth 100000

/-- An element. -/
structure ElD where
  n : ByteArray
  up : Int
  l : List AtD
  t : ByteArray
def atOk (a : AtD) : Bool := nameM a.1 && textB a.2
/-- Is an element right by itself? -/
def rightB (e : ElD) : Bool := nameM e.n && textB e.t && decide (e.l.length ≤ 16) && e.l.all atOk && !dupA e.l
def noText (l : List ElD) (k : Nat) : Bool := match l[k]? with
  | some e => e.t.data.toList.isEmpty
  | none => false
/-- Check, from the element at i on: o, the path of the element ahead, up to the root; m, how deep it was. -/
def chkF (l : List ElD) : List ElD → Nat → List Nat → Nat → Int
  | [], _, _, m => if 60 < m then 7 else 0
  | e :: r, i, o, m =>
    if rightB e = false then 2
    else if i = 0 then (if e.up = -1 then chkF l r 1 [0] (max m 1) else 2)
    else match o.dropWhile (fun k : Nat => !((k : Int) == e.up)) with
      | [] => 2
      | k :: q => if noText l k then chkF l r (i + 1) (i :: k :: q) (max m (q.length + 2)) else 2
def checkT (l : List ElD) : Int := if 20000 < l.length then 6 else if l = [] then 2 else chkF l l 0 [] 0
/-- Where the elements below one stand. -/
def kidsF (at_ : Int) : List ElD → Nat → List Nat
  | [], _ => []
  | e :: r, i => if e.up = at_ then i :: kidsF at_ r (i + 1) else kidsF at_ r (i + 1)
/-- The path from an element up to the root. -/
def chainP (l : List ElD) : List Nat → Prop
  | [] => False
  | [k] => k = 0
  | k :: k' :: q => (∃ e, l[k]? = some e ∧ e.up = (k' : Int)) ∧ k' < k ∧ chainP l (k' :: q)
theorem chain_tail {l : List ElD} {k k' : Nat} {q : List Nat} (h : chainP l (k :: k' :: q)) : chainP l (k' :: q) := h.2.2
theorem chain_lt {l : List ElD} : ∀ {q : List Nat} {k : Nat}, chainP l (k :: q) → ∀ x ∈ q, x < k
  | [], k, h, x, hx => by simp at hx
  | k' :: q, k, h, x, hx => by
    rcases List.mem_cons.1 hx with rfl | hx
    · exact h.2.1
    · exact Nat.lt_trans (chain_lt h.2.2 x hx) h.2.1
/-- Above a place that isn't reached yet there is a parent. -/
theorem chain_more {l : List ElD} {q : List Nat} {k : Nat} (h : chainP l (k :: q)) (hk : 0 < k) : ∃ k' r e, q = k' :: r ∧ l[k]? = some e ∧ e.up = (k' : Int) ∧ k' < k := by
  cases q with
  | nil => exact absurd (show k = 0 from h) (by omega)
  | cons k' r =>
    obtain ⟨⟨e, he, hu⟩, hlt, _⟩ := h
    exact ⟨k', r, e, rfl, he, hu, hlt⟩
theorem drop_pre {u : Int} : ∀ {pre : List Nat} {X : List Nat}, (∀ x ∈ pre, u < (x : Int)) → (pre ++ X).dropWhile (fun k : Nat => !((k : Int) == u)) = X.dropWhile (fun k : Nat => !((k : Int) == u))
  | [], _, _ => rfl
  | x :: pre, X, h => by
    have h1 := h x (by simp)
    rw [List.cons_append, List.dropWhile_cons, if_pos, drop_pre (fun y hy => h y (by simp [hy]))]
    have : ¬ (x : Int) = u := by omega
    simpa using this
theorem drop_hit {u : Int} {k : Nat} {q : List Nat} (h : (k : Int) = u) : (k :: q).dropWhile (fun k : Nat => !((k : Int) == u)) = k :: q := by
  rw [List.dropWhile_cons, if_neg]
  simpa using h
theorem drop_none {u : Int} : ∀ {q : List Nat}, (∀ x ∈ q, (x : Int) < u) → q.dropWhile (fun k : Nat => !((k : Int) == u)) = []
  | [], _ => rfl
  | x :: q, h => by
    have h1 := h x (by simp)
    rw [List.dropWhile_cons, if_pos, drop_none (fun y hy => h y (by simp [hy]))]
    have : ¬ (x : Int) = u := by omega
    simpa using this
theorem drop_miss {u : Int} : ∀ {q : List Nat}, (∀ x ∈ q, ¬ (x : Int) = u) → q.dropWhile (fun k : Nat => !((k : Int) == u)) = []
  | [], _ => rfl
  | x :: q, h => by
    have h1 := h x (by simp)
    rw [List.dropWhile_cons, if_pos, drop_miss (fun y hy => h y (by simp [hy]))]
    simpa using h1
theorem chain_sub {l : List ElD} : ∀ {pre q : List Nat} {k : Nat}, chainP l (pre ++ k :: q) → chainP l (k :: q)
  | [], _, _, h => h
  | [x], _, _, h => h.2.2
  | x :: y :: pre, q, k, h => chain_sub (pre := y :: pre) h.2.2

/-- A tree as it grows: its elements, which have elements within, the path of the one that is open. -/
structure GrD where
  ts : List ElD
  has : List Bool
  st : List Nat
def nameAt (l : List ElD) (k : Nat) (n : ByteArray) : Bool := match l[k]? with
  | some e => e.n.toList == n.toList
  | none => false
def addText (l : List ElD) (k : Nat) (t : ByteArray) : List ElD := match l[k]? with
  | some e => l.set k ⟨e.n, e.up, e.l, e.t ++ t⟩
  | none => l
def blankB (t : ByteArray) : Bool := t.data.toList.all blkB
/-- What a piece makes of it. -/
def grow1 (g : GrD) (e : EvD) : Option GrD :=
  if e.k = 1 then match g.st with
    | [] => if g.ts.length = 0 then some ⟨g.ts ++ [⟨e.n, -1, e.l, ⟨#[]⟩⟩], g.has ++ [false], g.ts.length :: g.st⟩ else none
    | k :: _ => some ⟨g.ts ++ [⟨e.n, k, e.l, ⟨#[]⟩⟩], g.has.set k true ++ [false], g.ts.length :: g.st⟩
  else if e.k = 2 then match g.st with
    | [] => none
    | k :: q => if nameAt g.ts k e.n then some ⟨g.ts, g.has, q⟩ else none
  else match g.st with
    | [] => if blankB e.t then some g else none
    | k :: _ => some ⟨addText g.ts k e.t, g.has, g.st⟩
def growF : List EvD → GrD → Option GrD
  | [], g => some g
  | e :: r, g => match grow1 g e with
    | none => none
    | some g2 => growF r g2
/-- Elements with elements within have blanks alone; these are left out. -/
def clearF : List ElD → List Bool → Option (List ElD)
  | [], _ => some []
  | e :: r, h :: hs => if h then (if blankB e.t then (clearF r hs).map (⟨e.n, e.up, e.l, ⟨#[]⟩⟩ :: ·) else none) else (clearF r hs).map (e :: ·)
  | e :: r, [] => (clearF r []).map (e :: ·)
/-- What Read answers. -/
def treeR (S : ByteArray) : Option (List ElD) × Int := match markF S with
  | (none, c) => (none, c)
  | (some l, _) => match growF l ⟨[], [], []⟩ with
    | none => (none, 5)
    | some g => if g.ts.length = 0 ∨ g.st ≠ [] then (none, 5) else match clearF g.ts g.has with
      | none => (none, 5)
      | some t => if checkT t = 0 then (some t, 0) else (none, checkT t)
end Go.Proofs.YtanncakdlflopaaGreatDoor
