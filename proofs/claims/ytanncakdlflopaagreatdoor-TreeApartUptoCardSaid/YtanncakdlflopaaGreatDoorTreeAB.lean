/- Trees of elements, in plain Lean: what is right, what Check answers. tree's blank; how elements lie. Is an element right by itself: both sides; blank, both sides. (short) -/
import Derived.Test.YtanncakdlflopaaGreatDoorMarkPlain
import Derived.Test.YtanncakdlflopaaGreatDoorMarkAp
namespace Go.Proofs.YtanncakdlflopaaGreatDoor
open Go.RowKit
set_option linter.unusedVariables false
set_option linter.unusedSimpArgs false
set_option maxRecDepth 100000

/-- An element. -/
structure ElD where
 n : ByteArray
 up : Int
 l : List AtD
 t : ByteArray
def atOk (a : AtD) : Bool := nameM a.1 && textB a.2
/-- Is an element right by itself? -/
def rightB (e : ElD) : Bool := nameM e.n && textB e.t && decide (e.l.length ≤ 16) && e.l.all atOk && !dupA e.l
def noText (l : List ElD) (k : Nat) : Bool := match l[k]? with
 | some e => e.t.data.toList.isEmpty
 | none => false
/-- Check, from the element at i on: o, the path of the element ahead, up to the root; m, how deep it was. -/
def chkF (l : List ElD) : List ElD → Nat → List Nat → Nat → Int
 | [], _, _, m => if 60 < m then 7 else 0
 | e :: r, i, o, m =>
  if rightB e = false then 2
  else if i = 0 then (if e.up = -1 then chkF l r 1 [0] (max m 1) else 2)
  else match o.dropWhile (fun k : Nat => !((k : Int) == e.up)) with
   | [] => 2
   | k :: q => if noText l k then chkF l r (i + 1) (i :: k :: q) (max m (q.length + 2)) else 2
def checkT (l : List ElD) : Int := if 20000 < l.length then 6 else if l = [] then 2 else chkF l l 0 [] 0
/-- Where the elements below one stand. -/
def kidsF (at_ : Int) : List ElD → Nat → List Nat
 | [], _ => []
 | e :: r, i => if e.up = at_ then i :: kidsF at_ r (i + 1) else kidsF at_ r (i + 1)
/-- The path from an element up to the root. -/
def chainP (l : List ElD) : List Nat → Prop
 | [] => False
 | [k] => k = 0
 | k :: k' :: q => (∃ e, l[k]? = some e ∧ e.up = (k' : Int)) ∧ k' < k ∧ chainP l (k' :: q)
theorem chain_lt {l : List ElD} : ∀ {q : List Nat} {k : Nat}, chainP l (k :: q) → ∀ x ∈ q, x < k
 | [], k, h, x, hx => by simp at hx
 | k' :: q, k, h, x, hx => by
  rcases List.mem_cons.1 hx with rfl | hx
  ·exact h.2.1
  ·exact Nat.lt_trans (chain_lt h.2.2 x hx) h.2.1
/-- Above a place that isn't reached yet there is a parent. -/
theorem chain_more {l : List ElD} {q : List Nat} {k : Nat} (h : chainP l (k :: q)) (hk : 0 < k) : ∃ k' r e, q = k' :: r ∧ l[k]? = some e ∧ e.up = (k' : Int) ∧ k' < k := by
 cases q with
 | nil => exact absurd (show k = 0 from h) (by omega)
 | cons k' r =>
  obtain ⟨⟨e, he, hu⟩, hlt, _⟩ := h
  exact ⟨k', r, e, rfl, he, hu, hlt⟩
theorem drop_pre {u : Int} : ∀ {pre : List Nat} {X : List Nat}, (∀ x ∈ pre, u < (x : Int)) → (pre ++ X).dropWhile (fun k : Nat => !((k : Int) == u)) = X.dropWhile (fun k : Nat => !((k : Int) == u))
 | [], _, _ => rfl
 | x :: pre, X, h => by
  have h1 := h x (by simp)
  rw [List.cons_append, List.dropWhile_cons, if_pos, drop_pre (fun y hy => h y (by simp [hy]))]
  have : ¬ (x : Int) = u := by omega
  simpa using this
theorem drop_hit {u : Int} {k : Nat} {q : List Nat} (h : (k : Int) = u) : (k :: q).dropWhile (fun k : Nat => !((k : Int) == u)) = k :: q := by
 rw [List.dropWhile_cons, if_neg]
 simpa using h
theorem drop_none {u : Int} : ∀ {q : List Nat}, (∀ x ∈ q, (x : Int) < u) → q.dropWhile (fun k : Nat => !((k : Int) == u)) = []
 | [], _ => rfl
 | x :: q, h => by
  have h1 := h x (by simp)
  rw [List.dropWhile_cons, if_pos, drop_none (fun y hy => h y (by simp [hy]))]
  have : ¬ (x : Int) = u := by omega
  simpa using this
theorem drop_miss {u : Int} : ∀ {q : List Nat}, (∀ x ∈ q, ¬ (x : Int) = u) → q.dropWhile (fun k : Nat => !((k : Int) == u)) = []
 | [], _ => rfl
 | x :: q, h => by
  have h1 := h x (by simp)
  rw [List.dropWhile_cons, if_pos, drop_miss (fun y hy => h y (by simp [hy]))]
  simpa using h1
theorem chain_sub {l : List ElD} : ∀ {pre q : List Nat} {k : Nat}, chainP l (pre ++ k :: q) → chainP l (k :: q)
 | [], _, _, h => h
 | [x], _, _, h => h.2.2
 | x :: y :: pre, q, k, h => chain_sub (pre := y :: pre) h.2.2

/-- A tree as it grows: its elements, which have elements within, the path of the one that is open. -/
structure GrD where
 ts : List ElD
 has : List Bool
 st : List Nat
def nameAt (l : List ElD) (k : Nat) (n : ByteArray) : Bool := match l[k]? with
 | some e => e.n.toList == n.toList
 | none => false
def addText (l : List ElD) (k : Nat) (t : ByteArray) : List ElD := match l[k]? with
 | some e => l.set k ⟨e.n, e.up, e.l, e.t ++ t⟩
 | none => l
def blankB (t : ByteArray) : Bool := t.data.toList.all blkB
/-- What a piece makes of it. -/
def grow1 (g : GrD) (e : EvD) : Option GrD :=
 if e.k = 1 then match g.st with
  | [] => if g.ts.length = 0 then some ⟨g.ts ++ [⟨e.n, -1, e.l, ⟨#[]⟩⟩], g.has ++ [false], g.ts.length :: g.st⟩ else none
  | k :: _ => some ⟨g.ts ++ [⟨e.n, k, e.l, ⟨#[]⟩⟩], g.has.set k true ++ [false], g.ts.length :: g.st⟩
 else if e.k = 2 then match g.st with
  | [] => none
  | k :: q => if nameAt g.ts k e.n then some ⟨g.ts, g.has, q⟩ else none
 else match g.st with
  | [] => if blankB e.t then some g else none
  | k :: _ => some ⟨addText g.ts k e.t, g.has, g.st⟩
def growF : List EvD → GrD → Option GrD
 | [], g => some g
 | e :: r, g => match grow1 g e with
  | none => none
  | some g2 => growF r g2
/-- Elements with elements within have blanks alone; these are left out. -/
def clearF : List ElD → List Bool → Option (List ElD)
 | [], _ => some []
 | e :: r, h :: hs => if h then (if blankB e.t then (clearF r hs).map (⟨e.n, e.up, e.l, ⟨#[]⟩⟩ :: ·) else none) else (clearF r hs).map (e :: ·)
 | e :: r, [] => (clearF r []).map (e :: ·)
/-- What Read answers. -/
def treeR (S : ByteArray) : Option (List ElD) × Int := match markF S with
 |(none, c) => (none, c)
 |(some l, _) => match growF l ⟨[], [], []⟩ with
  | none => (none, 5)
  | some g => if g.ts.length = 0 ∨ g.st ≠ [] then (none, 5) else match clearF g.ts g.has with
   | none => (none, 5)
   | some t => if checkT t = 0 then (some t, 0) else (none, checkT t)
end Go.Proofs.YtanncakdlflopaaGreatDoor

namespace Go.Proofs.YtanncakdlflopaaGreatDoor
open Go.RowKit
set_option linter.unusedVariables false
set_option linter.unusedSimpArgs false
set_option maxRecDepth 100000

def blkS : List UInt8 := [32, 9, 10, 13]
theorem blk_contains (b : UInt8) : blkS.contains b = blkB b := by
 have h : ∀ n : Fin 256, blkS.contains (UInt8.ofNat n.val) = blkB (UInt8.ofNat n.val) := by decide +kernel
 have := h ⟨b.toNat, b.toNat_lt⟩
 simpa using this
theorem trim_blank (l : List UInt8) : (Lib.trimS l blkS == []) = l.all blkB := by
 cases h : l.all blkB with
 | true =>
  have ha : ∀ x ∈ l, blkS.contains x = true := fun x hx => by
   rw [blk_contains]
   exact List.all_eq_true.1 h x hx
  have : Lib.trimS l blkS = [] := by
   unfold Lib.trimS Lib.trimRightS
   rw [drop_all (fun x hx => ha x (by simpa using hx))]
   rfl
  rw [this]; rfl
 | false =>
  obtain ⟨x, hx, hn⟩ : ∃ x ∈ l, blkS.contains x = false := by
   rw [List.all_eq_false] at h
   obtain ⟨x, hx, hb⟩ := h
   exact ⟨x, hx, by rw [blk_contains]; simpa using hb⟩
  have : x ∈ Lib.trimS l blkS := by
   unfold Lib.trimS Lib.trimLeftS Lib.trimRightS
   exact drop_keeps hn (List.mem_reverse.2 (drop_keeps hn (List.mem_reverse.2 hx)))
  cases ht : Lib.trimS l blkS with
  | nil => rw [ht] at this; simp at this
  | cons a r => rfl
/-- An element and where its attributes lie. -/
structure ElM where
 d : ElD
 p : Option Addr
 c : Nat
def ElM.cs (m : ElM) : List Value := [.string m.d.n, .int .i64 m.d.up, .slice m.p m.d.l.length m.c, .string m.d.t]
theorem ElM.cs_len (m : ElM) : m.cs.length = 4 := rfl
def ElM.res (m : ElM) : Res := .row m.p m.c 44 2 m.d.l.length (m.d.l.flatMap AtD.cs)
def elD (ms : List ElM) : List ElD := ms.map ElM.d
def elC (ms : List ElM) : List Value := ms.flatMap ElM.cs
def elR (ms : List ElM) : List Res := ms.map ElM.res
theorem elC_len (ms : List ElM) : (elC ms).length = ms.length * 4 := flat_len ElM.cs 4 ElM.cs_len ms
/-- Elements as they lie in a world. -/
structure ElIn (w : World) (p : Option Addr) (ms : List ElM) : Prop where
 row : Sl w p (elC ms)
 at_ : ∀ m ∈ ms, Sl w m.p (m.d.l.flatMap AtD.cs) ∧ m.d.l.length ≤ m.c
theorem ElIn.mem {w0 W : World} {L : List Res} {p : Option Addr} {ms : List ElM} (h : ElIn w0 p ms) (hM : Mem w0 W L) : ElIn W p ms :=
 ⟨hM.sl h.row, fun m hm => ⟨hM.sl (h.at_ m hm).1, (h.at_ m hm).2⟩⟩
end Go.Proofs.YtanncakdlflopaaGreatDoor

namespace Go.Proofs.YtanncakdlflopaaGreatDoor
open Go.RowKit
set_option linter.unusedVariables false
set_option linter.unusedSimpArgs false
set_option maxRecDepth 100000

theorem tblank_any (s : ByteArray) (w : World) (hs : s.size ≤ 1099511627776) :
  Calls Tryz.prog 24 #[.string s] w fun e w' => e = .returned (.bool (blankB s)) ∧ Below w.heap.size w w' := by
 have HM := Lib.hid (Mem.start w)
 obtain ⟨T, hT⟩ : ∃ T : ByteArray, (⟨(Lib.trimS s.data.toList blkS).toArray⟩ : ByteArray) = T := ⟨_, rfl⟩
 have hTe : T.toList.isEmpty = blankB s := by
  have := trim_blank s.data.toList
  rw [← hT, Lib.toList_data]
  refine Eq.trans ?_ this
  show (Lib.trimS s.data.toList blkS).isEmpty = _
  cases Lib.trimS s.data.toList blkS <;> rfl
 have hTr : ∀ W, Calls Tryz.prog 43 #[.string s, .string ⟨#[32, 9, 10, 13]⟩] W fun e w' => e = .returned (.string T) ∧ Below W.heap.size W w' := fun W => by
  have := Any.strings_Trim_laid Tryz.lays160 (by kernel_rfl) s ⟨blkS.toArray⟩ W (by omega) (by decide) (ascii_of_all (by decide))
  rw [show (⟨blkS.toArray⟩ : ByteArray).data.toList = blkS from rfl, hT] at this
  exact this
 have HTr := Lib.hid hTr
 have HTe := Lib.hid hTe
 clear hTr hT hTe
 go_enter Tryz.func24, Tryz.ntmps24
 go_wp2_with (first | (go_at_call 43; (with_reducible refine cB HM (HTr.out _) ?_); clear HM; intro W1 HM))
 go_ret
 exact ⟨by rw [← HTe.out]; rfl, HM.out.below⟩
theorem dupA_take {l : List AtD} {k : Nat} (h : dupA (l.take k) = true) : dupA l = true := by
 unfold dupA at *
 simp only [Bool.not_eq_true', decide_eq_false_iff_not] at *
 intro hn
 apply h
 exact hn.sublist ((List.take_sublist k l).map _)
theorem right_name {n t : ByteArray} {up : Int} {l : List AtD} (h : nameM n = false) : rightB ⟨n, up, l, t⟩ = false := by unfold rightB; rw [h]; rfl
theorem right_text {n t : ByteArray} {up : Int} {l : List AtD} (h : textB t = false) : rightB ⟨n, up, l, t⟩ = false := by unfold rightB; rw [h, Bool.and_false]; rfl
theorem right_many {n t : ByteArray} {up : Int} {l : List AtD} (h : 16 < l.length) : rightB ⟨n, up, l, t⟩ = false := by unfold rightB; rw [decide_eq_false (show ¬ l.length ≤ 16 by omega), Bool.and_false]; rfl
theorem right_at {n t : ByteArray} {up : Int} {l : List AtD} {i : Nat} {a : AtD} (ha : l[i]? = some a) (h : atOk a = false) : rightB ⟨n, up, l, t⟩ = false := by
 have : l.all atOk = false := by rw [List.all_eq_false]; exact ⟨a, List.mem_of_getElem? ha, by rw [h]; decide⟩
 unfold rightB; rw [this, Bool.and_false]; rfl
theorem right_dup {n t : ByteArray} {up : Int} {l : List AtD} {i j : Nat} {a b : AtD} (ha : l[i]? = some a) (hb : l[j]? = some b) (hj : j < i) (h : (a.1.toList == b.1.toList) = true) : rightB ⟨n, up, l, t⟩ = false := by
 have h1 : dupA (l.take (i + 1)) = true := by
  rw [dupA_next ha, Bool.or_eq_true]
  right
  rw [List.any_eq_true]
  exact ⟨b, List.mem_of_getElem? (by rw [List.getElem?_take, if_pos hj]; exact hb), h⟩
 unfold rightB; rw [dupA_take h1]; simp
theorem right_yes {n t : ByteArray} {up : Int} {l : List AtD} (h1 : nameM n = true) (h2 : textB t = true) (h3 : ¬ 16 < l.length) (h4 : l.all atOk = true) (h5 : dupA l = false) : rightB ⟨n, up, l, t⟩ = true := by
 unfold rightB; rw [h1, h2, decide_eq_true (show l.length ≤ 16 by omega), h4, h5]; rfl
theorem all_next {l : List AtD} {k : Nat} {b : AtD} (h : l[k]? = some b) (h1 : (l.take k).all atOk = true) (hb : atOk b = true) : (l.take (k + 1)).all atOk = true := by
 rw [List.take_add_one, h, List.all_append, h1]; simp [hb]
/-- Sizes of an element's texts. -/
def szOk (e : ElD) : Prop := e.n.size ≤ 1099511627776 ∧ e.t.size ≤ 1099511627776 ∧ ∀ a ∈ e.l, a.1.size ≤ 1099511627776 ∧ a.2.size ≤ 1099511627776
end Go.Proofs.YtanncakdlflopaaGreatDoor
