/- The words of an expression, in plain Lean: where a token ends, what it is; the list of all. -/
import Derived.Test.YtkackccmhghphaaGreatDoorUnqA
import Derived.Test.YtkackccmhghphaaGreatDoorCharsA
import Derived.Test.YtkackccmhghphaaGreatDoorDateA
import Derived.Lib.TrimByte
namespace Go.Proofs.YtkackccmhghphaaGreatDoor
open Go.RowKit
set_option linter.unusedVariables false

def dg (b : UInt8) : Bool := Cal.digB b
theorem decB_dg (b : UInt8) : decB b.toNat = dg b := by
 unfold decB dg Cal.digB
 rw [Bool.eq_iff_iff]
 simp only [decide_eq_true_eq]
 omega
/-- The number of a list of digits. -/
def dval (l : List UInt8) : Nat := l.foldl (fun a b => a * 10 + (b.toNat - 48)) 0
def lt1 (b : UInt8) : Bool := letB b.toNat
def blankB (b : UInt8) : Bool := b == 32 || b == 9 || b == 10 || b == 13
def wdB (b : UInt8) : Bool := lt1 b || dg b
/-- How many bytes of a kind stand ahead. -/
def spanL (p : UInt8 → Bool) : List UInt8 → Nat
 | [] => 0
 | b :: l => if p b then spanL p l + 1 else 0
theorem spanL_le (p : UInt8 → Bool) : ∀ l, spanL p l ≤ l.length
 | [] => Nat.le_refl _
 | b :: l => by
  unfold spanL
  split
  ·have := spanL_le p l; simp; omega
  ·exact Nat.zero_le _
/-- Where the bytes of a kind end that stand from i on. -/
def spanE (p : UInt8 → Bool) (l : List UInt8) (i : Nat) : Nat := i + spanL p (l.drop i)
theorem drop_cons {l : List UInt8} {i : Nat} {b : UInt8} (h : l[i]? = some b) : l.drop i = b :: l.drop (i + 1) := by
 have hi : i < l.length := (List.getElem?_eq_some_iff.1 h).1
 rw [List.drop_eq_getElem_cons hi]
 rw [List.getElem?_eq_getElem hi] at h
 rw [Option.some.inj h]
theorem spanE_yes {p : UInt8 → Bool} {l : List UInt8} {i : Nat} {b : UInt8} (h : l[i]? = some b) (hp : p b = true) : spanE p l i = spanE p l (i + 1) := by
 unfold spanE
 rw [drop_cons h]
 unfold spanL
 rw [if_pos hp]
 rw [← spanL.eq_def]
 omega
theorem spanE_no {p : UInt8 → Bool} {l : List UInt8} {i : Nat} {b : UInt8} (h : l[i]? = some b) (hp : p b = false) : spanE p l i = i := by
 unfold spanE
 rw [drop_cons h]
 unfold spanL
 rw [if_neg (by rw [hp]; simp)]
 rfl
theorem spanE_end {p : UInt8 → Bool} {l : List UInt8} {i : Nat} (h : l.length ≤ i) : spanE p l i = i := by
 unfold spanE
 rw [List.drop_of_length_le h]
 rfl
theorem spanE_le {p : UInt8 → Bool} {l : List UInt8} {i : Nat} (h : i ≤ l.length) : i ≤ spanE p l i ∧ spanE p l i ≤ l.length := by
 unfold spanE
 have := spanL_le p (l.drop i)
 rw [List.length_drop] at this
 omega
theorem spanE_in {p : UInt8 → Bool} {l : List UInt8} : ∀ (n i j : Nat), l.length - i = n → i ≤ j → j < spanE p l i → ∃ b, l[j]? = some b ∧ p b = true
 | n, i, j, hn, hij, hj => by
  by_cases hi : i < l.length
  ·obtain ⟨b, hb⟩ : ∃ b, l[i]? = some b := ⟨_, List.getElem?_eq_getElem hi⟩
   cases hp : p b with
   | false => rw [spanE_no hb hp] at hj; omega
   | true =>
    by_cases e : j = i
    ·subst e; exact ⟨b, hb, hp⟩
    ·rw [spanE_yes hb hp] at hj
     exact spanE_in (l.length - (i + 1)) (i + 1) j rfl (by omega) hj
  ·rw [spanE_end (by omega)] at hj; omega
termination_by n => n
decreasing_by omega
theorem spanE_stop {p : UInt8 → Bool} {l : List UInt8} : ∀ (n i : Nat), l.length - i = n → ∀ b, l[spanE p l i]? = some b → p b = false
 | n, i, hn, b, hb => by
  by_cases hi : i < l.length
  ·obtain ⟨c, hc⟩ : ∃ c, l[i]? = some c := ⟨_, List.getElem?_eq_getElem hi⟩
   cases hp : p c with
   | false => rw [spanE_no hc hp, hc] at hb; rw [← Option.some.inj hb]; exact hp
   | true => rw [spanE_yes hc hp] at hb; exact spanE_stop (l.length - (i + 1)) (i + 1) rfl b hb
  ·rw [spanE_end (by omega), List.getElem?_eq_none (by omega)] at hb; cases hb
termination_by n => n
decreasing_by omega

/-- The end of a number that begins at i. -/
def numE (l : List UInt8) (i : Nat) : Nat :=
 let k := spanE dg l i
 if l[k]? = some 46 ∧ (l[k + 1]?.map dg) = some true then spanE dg l (k + 1) else k
/-- Behind the quote that ends a text whose inside begins at k. -/
def quoE (l : List UInt8) : Nat → Nat → Option Nat
 | 0, _ => none
 | f + 1, k => match l[k]? with
  | none => none
  | some b => if b = 92 then quoE l f (k + 2) else if b = 34 then some (k + 1) else quoE l f (k + 1)
theorem quoE_more (l : List UInt8) : ∀ (f g k : Nat), l.length < f + k → l.length < g + k → quoE l f k = quoE l g k
 | 0, 0, _, _, _ => rfl
 | 0, g + 1, k, hf, _ => by unfold quoE; rw [List.getElem?_eq_none (by omega)]
 | f + 1, 0, k, _, hg => by unfold quoE; rw [List.getElem?_eq_none (by omega)]
 | f + 1, g + 1, k, hf, hg => by
  unfold quoE
  cases l[k]? with
  | none => rfl
  | some b =>
   simp only
   rw [quoE_more l f g (k + 2) (by omega) (by omega), quoE_more l f g (k + 1) (by omega) (by omega)]
theorem quoE_le {l : List UInt8} : ∀ (f k e : Nat), quoE l f k = some e → k < e ∧ e ≤ l.length
 | f + 1, k, e, h => by
  unfold quoE at h
  cases hk : l[k]? with
  | none => rw [hk] at h; cases h
  | some b =>
   have hl : k < l.length := (List.getElem?_eq_some_iff.1 hk).1
   rw [hk] at h
   simp only at h
   split at h
   ·have := quoE_le f _ e h; omega
   ·split at h
    ·cases h; omega
    ·have := quoE_le f _ e h; omega
/-- The quoted text at i: what it means, and where it ends. -/
def unqR (s : ByteArray) : ByteArray × Int := match chars s.data.toList with
 | some _ => match (qform s.data.toList).bind unq with
  | some r => (⟨r.toArray⟩, 0)
  | none => (⟨#[]⟩, 5)
 | none => (⟨#[]⟩, 2)
theorem unquoteV_R (s : ByteArray) : unquoteV s = .tuple #[.string (unqR s).1, .int .i64 (unqR s).2] := by
 unfold unquoteV unqR
 cases chars s.data.toList with
 | none => rfl
 | some cs => cases (qform s.data.toList).bind unq <;> rfl
def textF (s : ByteArray) (i : Nat) : Option (ByteArray × Nat) :=
 if s.data.toList[i]? = some 34 then
  match quoE s.data.toList (s.size + 1) (i + 1) with
  | none => none
  | some k => if (unqR (s.extract i k)).2 = 0 then some ((unqR (s.extract i k)).1, k) else none
 else none
/-- The sign at i: how many bytes. -/
def sgn2 (a b : UInt8) : Bool := (a == 46 && b == 46) || (a == 33 && b == 61) || (a == 60 && b == 61) || (a == 62 && b == 61)
def sgn1 (a : UInt8) : Bool := [40, 41, 91, 93, 123, 125, 44, 58, 46, 43, 45, 42, 47, 61, 60, 62].contains a
def signN (l : List UInt8) (i : Nat) : Nat :=
 match l[i]?, l[i + 1]? with
 | some a, some b => if sgn2 a b then 2 else if sgn1 a then 1 else 0
 | some a, none => if sgn1 a then 1 else 0
 | none, _ => 0
/-- The number of digits, with the digits behind the point: the number, its scale; the error. -/
def decT (ds fs : List UInt8) : (Nat × Nat) × Int :=
 if 1 < ds.length ∧ ds[0]? = some 48 then ((0, 0), 5) else
 if Lib.trimLeftB (ds ++ Lib.trimRightB fs 48) 48 = [] then ((0, 0), 0) else
 if 18 < (Lib.trimRightB fs 48).length ∨ 34 < (Lib.trimLeftB (ds ++ Lib.trimRightB fs 48) 48).length then ((0, 0), 3) else
 ((dval (Lib.trimLeftB (ds ++ Lib.trimRightB fs 48) 48), (Lib.trimRightB fs 48).length), 0)
structure TokD where
 kind : Int
 text : ByteArray
 num : Nat
 sc : Nat
 day : Int
 at_ : Nat
def decCs (n sc : Nat) : List Value := [.bool false, .int .u64 (n / 18446744073709551616 : Nat), .int .u64 (n % 18446744073709551616 : Nat), .int .i64 sc]
def TokD.cs (t : TokD) : List Value := [.int .i64 t.kind, .string t.text, .bool false, .int .u64 (t.num / 18446744073709551616 : Nat), .int .u64 (t.num % 18446744073709551616 : Nat), .int .i64 t.sc, .int .i64 t.day, .int .i64 t.at_]
theorem TokD.cs_len (t : TokD) : t.cs.length = 8 := rfl
/-- The digits ahead of the point, and behind, of the number at i. -/
def numD (l : List UInt8) (i : Nat) : List UInt8 := (l.drop i).take (spanL dg (l.drop i))
def numF (l : List UInt8) (i : Nat) : List UInt8 := if numE l i = spanE dg l i then [] else (l.drop (spanE dg l i + 1)).take (numE l i - (spanE dg l i + 1))
/-- The token at i (where s has a byte that is no blank): the token, its end, the error. -/
def oneF (s : ByteArray) (i : Nat) : TokD × Nat × Int :=
 match s.data.toList[i]? with
 | none => (⟨0, ⟨#[]⟩, 0, 0, 0, i⟩, i, 5)
 | some c =>
  if dg c then
   (⟨1, ⟨#[]⟩, (decT (numD s.data.toList i) (numF s.data.toList i)).1.1, (decT (numD s.data.toList i) (numF s.data.toList i)).1.2, 0, i⟩, numE s.data.toList i, (decT (numD s.data.toList i) (numF s.data.toList i)).2)
  else if c = 34 then
   match textF s i with
   | none => (⟨0, ⟨#[]⟩, 0, 0, 0, i⟩, i, 5)
   | some (t, k) => (⟨2, t, 0, 0, 0, i⟩, k, 0)
  else if c = 64 then
   match textF s (i + 1) with
   | none => (⟨0, ⟨#[]⟩, 0, 0, 0, i⟩, i, 5)
   | some (t, k) => (⟨3, ⟨#[]⟩, 0, 0, Cal.parseV t.data.toList, i⟩, k, Cal.parseE t.data.toList)
  else if lt1 c then
   if 64 < spanE wdB s.data.toList i - i then (⟨0, ⟨#[]⟩, 0, 0, 0, i⟩, i, 5)
   else (⟨if wordB (s.extract i (spanE wdB s.data.toList i)).toList then 5 else 4, s.extract i (spanE wdB s.data.toList i), 0, 0, 0, i⟩, spanE wdB s.data.toList i, 0)
  else if signN s.data.toList i = 0 then (⟨0, ⟨#[]⟩, 0, 0, 0, i⟩, i, 5)
  else (⟨6, s.extract i (i + signN s.data.toList i), 0, 0, 0, i⟩, i + signN s.data.toList i, 0)
/-- The tokens from i on. -/
def lexG (s : ByteArray) : Nat → Nat → List TokD → Bool → Bool → Option (List TokD × Bool × Bool)
 | 0, _, acc, o, r => some (acc, o, r)
 | f + 1, i, acc, o, r => match s.data.toList[i]? with
  | none => some (acc, o, r)
  | some c => if blankB c then lexG s f (i + 1) acc o r
   else if (oneF s i).2.2 = 5 then none
   else lexG s f (oneF s i).2.1 (acc ++ [(oneF s i).1]) (o || decide ((oneF s i).2.2 = 3)) (r || decide ((oneF s i).2.2 = 17))
def lexF (s : ByteArray) : List TokD × Int :=
 if 1000 < s.size then ([], 6) else if textB s = false then ([], 2) else
 match lexG s (s.size + 1) 0 [] false false with
 | none => ([], 5)
 | some (ts, o, r) => if o then ([], 3) else if r then ([], 17) else (ts, 0)
end Go.Proofs.YtkackccmhghphaaGreatDoor
