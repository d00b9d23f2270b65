/- Line ends made one: plain. No program in sight. -/
import Derived.WalkKit
import Derived.Lib.AppendStr
namespace Go.Proofs.YtfnodoepeiknhaaGreatDoor
open Go.RowKit
set_option linter.unusedVariables false

/-- A carriage return becomes a line's end, or nothing ahead of one. -/
def nlL : List UInt8 → List UInt8
  | [] => []
  | c :: r => (if c = 13 then (if r.head? = some 10 then [] else [10]) else [c]) ++ nlL r
def bC (l : List UInt8) : List Value := l.map fun b => .int .u8 b.toNat
theorem bC_str (s : ByteArray) : Lib.strCells s = bC s.data.toList := by
  unfold bC Lib.strCells
  rfl
theorem bC_append (l m : List UInt8) : bC (l ++ m) = bC l ++ bC m := List.map_append
theorem bC_len (l : List UInt8) : (bC l).length = l.length := List.length_map _
theorem nlL_len : ∀ l : List UInt8, (nlL l).length ≤ l.length
  | [] => Nat.le_refl _
  | c :: r => by
    have := nlL_len r
    simp only [nlL, List.length_append, List.length_cons]
    split
    · split <;> simp <;> omega
    · simp; omega
theorem nlL_other {l r : List UInt8} {c : UInt8} (h : l = c :: r) (hc : c ≠ 13) : nlL l = c :: nlL r := by
  subst h; simp [nlL, hc]
theorem nlL_cr {l r : List UInt8} (h : l = 13 :: r) (hr : (l[1]? == some 10) = false) : nlL l = 10 :: nlL r := by
  subst h
  have : r.head? ≠ some 10 := by
    intro e
    cases r with
    | nil => cases e
    | cons a t => simp at e hr; exact hr e
  simp [nlL, this]
theorem nlL_crlf {l r : List UInt8} (h : l = 13 :: 10 :: r) : nlL l = 10 :: nlL r := by
  subst h; simp [nlL]
/-- A round of the writer. -/
theorem nl_skip {s B : List UInt8} {i last : Nat} {c : UInt8} (hl : last ≤ i) (hc : s[i]? = some c) (h13 : c ≠ 13) (h : nlL s = B ++ (s.take i).drop last ++ nlL (s.drop i)) : nlL s = B ++ (s.take (i + 1)).drop last ++ nlL (s.drop (i + 1)) := by
  obtain ⟨hi, e⟩ := List.getElem?_eq_some_iff.1 hc
  have hd : s.drop i = c :: s.drop (i + 1) := by rw [List.drop_eq_getElem_cons hi, e]
  rw [h, nlL_other hd h13, List.take_add_one, hc, List.drop_append_of_le_length (by rw [List.length_take]; omega)]
  simp
theorem nl_end {s B : List UInt8} {last : Nat} (h : nlL s = B ++ (s.take s.length).drop last ++ nlL (s.drop s.length)) : nlL s = B ++ (s.take (s.length + 1)).drop last ++ nlL (s.drop (s.length + 1)) := by
  have e1 : s.drop s.length = [] := List.drop_of_length_le (Nat.le_refl _)
  have e2 : s.drop (s.length + 1) = [] := List.drop_of_length_le (by omega)
  rw [h, e1, e2, List.take_of_length_le (Nat.le_refl _), List.take_of_length_le (show s.length ≤ s.length + 1 by omega)]
theorem nl_hit {s B : List UInt8} {i last : Nat} {r : Bool} (hl : last ≤ i) (hc : s[i]? = some 13) (hr : ((s.drop i)[1]? == some 10) = r) (h : nlL s = B ++ (s.take i).drop last ++ nlL (s.drop i)) :
    nlL s = (B ++ (s.take i).drop last ++ [10]) ++ (s.take (i + if r then 2 else 1)).drop (i + if r then 2 else 1) ++ nlL (s.drop (i + if r then 2 else 1)) := by
  obtain ⟨hi, e⟩ := List.getElem?_eq_some_iff.1 hc
  have hd : s.drop i = 13 :: s.drop (i + 1) := by rw [List.drop_eq_getElem_cons hi, e]
  have hz : ∀ k, (s.take k).drop k = [] := fun k => List.drop_of_length_le (by rw [List.length_take]; omega)
  rw [hz, List.append_nil, h]
  cases r with
  | false =>
    rw [nlL_cr hd hr]
    simp
  | true =>
    have h1 : s[i + 1]? = some 10 := by
      have := hr
      rw [List.getElem?_drop] at this
      simpa using this
    obtain ⟨hi2, e2⟩ := List.getElem?_eq_some_iff.1 h1
    have hd2 : s.drop (i + 1) = 10 :: s.drop (i + 2) := by rw [List.drop_eq_getElem_cons hi2, e2]
    rw [nlL_crlf (hd.trans (by rw [hd2]))]
    simp
end Go.Proofs.YtfnodoepeiknhaaGreatDoor
