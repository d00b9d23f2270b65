/- What a document says, in plain Lean: as the program's reader and the reference's rules go through it. -/
import Derived.Test.YtanncakdlflopaaGreatDoorMarkBF
import Derived.Test.YtanncakdlflopaaGreatDoorUnescA
namespace Go.Proofs.YtanncakdlflopaaGreatDoor
open Go.RowKit
set_option linter.unusedVariables false
set_option linter.unusedSimpArgs false
set_option maxRecDepth 100000

abbrev AtD := ByteArray × ByteArray
def AtD.cs (a : AtD) : List Value := [.string a.1, .string a.2]
theorem AtD.cs_len (a : AtD) : a.cs.length = 2 := rfl
/-- An event: its kind, name, attributes, text. -/
structure EvD where
 k : Nat
 n : ByteArray
 l : List AtD
 t : ByteArray
/-- Does t stand at a place? -/
def atP (t : List UInt8) (S : ByteArray) (i : Nat) : Bool := Lib.hasPrefix (S.data.toList.drop i) t
/-- The first place of t. -/
def fndL (t l : List UInt8) : Option Nat := if Lib.index l t < 0 then none else some (Lib.index l t).toNat
theorem fndL_some {t l : List UInt8} {n : Nat} (h : fndL t l = some n) : Lib.index l t = (n : Int) := by
 unfold fndL at h
 split at h
 ·cases h
 ·simp only [Option.some.injEq] at h; omega
theorem fndL_none {t l : List UInt8} (h : fndL t l = none) : Lib.index l t = -1 := by
 unfold fndL at h
 split at h
 ·have := Lib.index_ge l t; omega
 ·cases h
theorem fndL_nil {t : List UInt8} (ht : t ≠ []) : fndL t [] = none := by
 unfold fndL Lib.index
 cases t with
 | nil => exact absurd rfl ht
 | cons _ _ => rfl
theorem fndL_cons (t : List UInt8) (b : UInt8) (l : List UInt8) : fndL t (b :: l) = if t.isPrefixOf (b :: l) then some 0 else (fndL t l).map (· + 1) := by
 have hg := Lib.index_ge l t
 have e : Lib.index (b :: l) t = if t.isPrefixOf (b :: l) then 0 else if Lib.index l t == -1 then -1 else Lib.index l t + 1 := by rw [Lib.index]
 unfold fndL
 rw [e]
 by_cases h : t.isPrefixOf (b :: l) = true
 ·rw [if_pos h, if_pos h]; rfl
 ·rw [if_neg h, if_neg h]
  by_cases h1 : Lib.index l t = -1
  ·rw [h1]; rfl
  ·have h2 : (Lib.index l t == -1) = false := by simpa using h1
   rw [h2]
   simp only [Bool.false_eq_true, if_false]
   rw [if_neg (by omega), if_neg (by omega)]
   simp only [Option.map_some, Option.some.injEq]
   omega
theorem fndL_at : ∀ {t l : List UInt8} {n : Nat}, t ≠ [] → fndL t l = some n → t.isPrefixOf (l.drop n) = true
 | t, [], n, ht, h => by rw [fndL_nil ht] at h; cases h
 | t, b :: l, n, ht, h => by
  rw [fndL_cons] at h
  split at h
  ·rename_i hp
   cases h
   exact hp
  ·cases hf : fndL t l with
   | none => rw [hf] at h; cases h
   | some m =>
    rw [hf] at h
    simp only [Option.map_some, Option.some.injEq] at h
    subst h
    exact (fndL_at ht hf : t.isPrefixOf (l.drop m) = true)
theorem fndL_le {t l : List UInt8} {n : Nat} (ht : t ≠ []) (h : fndL t l = some n) : n + t.length ≤ l.length := by
 have h1 := (List.isPrefixOf_iff_prefix.1 (fndL_at ht h)).length_le
 rw [List.length_drop] at h1
 have : 0 < t.length := List.length_pos_iff.2 ht
 omega
theorem atP_le {t : List UInt8} {S : ByteArray} {i : Nat} (hi : i ≤ S.size) (h : atP t S i = true) : i + t.length ≤ S.size := by
 have h1 := (List.isPrefixOf_iff_prefix.1 (show t.isPrefixOf (S.data.toList.drop i) = true from h)).length_le
 rw [List.length_drop, size_list] at h1
 omega

/-- What Unescape makes of a text; nothing: it refuses it. -/
def unescO (at_ : Bool) (s : ByteArray) : Option ByteArray := match chars s.data.toList with
 | none => none
 | some _ => (unes (plainL at_ s.data.toList)).map fun r => ⟨r.toArray⟩
theorem unescO_none {at_ : Bool} {s : ByteArray} (h : unescO at_ s = none) : ∃ c : Int, c ≠ 0 ∧ unescV at_ s = .tuple #[.string ⟨#[]⟩, .int .i64 c] := by
 unfold unescO at h
 cases hc : chars s.data.toList with
 | none => exact ⟨2, by decide, unescV_no hc⟩
 | some cs =>
  rw [hc] at h
  simp only [Option.map_eq_none_iff] at h
  exact ⟨5, by decide, unescV_bad hc h⟩
theorem unescO_some {at_ : Bool} {s v : ByteArray} (h : unescO at_ s = some v) : unescV at_ s = .tuple #[.string v, .int .i64 0] := by
 unfold unescO at h
 cases hc : chars s.data.toList with
 | none => rw [hc] at h; cases h
 | some cs =>
  rw [hc] at h
  cases hu : unes (plainL at_ s.data.toList) with
  | none => rw [hu] at h; cases h
  | some r =>
   rw [hu] at h
   simp only [Option.map_some, Option.some.injEq] at h
   rw [unescV_ok hc hu, h]

/-- The place behind the blanks; behind the bytes of a name. -/
abbrev blkE (S : ByteArray) (i : Nat) : Nat := spE blkB S.data.toList i
abbrev insE (S : ByteArray) (i : Nat) : Nat := spE insU S.data.toList i
/-- Of the quotes the one that stands at a place. -/
def quoF (S : ByteArray) (i : Nat) : Option UInt8 := if atP [34] S i then some 34 else if atP [39] S i then some 39 else none
/-- An attribute, and the place behind it. -/
def attrF (S : ByteArray) (i : Nat) : Option (AtD × Nat) :=
 if nameM (S.extract i (insE S i)) = false then none else
 if atP [61] S (blkE S (insE S i)) = false then none else
 match quoF S (blkE S (blkE S (insE S i) + 1)) with
 | none => none
 | some q => match fndL [q] (S.data.toList.drop (blkE S (blkE S (insE S i) + 1) + 1)) with
  | none => none
  | some n => match unescO true (S.extract (blkE S (blkE S (insE S i) + 1) + 1) (blkE S (blkE S (insE S i) + 1) + 1 + n)) with
   | none => none
   | some v => some ((S.extract i (insE S i), v), blkE S (blkE S (insE S i) + 1) + 1 + n + 1)
/-- Attributes up to an open's end: those; is it an end too; the place behind. -/
def attrsF (S : ByteArray) : Nat → Nat → List AtD → Option (List AtD × Bool × Nat)
 | 0, _, _ => none
 | f + 1, k, acc =>
  if atP [62] S (blkE S k) then some (acc, false, blkE S k + 1)
  else if atP [47, 62] S (blkE S k) then some (acc, true, blkE S k + 2)
  else if blkE S k = k then none
  else match attrF S (blkE S k) with
   | none => none
   | some (x, j) => attrsF S f j (acc ++ [x])
def evClose (n : ByteArray) : EvD := ⟨2, n, [], ⟨#[]⟩⟩
def evOpen (n : ByteArray) (l : List AtD) : EvD := ⟨1, n, l, ⟨#[]⟩⟩
def evData (t : ByteArray) : EvD := ⟨3, ⟨#[]⟩, [], t⟩
/-- The events of an open. -/
def openL (n : ByteArray) (l : List AtD) (c : Bool) : List EvD := evOpen n l :: if c then [evClose n] else []
/-- A comment's end. -/
def noteF (S : ByteArray) (i : Nat) : Option Nat := match fndL [45, 45] (S.data.toList.drop i) with
 | none => none
 | some n => if atP [62] S (i + n + 2) then some (i + n + 3) else none
/-- A close, behind its beginning. -/
def endF (S : ByteArray) (i : Nat) : Option (ByteArray × Nat) :=
 if nameM (S.extract i (insE S i)) = false then none else
 if atP [62] S (blkE S (insE S i)) then some (S.extract i (insE S i), blkE S (insE S i) + 1) else none
/-- An open, behind its beginning. -/
def openF (S : ByteArray) (i : Nat) : Option (List EvD × Nat) :=
 if nameM (S.extract i (insE S i)) = false then none else
 match attrsF S (S.size + 1) (insE S i) [] with
 | none => none
 | some (l, c, j) => some (openL (S.extract i (insE S i)) l c, j)
def notLt (b : UInt8) : Bool := b != 60
/-- Characters. -/
def dataF (S : ByteArray) (i : Nat) : Option (ByteArray × Nat) := match unescO false (S.extract i (spE notLt S.data.toList i)) with
 | none => none
 | some v => some (v, spE notLt S.data.toList i)
/-- The events of what stands at a place, and the place behind. -/
def pieceF (S : ByteArray) (i : Nat) : Option (List EvD × Nat) :=
 if atP [60, 33, 45, 45] S i then (noteF S (i + 4)).map fun j => ([], j)
 else if atP [60, 47] S i then (endF S (i + 2)).map fun x => ([evClose x.1], x.2)
 else if atP [60] S i then openF S (i + 1)
 else (dataF S i).map fun x => ([evData x.1], x.2)
/-- The pieces from a place on. -/
def docG (S : ByteArray) : Nat → Nat → List EvD → Option (List EvD)
 | 0, _, _ => none
 | f + 1, i, out => if i = S.size then some out else match pieceF S i with
  | none => none
  | some (l, j) => docG S f j (out ++ l)
/-- Behind the first part. -/
def prologF (S : ByteArray) : Option Nat :=
 if atP [60, 63, 120, 109, 108] S 0 = false then some 0 else
 if blkE S 5 = 5 then none else
 match fndL [63, 62] (S.data.toList.drop (blkE S 5)) with
 | none => none
 | some n => some (blkE S 5 + n + 2)
def bodyF (S : ByteArray) : Option (List EvD) := match prologF S with
 | none => none
 | some i => docG S (S.size + 1) i []
/-- One name twice. -/
def dupA (l : List AtD) : Bool := !decide ((l.map fun a => a.1.data.toList).Nodup)
def longB (l : List EvD) : Bool := l.any fun e => decide (16 < e.l.length)
def dupB (l : List EvD) : Bool := l.any fun e => dupA e.l
/-- What Read answers. -/
def markF (S : ByteArray) : Option (List EvD) × Int :=
 if 300000 < S.size then (none, 6) else if textB S = false then (none, 2) else
 match bodyF S with
 | none => (none, 5)
 | some l => if longB l then (none, 6) else if dupB l then (none, 10) else (some l, 0)
theorem dupA_snoc (l : List AtD) (a : AtD) : dupA (l ++ [a]) = (dupA l || l.any fun b => a.1.toList == b.1.toList) := by
 have hin : (a.1.data.toList ∈ l.map fun a => a.1.data.toList) ↔ (l.any fun b => a.1.toList == b.1.toList) = true := by
  rw [List.mem_map, List.any_eq_true]
  constructor
  ·rintro ⟨b, hb, e⟩
   exact ⟨b, hb, by rw [Lib.toList_data, Lib.toList_data]; exact beq_iff_eq.2 e.symm⟩
  ·rintro ⟨b, hb, e⟩
   rw [Lib.toList_data, Lib.toList_data] at e
   exact ⟨b, hb, (beq_iff_eq.1 e).symm⟩
 unfold dupA
 by_cases h1 : (l.map fun a => a.1.data.toList).Nodup
 ·by_cases h2 : a.1.data.toList ∈ l.map fun a => a.1.data.toList
  ·have : ¬ ((l ++ [a]).map fun a => a.1.data.toList).Nodup := by
    rw [List.map_append, List.nodup_append]
    rintro ⟨-, -, h⟩
    exact h _ h2 _ (by simp) rfl
   rw [decide_eq_false this, decide_eq_true h1, hin.1 h2]; rfl
  ·have : ((l ++ [a]).map fun a => a.1.data.toList).Nodup := by
    rw [List.map_append, List.nodup_append]
    refine ⟨h1, by simp, ?_⟩
    intro x hx y hy e
    simp at hy
    subst hy e
    exact h2 hx
   rw [decide_eq_true this, decide_eq_true h1, Bool.eq_false_iff.2 (fun e => h2 (hin.2 e))]; rfl
 ·have : ¬ ((l ++ [a]).map fun a => a.1.data.toList).Nodup := by
   rw [List.map_append, List.nodup_append]
   rintro ⟨h, -⟩
   exact h1 h
  rw [decide_eq_false this, decide_eq_false h1]; rfl
theorem blkE_le {S : ByteArray} {i : Nat} (h : i ≤ S.size) : i ≤ blkE S i ∧ blkE S i ≤ S.size := by
 have := spE_le (p := blkB) (l := S.data.toList) (i := i) (by rw [size_list]; exact h)
 rwa [size_list] at this
theorem insE_le {S : ByteArray} {i : Nat} (h : i ≤ S.size) : i ≤ insE S i ∧ insE S i ≤ S.size := by
 have := spE_le (p := insU) (l := S.data.toList) (i := i) (by rw [size_list]; exact h)
 rwa [size_list] at this
theorem quoF_at {S : ByteArray} {i : Nat} {q : UInt8} (h : quoF S i = some q) : atP [q] S i = true ∧ (q = 34 ∨ q = 39) := by
 unfold quoF at h
 split at h
 ·rename_i h1; cases h; exact ⟨h1, .inl rfl⟩
 ·split at h
  ·rename_i h1; cases h; exact ⟨h1, .inr rfl⟩
  ·cases h
theorem attrF_le {S : ByteArray} {i j : Nat} {x : AtD} (hi : i ≤ S.size) (h : attrF S i = some (x, j)) : i < j ∧ j ≤ S.size := by
 unfold attrF at h
 split at h
 ·cases h
 split at h
 ·cases h
 rename_i h1
 have h1 : atP [61] S (blkE S (insE S i)) = true := by simpa using h1
 have e1 := insE_le hi
 have e2 := blkE_le e1.2
 have e3 := atP_le e2.2 h1
 have e4 := blkE_le (S := S) (i := blkE S (insE S i) + 1) e3
 generalize blkE S (blkE S (insE S i) + 1) = k at h e4
 split at h
 ·cases h
 rename_i q hq
 have e5 := atP_le e4.2 (quoF_at hq).1
 split at h
 ·cases h
 rename_i n hn
 have e6 := fndL_le (by simp) hn
 rw [List.length_drop, size_list] at e6
 split at h
 ·cases h
 simp only [Option.some.injEq, Prod.mk.injEq] at h
 simp only [List.length_cons, List.length_nil] at *
 omega
theorem attrsF_le {S : ByteArray} : ∀ {f k : Nat} {acc : List AtD} {l : List AtD} {c : Bool} {j : Nat}, k ≤ S.size → attrsF S f k acc = some (l, c, j) → k < j ∧ j ≤ S.size
 | 0, k, acc, l, c, j, hk, h => by cases h
 | f + 1, k, acc, l, c, j, hk, h => by
  unfold attrsF at h
  have e1 := blkE_le hk
  split at h
  ·rename_i h1
   have := atP_le e1.2 h1
   simp only [Option.some.injEq, Prod.mk.injEq] at h
   simp only [List.length_cons, List.length_nil] at *
   omega
  split at h
  ·rename_i h1
   have := atP_le e1.2 h1
   simp only [Option.some.injEq, Prod.mk.injEq] at h
   simp only [List.length_cons, List.length_nil] at *
   omega
  split at h
  ·cases h
  split at h
  ·cases h
  rename_i x j2 hx
  have := attrF_le e1.2 hx
  have := attrsF_le (k := j2) this.2 h
  omega
theorem pieceF_le {S : ByteArray} {i j : Nat} {l : List EvD} (hi : i < S.size) (h : pieceF S i = some (l, j)) : i < j ∧ j ≤ S.size := by
 unfold pieceF at h
 split at h
 ·rename_i h1
  have e1 := atP_le (by omega) h1
  simp only [List.length_cons, List.length_nil] at e1
  unfold noteF at h
  split at h
  ·cases h
  rename_i n hn
  have e2 := fndL_le (by simp) hn
  rw [List.length_drop, size_list] at e2
  simp only [List.length_cons, List.length_nil] at e2
  split at h
  ·rename_i h3
   have e3 := atP_le (by omega) h3
   simp only [List.length_cons, List.length_nil, Option.map_some, Option.some.injEq, Prod.mk.injEq] at e3 h
   omega
  ·cases h
 split at h
 ·rename_i h1
  have e1 := atP_le (by omega) h1
  simp only [List.length_cons, List.length_nil] at e1
  unfold endF at h
  split at h
  ·cases h
  split at h
  ·rename_i h3
   have e4 := insE_le (S := S) (i := i + 2) (by omega)
   have e5 := blkE_le e4.2
   have e3 := atP_le e5.2 h3
   simp only [List.length_cons, List.length_nil, Option.map_some, Option.some.injEq, Prod.mk.injEq] at e3 h
   omega
  ·cases h
 split at h
 ·rename_i h1
  have e1 := atP_le (by omega) h1
  simp only [List.length_cons, List.length_nil] at e1
  unfold openF at h
  split at h
  ·cases h
  split at h
  ·cases h
  rename_i l2 c j2 hx
  have e4 := insE_le (S := S) (i := i + 1) (by omega)
  have := attrsF_le e4.2 hx
  simp only [Option.some.injEq, Prod.mk.injEq] at h
  omega
 ·rename_i h1
  unfold dataF at h
  split at h
  ·cases h
  simp only [Option.map_some, Option.some.injEq, Prod.mk.injEq] at h
  have e4 := spE_le (p := notLt) (l := S.data.toList) (i := i) (by rw [size_list]; omega)
  rw [size_list] at e4
  obtain ⟨b, hb⟩ : ∃ b, S.data.toList[i]? = some b := ⟨_, List.getElem?_eq_getElem (by rw [size_list]; exact hi)⟩
  have hp : notLt b = true := by
   unfold notLt
   by_cases hbb : b = 60
   ·exfalso
    apply h1
    unfold atP Lib.hasPrefix
    obtain ⟨hi2, e⟩ := List.getElem?_eq_some_iff.1 hb
    rw [List.drop_eq_getElem_cons hi2, e, hbb]
    rfl
   ·simpa using hbb
  have e5 := spE_yes hb hp
  have e6 := spE_le (p := notLt) (l := S.data.toList) (i := i + 1) (by rw [size_list]; omega)
  omega
theorem docG_le {S : ByteArray} : ∀ {f g i : Nat} {out : List EvD}, i ≤ S.size → S.size - i < f → S.size - i < g → docG S f i out = docG S g i out
 | 0, _, _, _, _, h, _ => by omega
 | _, 0, _, _, _, _, h => by omega
 | f + 1, g + 1, i, out, hi, hf, hg => by
  unfold docG
  split
  ·rfl
  ·rename_i hne
   split
   ·rfl
   ·rename_i l j hp
    have := pieceF_le (by omega) hp
    exact docG_le this.2 (by omega) (by omega)
end Go.Proofs.YtanncakdlflopaaGreatDoor
