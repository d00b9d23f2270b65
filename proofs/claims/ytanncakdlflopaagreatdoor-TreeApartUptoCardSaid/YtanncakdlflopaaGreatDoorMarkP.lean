/- mark's reader, on any document: what holds at its labels. (short) -/
import Derived.Test.YtanncakdlflopaaGreatDoorMarkI
import Derived.Test.YtanncakdlflopaaGreatDoorMarkKO
import Derived.Test.YtanncakdlflopaaGreatDoorLabJ
namespace Go.Proofs.YtanncakdlflopaaGreatDoor
open Go.RowKit
set_option linter.unusedVariables false
set_option linter.unusedSimpArgs false
set_option maxRecDepth 100000

/-- An event and where its attributes lie. -/
structure EvM where
 d : EvD
 p : Option Addr
 c : Nat
def EvM.cs (m : EvM) : List Value := [.int .i64 m.d.k, .string m.d.n, .slice m.p m.d.l.length m.c, .string m.d.t]
theorem EvM.cs_len (m : EvM) : m.cs.length = 4 := rfl
def EvM.res (m : EvM) : Res := .row m.p m.c 44 2 m.d.l.length (m.d.l.flatMap AtD.cs)
def outD (ms : List EvM) : List EvD := ms.map EvM.d
def outC (ms : List EvM) : List Value := ms.flatMap EvM.cs
def outR (ms : List EvM) : List Res := ms.map EvM.res
theorem outC_len (ms : List EvM) : (outC ms).length = ms.length * 4 := flat_len EvM.cs 4 EvM.cs_len ms
theorem outD_snoc (ms : List EvM) (x : EvM) : outD (ms ++ [x]) = outD ms ++ [x.d] := by simp [outD]
theorem outC_snoc (ms : List EvM) (x : EvM) : outC (ms ++ [x]) = outC ms ++ x.cs := by simp [outC]
theorem outR_snoc (ms : List EvM) (x : EvM) : outR (ms ++ [x]) = outR ms ++ [x.res] := by simp [outR]
theorem longB_add (a b : List EvD) : longB (a ++ b) = (longB a || longB b) := List.any_append
theorem dupB_add (a b : List EvD) : dupB (a ++ b) = (dupB a || dupB b) := List.any_append
/-- An event without attributes. -/
def evM (d : EvD) : EvM := ⟨d, none, 0⟩
theorem evM_res {d : EvD} (h : d.l = []) : (evM d).res = .row none 0 44 2 0 [] := by unfold EvM.res evM; rw [h]; rfl
theorem Mem.ev_in {w0 W : World} {A : List Res} {ms : List EvM} {d : EvD} (hd : d.l = []) (h : Mem w0 W (A ++ outR ms)) : Mem w0 W (A ++ outR (ms ++ [evM d])) := by
 rw [outR_snoc, evM_res hd, ← List.append_assoc]
 exact (h.row0 44 2).perm ((List.perm_append_comm (l₁ := [_]) (l₂ := A ++ outR ms)))

/-- A frame, written out. -/
theorem range_get {l : List Value} {n : Nat} (h : l.length = n) : l = (List.range n).map fun i => l.getD i undef := by
 apply List.ext_getElem?
 intro i
 subst h
 rw [List.getElem?_map]
 by_cases hi : i < l.length
 ·rw [List.getElem?_range hi, List.getElem?_eq_getElem hi]
  simp [List.getD, List.getElem?_eq_getElem hi]
 ·rw [List.getElem?_eq_none (by omega), List.getElem?_eq_none (by rw [List.length_range]; omega)]
  rfl
theorem frame_v {a : Act} {n : Nat} (hs : a.tmps.size = n) (hd : a.defers = []) : ∃ v : Nat → Value, (∀ i, v i = a.tmps.toList.getD i undef) ∧ a = ⟨((List.range n).map v).toArray, []⟩ := by
 refine ⟨fun i => a.tmps.toList.getD i undef, fun _ => rfl, ?_⟩
 obtain ⟨t, d⟩ := a
 simp only at hs hd ⊢
 subst hd
 congr 1
 rw [← range_get (by rw [← hs]; simp)]

theorem name_some {S : ByteArray} {i k : Nat} (h : nameM (S.extract i k) = true) : i < k := by
 by_cases hik : i < k
 ·exact hik
 ·have h0 : (S.extract i k).size = 0 := by rw [ByteArray.size_extract]; omega
  rw [nameM_empty h0] at h
  cases h
theorem atP_byte {S : ByteArray} {c : UInt8} {t : List UInt8} {i : Nat} (h : atP (c :: t) S i = true) : S.data.toList[i]? = some c := by
 have h1 : (c :: t).isPrefixOf (S.data.toList.drop i) = true := h
 cases hd : S.data.toList.drop i with
 | nil => rw [hd] at h1; cases h1
 | cons x r =>
  rw [hd] at h1
  have : c = x := by simp [List.isPrefixOf] at h1; exact h1.1
  subst this
  have e : (S.data.toList.drop i)[0]? = some c := by rw [hd]; rfl
  rw [List.getElem?_drop] at e
  simpa using e
theorem attrs_gt {S : ByteArray} {f k a : Nat} {acc : List AtD} (ha : blkE S k = a) (h : atP [62] S a = true) : attrsF S (f + 1) k acc = some (acc, false, a + 1) := by
 unfold attrsF; rw [ha, if_pos h]
theorem attrs_end {S : ByteArray} {f k a : Nat} {acc : List AtD} (ha : blkE S k = a) (h1 : atP [62] S a = false) (h : atP [47, 62] S a = true) : attrsF S (f + 1) k acc = some (acc, true, a + 2) := by
 unfold attrsF; rw [ha, if_neg (by rw [h1]; decide), if_pos h]
theorem attrs_stop {S : ByteArray} {f k : Nat} {acc : List AtD} (ha : blkE S k = k) (h1 : atP [62] S k = false) (h2 : atP [47, 62] S k = false) : attrsF S (f + 1) k acc = none := by
 unfold attrsF; rw [ha, if_neg (by rw [h1]; decide), if_neg (by rw [h2]; decide), if_pos rfl]
theorem attrs_none {S : ByteArray} {f k a : Nat} {acc : List AtD} (ha : blkE S k = a) (h1 : atP [62] S a = false) (h2 : atP [47, 62] S a = false) (h : attrF S a = none) : attrsF S (f + 1) k acc = none := by
 unfold attrsF; rw [ha, if_neg (by rw [h1]; decide), if_neg (by rw [h2]; decide)]
 split
 ·rfl
 ·rw [h]
theorem attrs_more {S : ByteArray} {f k a j : Nat} {acc : List AtD} {x : AtD} (ha : blkE S k = a) (hk : k < a) (h1 : atP [62] S a = false) (h2 : atP [47, 62] S a = false) (h : attrF S a = some (x, j)) : attrsF S (f + 1) k acc = attrsF S f j (acc ++ [x]) := by
 rw [attrsF, ha, if_neg (by rw [h1]; decide), if_neg (by rw [h2]; decide), if_neg (by omega), h]
theorem attr_no {S : ByteArray} {a : Nat} (h : ∀ b, S.data.toList[a]? = some b → insU b = false) : attrF S a = none := by
 have hk : insE S a = a := by
  cases hb : S.data.toList[a]? with
  | none => exact spE_end (List.getElem?_eq_none_iff.1 hb)
  | some b => exact spE_no hb (h b hb)
 unfold attrF
 rw [hk, if_pos (nameM_empty (by rw [ByteArray.size_extract]; omega))]
/-- The pieces behind an open. -/
def contA (S : ByteArray) (g : Nat) (out : List EvD) (N : ByteArray) (o : Option (List AtD × Bool × Nat)) : Option (List EvD) := match o with
 | none => none
 | some (l, c, j) => docG S g j (out ++ openL N l c)
theorem doc_end {S : ByteArray} {f : Nat} {out : List EvD} : docG S (f + 1) S.size out = some out := by unfold docG; rw [if_pos rfl]
theorem doc_none {S : ByteArray} {f i : Nat} {out : List EvD} (hi : i < S.size) (h : pieceF S i = none) : docG S (f + 1) i out = none := by
 unfold docG; rw [if_neg (by omega), h]
theorem doc_some {S : ByteArray} {f i j : Nat} {l : List EvD} {out : List EvD} (hi : i < S.size) (h : pieceF S i = some (l, j)) : docG S (f + 1) i out = docG S f j (out ++ l) := by
 rw [docG, if_neg (by omega), h]
theorem doc_open {S : ByteArray} {f i k : Nat} {N : ByteArray} {out : List EvD} (hi : i < S.size) (h0 : atP [60, 33, 45, 45] S i = false) (h1 : atP [60, 47] S i = false) (h2 : atP [60] S i = true) (hk : insE S (i + 1) = k) (hN : S.extract (i + 1) k = N) (hn : nameM N = true) :
  docG S (f + 1) i out = contA S f out N (attrsF S (S.size + 1) k []) := by
 rw [docG, if_neg (by omega)]
 unfold pieceF openF
 rw [if_neg (by rw [h0]; decide), if_neg (by rw [h1]; decide), if_pos h2, hk, hN, if_neg (by rw [hn]; decide)]
 unfold contA
 cases attrsF S (S.size + 1) k [] with
 | none => rfl
 | some x => rfl
theorem piece_note {S : ByteArray} {i : Nat} (h0 : atP [60, 33, 45, 45] S i = true) : pieceF S i = (noteF S (i + 4)).map fun j => ([], j) := by unfold pieceF; rw [if_pos h0]
theorem piece_end {S : ByteArray} {i : Nat} (h0 : atP [60, 33, 45, 45] S i = false) (h1 : atP [60, 47] S i = true) : pieceF S i = (endF S (i + 2)).map fun x => ([evClose x.1], x.2) := by unfold pieceF; rw [if_neg (by rw [h0]; decide), if_pos h1]
theorem piece_noname {S : ByteArray} {i k : Nat} {N : ByteArray} (h0 : atP [60, 33, 45, 45] S i = false) (h1 : atP [60, 47] S i = false) (h2 : atP [60] S i = true) (hk : insE S (i + 1) = k) (hN : S.extract (i + 1) k = N) (hn : nameM N = false) : pieceF S i = none := by
 unfold pieceF openF
 rw [if_neg (by rw [h0]; decide), if_neg (by rw [h1]; decide), if_pos h2, hk, hN, if_pos hn]
theorem piece_data {S : ByteArray} {i : Nat} (h0 : atP [60, 33, 45, 45] S i = false) (h1 : atP [60, 47] S i = false) (h2 : atP [60] S i = false) : pieceF S i = (dataF S i).map fun x => ([evData x.1], x.2) := by
 unfold pieceF; rw [if_neg (by rw [h0]; decide), if_neg (by rw [h1]; decide), if_neg (by rw [h2]; decide)]
theorem note_none {S : ByteArray} {i : Nat} (h : fndL [45, 45] (S.data.toList.drop i) = none) : noteF S i = none := by unfold noteF; rw [h]
theorem note_no {S : ByteArray} {i n : Nat} (h : fndL [45, 45] (S.data.toList.drop i) = some n) (h2 : atP [62] S (i + n + 2) = false) : noteF S i = none := by unfold noteF; rw [h]; simp only; rw [if_neg (by rw [h2]; decide)]
theorem note_some {S : ByteArray} {i n : Nat} (h : fndL [45, 45] (S.data.toList.drop i) = some n) (h2 : atP [62] S (i + n + 2) = true) : noteF S i = some (i + n + 3) := by unfold noteF; rw [h]; simp only; rw [if_pos h2]
section
variable {w0 W : World} {R : Nat} {T : List Res} {S : ByteArray} {ov : Value} {lg dp : Bool}
theorem gtakej {i : Nat} (j : Nat) (t : ByteArray) (hj : i + t.size = j) (hi : i ≤ S.size) (hs : S.size ≤ 1048576) (h1 : atP t.data.toList S i = true) (h : Mem w0 W (.box R 85 [.string S, .int .i64 i, ov, .bool lg, .bool dp] :: T)) :
  Calls Tryz.prog 63 #[.pointer (some ⟨R, 0, none⟩), .string t] W fun e w' => e = .returned (.bool true) ∧ Mem w0 w' (.box R 85 [.string S, .int .i64 j, ov, .bool lg, .bool dp] :: T) := by
 subst hj
 exact mtake_yes w0 W R T S t i ov lg dp h hi (by omega) h1
theorem gblanksv {i k : Nat} (v : Bool) (hi : i ≤ S.size) (hs : S.size ≤ 1048576) (h1 : blkE S i = k) (hv : decide (k > i) = v) (h : Mem w0 W (.box R 85 [.string S, .int .i64 i, ov, .bool lg, .bool dp] :: T)) :
  Calls Tryz.prog 64 #[.pointer (some ⟨R, 0, none⟩)] W fun e w' => e = .returned (.bool v) ∧ Mem w0 w' (.box R 85 [.string S, .int .i64 k, ov, .bool lg, .bool dp] :: T) := by
 subst hv
 exact gblanks _ rfl hi hs h1 h
theorem guntilj {i n : Nat} (j : Nat) (t : ByteArray) (hj : i + (n + t.size) = j) (hX : MaxAt w0) (hi : i ≤ S.size) (hs : S.size ≤ 1048576) (ht : t.data.toList ≠ []) (hc : fndL t.data.toList (S.data.toList.drop i) = some n) (h : Mem w0 W (.box R 85 [.string S, .int .i64 i, ov, .bool lg, .bool dp] :: T)) :
  Calls Tryz.prog 65 #[.pointer (some ⟨R, 0, none⟩), .string t] W fun e w' => e = .returned (.tuple #[.string (S.extract i (i + n)), .bool true]) ∧ Mem w0 w' (.box R 85 [.string S, .int .i64 j, ov, .bool lg, .bool dp] :: T) := by
 subst hj
 exact muntil_yes w0 W R T S t i n ov lg dp h hX hi hs ht hc
end
theorem long_ev {ms : List EvM} {d : EvD} (h : d.l = []) : longB (outD (ms ++ [evM d])) = longB (outD ms) := by
 rw [outD_snoc, longB_add]; simp [longB, evM, h]
theorem dup_ev {ms : List EvM} {d : EvD} (h : d.l = []) : dupB (outD (ms ++ [evM d])) = dupB (outD ms) := by
 rw [outD_snoc, dupB_add]; simp [dupB, dupA, evM, h]
theorem long_op {ms : List EvM} {x : EvM} : longB (outD (ms ++ [x])) = (longB (outD ms) || decide (16 < x.d.l.length)) := by
 rw [outD_snoc, longB_add]; simp [longB]
theorem dup_op {ms : List EvM} {x : EvM} : dupB (outD (ms ++ [x])) = (dupB (outD ms) || dupA x.d.l) := by
 rw [outD_snoc, dupB_add]; simp [dupB]
theorem long_op2 {ms : List EvM} {N : ByteArray} {acc : List AtD} {q : Option Addr} {d : Nat} : longB (outD (ms ++ [⟨evOpen N acc, q, d⟩])) = (longB (outD ms) || decide (16 < acc.length)) := long_op
theorem dup_op2 {ms : List EvM} {N : ByteArray} {acc : List AtD} {q : Option Addr} {d : Nat} : dupB (outD (ms ++ [⟨evOpen N acc, q, d⟩])) = (dupB (outD ms) || dupA acc) := dup_op
theorem long_more (b : Bool) (n : Nat) : ((b || decide (16 < n)) || decide (16 < n + 1)) = (b || decide (16 < n + 1)) := by
 by_cases h : 16 < n
 ·rw [decide_eq_true h, decide_eq_true (show 16 < n + 1 by omega)]; simp
 ·rw [decide_eq_false h]; simp
theorem long_more2 (b : Bool) (acc : List AtD) (x : AtD) : (b || decide (16 < (acc ++ [x]).length)) = ((b || decide (16 < acc.length)) || decide (16 < acc.length + 1)) := by rw [long_more, List.length_append]; rfl
/-- An event without attributes is put behind. -/
theorem Mem.ev_put {w0 W : World} {A B : Res} {ms : List EvM} {d : EvD} {p : Option Addr} {c : Nat} (hd : d.l = []) (h : Mem w0 W (A :: .row p c 57 4 (ms.length + 1) (outC ms ++ (evM d).cs) :: B :: outR ms)) :
  Mem w0 W (A :: B :: .row p c 57 4 (ms ++ [evM d]).length (outC (ms ++ [evM d])) :: outR (ms ++ [evM d])) := by
 rw [outC_snoc, List.length_append]
 exact Mem.ev_in (A := [A, B, _]) hd (h.perm (List.Perm.cons _ (List.Perm.swap _ _ _)))
/-- An event with its attributes is put behind. -/
theorem Mem.op_put {w0 W : World} {A B : Res} {ms : List EvM} {x : EvM} {p : Option Addr} {c : Nat} (h : Mem w0 W (A :: B :: x.res :: .row p c 57 4 (ms.length + 1) (outC ms ++ x.cs) :: outR ms)) :
  Mem w0 W (A :: B :: .row p c 57 4 (ms ++ [x]).length (outC (ms ++ [x])) :: outR (ms ++ [x])) := by
 rw [outC_snoc, List.length_append, outR_snoc]
 exact h.perm (List.Perm.cons _ (List.Perm.cons _ ((List.Perm.swap _ _ _).trans (List.Perm.cons _ (List.perm_append_comm (l₁ := [x.res]))))))
theorem Mem.op_put2 {w0 W : World} {A B : Res} {ms : List EvM} {x : EvM} {d : EvD} {p : Option Addr} {c : Nat} (hd : d.l = []) (h : Mem w0 W (A :: B :: x.res :: .row p c 57 4 (ms.length + 2) (outC ms ++ (x.cs ++ (evM d).cs)) :: outR ms)) :
  Mem w0 W (A :: B :: .row p c 57 4 (ms ++ [x] ++ [evM d]).length (outC (ms ++ [x] ++ [evM d])) :: outR (ms ++ [x] ++ [evM d])) := by
 rw [outC_snoc, outC_snoc, List.length_append, List.length_append]
 refine Mem.ev_in (A := [A, B, _]) hd ?_
 rw [outR_snoc, List.append_assoc (outC ms)]
 exact h.perm (List.Perm.cons _ (List.Perm.cons _ ((List.Perm.swap _ _ _).trans (List.Perm.cons _ (List.perm_append_comm (l₁ := [x.res]))))))
/-- What read leaves. -/
def RPost (r : Option (List EvD)) (w0 : World) (R : Nat) (S : ByteArray) (e : Ending) (w' : World) : Prop :=
 match r with
 | none => ∃ (ov : Value) (j : Nat) (lg dp : Bool) (T : List Res), j ≤ S.size ∧ e = .returned (.bool false) ∧ Mem w0 w' (.box R 85 [.string S, .int .i64 j, ov, .bool lg, .bool dp] :: T)
 | some l => e = .returned (.bool true) ∧ ∃ (ms : List EvM) (p : Option Addr) (c : Nat), outD ms = l ∧ ms.length ≤ S.size ∧ Mem w0 w' (.box R 85 [.string S, .int .i64 S.size, .slice p ms.length c, .bool (longB l), .bool (dupB l)] :: .row p c 57 4 ms.length (outC ms) :: outR ms)
/-- What holds at the labels. -/
def LabI (w0 : World) (R O : Nat) (S : ByteArray) (r : Option (List EvD)) (l m : Nat) (a : Act) (w : World) : Prop :=
 (a.tmps.size = 129 ∧ a.defers = [] ∧ a.tmps.toList.getD 0 undef = .pointer (some ⟨R, 0, none⟩) ∧ a.tmps.toList.getD 3 undef = .pointer (some ⟨O, 0, none⟩)) ∧
 ((l = 0 ∧ ∃ (i f : Nat) (ms : List EvM) (p : Option Addr) (c : Nat) (o1 o2 o3 o4 : Value), m = S.size - i ∧ i ≤ S.size ∧ S.size - i < f ∧ ms.length ≤ i ∧ docG S f i (outD ms) = r ∧
   Mem w0 w (.box R 85 [.string S, .int .i64 i, .slice p ms.length c, .bool (longB (outD ms)), .bool (dupB (outD ms))] :: .box O 57 [o1, o2, o3, o4] :: .row p c 57 4 ms.length (outC ms) :: outR ms)) ∨
  (l = 4 ∧ ∃ (k f g : Nat) (acc : List AtD) (N : ByteArray) (q : Option Addr) (d : Nat) (ms : List EvM) (p : Option Addr) (c : Nat), m = S.size - k ∧ k ≤ S.size ∧ S.size - k < f ∧ S.size - k ≤ g ∧ ms.length + 2 ≤ k ∧ acc.length ≤ k ∧ contA S g (outD ms) N (attrsF S f k acc) = r ∧
    Mem w0 w (.box R 85 [.string S, .int .i64 k, .slice p ms.length c, .bool (longB (outD ms) || decide (16 < acc.length)), .bool (dupB (outD ms) || dupA acc)] :: .box O 57 [.int .i64 1, .string N, .slice q acc.length d, .string ⟨#[]⟩] :: .row q d 44 2 acc.length (acc.flatMap AtD.cs) :: .row p c 57 4 ms.length (outC ms) :: outR ms)))
end Go.Proofs.YtanncakdlflopaaGreatDoor
