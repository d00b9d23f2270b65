/- A strings.Builder that lies in a writer of one's own. (short) The text of a tree, in plain Lean: as elements are told one behind the other, and as one is told with all that is within it. (*writer).head. (short) -/
import Derived.Test.YtanncakdlflopaaGreatDoorBldAt
import Derived.Test.YtanncakdlflopaaGreatDoorTreeD
import Derived.Test.YtanncakdlflopaaGreatDoorEscWalkA
namespace Go.Proofs.YtanncakdlflopaaGreatDoor
open Go.RowKit
set_option linter.unusedVariables false
set_option linter.unusedSimpArgs false
set_option maxRecDepth 100000

/-- What a writer's box holds. -/
abbrev wrC (tv hv pv : Value) (p : Option Addr) (n cap : Nat) : List Value := [tv, hv, pv, .slice p n cap]
def WrP (b : Nat) (pv : Value) : Prop := pv = .pointer none ∨ pv = .pointer (some ⟨b, 2, none⟩)
theorem wr_lies : liesAt Tryz.prog Tryz.prog.depth 71 (4 / Tryz.prog.cellsOf 71) 2 69 1 = true := by kernel_rfl

set_option maxHeartbeats 4000000 in
theorem tbcheck_fresh (tv hv : Value) (b n cap : Nat) (p : Option Addr) (w0 W : World) (L : List Res) (h : Mem w0 W (.box b 71 (wrC tv hv (.pointer none) p n cap) :: L)) :
  Calls Tryz.prog 47 #[.pointer (some ⟨b, 2, none⟩)] W fun e W' => e = .returned (.tuple #[]) ∧ Mem w0 W' (.box b 71 (wrC tv hv (.pointer (some ⟨b, 2, none⟩)) p n cap) :: L) := by
 have HM := Lib.hid h
 obtain ⟨j, hj, hjs⟩ := Option.map_eq_some_iff.1 bld_size
 have hsh := box_shape (h.get (k := 0) rfl)
 have c1 : (convert 67 113 (.pointer (some ⟨b, 2, none⟩))).run Tryz.prog W = .ok (.pointer (some ⟨b, 2, none⟩)) W :=
  Lib.run_to_unsafe W ⟨b, 2, none⟩ (by kernel_rfl) (by kernel_rfl) hj (by rw [hjs]; decide) hsh (show 2 < 4 by decide)
 have c2 : (callFunc 83 #[.pointer (some ⟨b, 2, none⟩)]).run Tryz.prog W = .ok (.value (.pointer (some ⟨b, 2, none⟩))) W := by
  rw [run_callFunc_extern Tryz.func83 (by kernel_rfl) (by kernel_rfl) (by kernel_rfl) (e := Extern.AbiNoEscape.same) (by kernel_rfl)]
  rw [Lib.run_noEscape]
  rfl
 have c3 : (convert 113 67 (.pointer (some ⟨b, 2, none⟩))).run Tryz.prog W = .ok (.pointer (some ⟨b, 2, none⟩)) W :=
  Lib.run_from_unsafe W ⟨b, 2, none⟩ (by kernel_rfl) (by kernel_rfl) hj hsh wr_lies
 clear h hj hjs hsh
 go_enter Tryz.func47, Tryz.ntmps47
 go_wp2_with (first | refine mP ?_ | (refine mS ?_; clear HM; intro W1 HM))
 go_end0
 exact ⟨rfl, HM.out⟩

set_option maxHeartbeats 4000000 in
theorem tbcheck_any (tv hv : Value) (b n cap : Nat) (p : Option Addr) (pv : Value) (hp : WrP b pv) (w0 W : World) (L : List Res) (h : Mem w0 W (.box b 71 (wrC tv hv pv p n cap) :: L)) :
  Calls Tryz.prog 47 #[.pointer (some ⟨b, 2, none⟩)] W fun e W' => e = .returned (.tuple #[]) ∧ Mem w0 W' (.box b 71 (wrC tv hv (.pointer (some ⟨b, 2, none⟩)) p n cap) :: L) := by
 rcases hp with rfl | rfl
 ·exact tbcheck_fresh tv hv b n cap p w0 W L h
 ·have HM := Lib.hid h
  obtain ⟨j, hj, hjs⟩ := Option.map_eq_some_iff.1 bld_size
  have c1 : (binOp .neq 67 (.pointer (some ⟨b, 2, none⟩)) (.pointer (some ⟨b, 2, none⟩))).run Tryz.prog W = .ok (.bool false) W := Lib.run_neq_ptr_same W ⟨b, 2, none⟩ (te := 69) (by kernel_rfl) hj
  clear h hj hjs
  go_enter Tryz.func47, Tryz.ntmps47
  go_wp2_with (first | refine mP ?_ | (refine mS ?_; clear HM; intro W1 HM))
  go_end0
  exact ⟨rfl, HM.out⟩

set_option maxHeartbeats 4000000 in
theorem tbwrite_any (tv hv : Value) (b n cap : Nat) (p : Option Addr) (pv : Value) (hp : WrP b pv) (cs : List Value) (s : ByteArray) (w0 W : World) (L : List Res) (h : Mem w0 W (.box b 71 (wrC tv hv pv p n cap) :: .row p cap 5 1 n cs :: L)) (h47 : n + s.size ≤ 140737488355328) :
  Calls Tryz.prog 32 #[.pointer (some ⟨b, 2, none⟩), .string s] W fun e W' => e = .returned (.tuple #[.int .i64 s.size, .nilIface]) ∧ ∃ p' cap', Mem w0 W' (.box b 71 (wrC tv hv (.pointer (some ⟨b, 2, none⟩)) p' (n + s.size) cap') :: .row p' cap' 5 1 (n + s.size) (cs ++ Lib.strCells s) :: L) := by
 have HM := Lib.hid h
 have HC := Lib.hid (tbcheck_any tv hv b n cap p pv hp w0 W _ h)
 clear h hp
 go_enter Tryz.func32, Tryz.ntmps32
 go_wp2_with (first | (go_at_call 47; (with_reducible refine cM HC.out ?_); clear HM; intro W1 HM) | ((with_reducible refine iat 14 ?_); (refine aps rfl (by kernel_rfl) HM.out 1 rfl rfl rfl h47 ?_; intro p1 cap1 W1 HM1; replace HM := Lib.hid HM1; clear HM1; simp only [List.set] at HM)) | refine mP ?_ | (refine mS ?_; clear HM; intro W1 HM))
 go_ret2
 exact ⟨rfl, _, _, HM.out⟩

set_option maxHeartbeats 4000000 in
theorem tbstring_some (tv hv : Value) (b cap g : Nat) (pv : Value) (l : List UInt8) (hl : l ≠ []) (w0 W : World) (L : List Res) (h : Mem w0 W (.box b 71 (wrC tv hv pv (some ⟨g, 0, none⟩) l.length cap) :: .row (some ⟨g, 0, none⟩) cap 5 1 l.length (Lib.byteCells l) :: L)) :
  Calls Tryz.prog 35 #[.pointer (some ⟨b, 2, none⟩)] W fun e W' => e = .returned (.string ⟨l.toArray⟩) ∧ Mem w0 W' L := by
 have hrow := h.get (k := 1) rfl
 have hcap := row_cap hrow
 have hrow2 := hrow
 obtain ⟨-, ⟨h0, -⟩ | ⟨g', cap', cur, hv, hbg, hg, hnc, hcm, hcs, htake⟩⟩ := (hrow : W.ownsRow _ _ _ _ _ _)
 ·cases h0
 simp only [Value.slice.injEq, Option.some.injEq, Addr.mk.injEq, and_true, true_and] at hv
 obtain ⟨rfl, rfl⟩ := hv
 have hpos : 0 < l.length := List.length_pos_iff.2 hl
 have c1 : W.drew.cell? ⟨b, 3, none⟩ = some (.slice (some ⟨g, 0, none⟩) l.length cap) := box_cells (h.get (k := 0) rfl) 3 0 _ rfl
 have hSD : (Builtin.unsafeSliceData_ #[62] 90 #[.slice (some ⟨g, 0, none⟩) l.length cap]).run Tryz.prog W.drew = .ok (.pointer (some ⟨g, 0, none⟩)) W.drew :=
  Lib.run_unsafeSliceData_row _ _ _ _ _ _ (by omega)
 have hUS : (Builtin.unsafeString_ #[90, 3] 9 #[.pointer (some ⟨g, 0, none⟩), .int .i64 l.length]).run Tryz.prog W.drew = .ok (.string ⟨l.toArray⟩) (W.drew.freeze ⟨g, 0, none⟩ l.length) := by
  refine Lib.run_unsafeString_row W.drew 90 3 9 5 (by kernel_rfl) (by kernel_rfl) g cur.size (by have hg' : W.drew.heap[g]? = some (.cells cur 5 (0, 0)) := hg; simp [World.shape?, hg']) l hl (by omega) (by unfold maxLen at hcm; omega) ?_
  intro j x hx
  have := (row_cells hrow2 0).2.2 j (.int .u8 x.toNat) (by simp [Lib.byteCells, hx])
  exact this
 have HF := Lib.hid (show Mem w0 (W.drew.freeze ⟨g, 0, none⟩ l.length) L from Mem.lose (h.sub (.cons _ (.refl _))) (freeze_grown W g l.length))
 clear h hrow2 hcap hbg hg hnc hcm hcs htake
 go_enter Tryz.func35, Tryz.ntmps35
 go_wp2
 go_region
 all_goals (go_wp2; go_ret; exact ⟨rfl, HF.out⟩)

set_option maxHeartbeats 4000000 in
theorem tbstring_nil (tv hv : Value) (b cap : Nat) (pv : Value) (w0 W : World) (L : List Res) (h : Mem w0 W (.box b 71 (wrC tv hv pv none 0 cap) :: L)) (hc : cap = 0) :
  Calls Tryz.prog 35 #[.pointer (some ⟨b, 2, none⟩)] W fun e W' => e = .returned (.string ⟨#[]⟩) ∧ Mem w0 W' L := by
 subst hc
 have c1 : W.drew.cell? ⟨b, 3, none⟩ = some (.slice none 0 0) := box_cells (h.get (k := 0) rfl) 3 0 _ rfl
 have hSD : (Builtin.unsafeSliceData_ #[62] 90 #[.slice none 0 0]).run Tryz.prog W.drew = .ok (.pointer none) W.drew := rfl
 have hUS := fun (W : World) (q : Option Addr) => Lib.run_unsafeString_none (P := Tryz.prog) W 90 3 9 q
 have HF := Lib.hid (show Mem w0 W.drew L from (h.sub (.cons _ (.refl _))).next ((Below.refl _ _).drew))
 clear h
 go_enter Tryz.func35, Tryz.ntmps35
 go_wp2
 go_region
 all_goals (go_wp2; go_ret; exact ⟨rfl, HF.out⟩)

theorem tbstring_any (tv hv : Value) (b n cap : Nat) (p : Option Addr) (pv : Value) (l : List UInt8) (hl : 0 < l.length) (hn : n = l.length) (w0 W : World) (L : List Res) (h : Mem w0 W (.box b 71 (wrC tv hv pv p n cap) :: .row p cap 5 1 n (Lib.byteCells l) :: L)) :
  Calls Tryz.prog 35 #[.pointer (some ⟨b, 2, none⟩)] W fun e W' => e = .returned (.string ⟨l.toArray⟩) ∧ Mem w0 W' L := by
 subst hn
 obtain ⟨g, rfl⟩ := row_some (h.get (k := 1) rfl) hl
 exact tbstring_some tv hv b cap g pv l (List.length_pos_iff.1 hl) w0 W L h

set_option maxHeartbeats 4000000 in
theorem tbwrite_zero (tv hv : Value) (b : Nat) (pv : Value) (hp : WrP b pv) (w0 W : World) (L : List Res) (h : Mem w0 W (.box b 71 (wrC tv hv pv none 0 0) :: L)) :
  Calls Tryz.prog 32 #[.pointer (some ⟨b, 2, none⟩), .string ⟨#[]⟩] W fun e W' => e = .returned (.tuple #[.int .i64 0, .nilIface]) ∧ Mem w0 W' (.box b 71 (wrC tv hv (.pointer (some ⟨b, 2, none⟩)) none 0 0) :: L) := by
 have HM := Lib.hid h
 have HC := Lib.hid (tbcheck_any tv hv b 0 0 none pv hp w0 W _ h)
 clear h hp
 go_enter Tryz.func32, Tryz.ntmps32
 go_wp2_with fail
 refine HC.out.mono ?_
 rintro e W2 ⟨rfl, hM⟩
 clear HM HC
 have HM := Lib.hid hM
 clear hM
 go_wp2_with (first | (refine apn (by kernel_rfl) rfl rfl ?_) | refine mP ?_ | (refine mS ?_; clear HM; intro W1 HM))
 go_ret2
 exact ⟨rfl, HM.out⟩

/-- A writer whose bytes are these. -/
def WrAt (w0 W : World) (b : Nat) (tv hv : Value) (out : List UInt8) (L : List Res) : Prop :=
 ∃ (pv : Value) (p : Option Addr) (cap : Nat), WrP b pv ∧ (out = [] → p = none ∧ cap = 0) ∧ Mem w0 W (.box b 71 (wrC tv hv pv p out.length cap) :: .row p cap 5 1 out.length (bC out) :: L)
theorem WrAt.start {w0 W : World} {b : Nat} {tv hv : Value} {L : List Res} (h : Mem w0 W (.box b 71 (wrC tv hv (.pointer none) none 0 0) :: L)) : WrAt w0 W b tv hv [] L :=
 ⟨_, none, 0, .inl rfl, fun _ => ⟨rfl, rfl⟩, (h.row0 5 1).perm (List.Perm.swap _ _ _)⟩
theorem WrAt.below {w0 W : World} {b : Nat} {tv hv : Value} {out : List UInt8} {L : List Res} (h : WrAt w0 W b tv hv out L) : Below w0.heap.size w0 W := by
 obtain ⟨pv, p, cap, -, -, hM⟩ := h
 exact hM.below
theorem WrAt.next {w0 W W' : World} {b : Nat} {tv hv : Value} {out : List UInt8} {L : List Res} (h : WrAt w0 W b tv hv out L) (hb : Below W.heap.size W W') : WrAt w0 W' b tv hv out L := by
 obtain ⟨pv, p, cap, h1, h2, hM⟩ := h
 exact ⟨pv, p, cap, h1, h2, hM.next hb⟩
theorem tbw_at {w0 W : World} {b : Nat} {tv hv : Value} {out : List UInt8} {L : List Res} (h : WrAt w0 W b tv hv out L) (s : ByteArray) (h47 : out.length + s.size ≤ 140737488355328) :
  Calls Tryz.prog 32 #[.pointer (some ⟨b, 2, none⟩), .string s] W fun e W' => e = .returned (.tuple #[.int .i64 s.size, .nilIface]) ∧ WrAt w0 W' b tv hv (out ++ s.data.toList) L := by
 obtain ⟨pv, p, cap, hp, hz, hM⟩ := h
 by_cases he : out ++ s.data.toList = []
 ·obtain ⟨rfl, hs⟩ := List.append_eq_nil_iff.1 he
  obtain rfl : s = ⟨#[]⟩ := ba_eq hs
  obtain ⟨rfl, rfl⟩ := hz rfl
  refine (tbwrite_zero tv hv b pv hp w0 W L (hM.sub (.cons_cons _ (.cons _ (.refl _))))).mono ?_
  rintro e W' ⟨rfl, h⟩
  exact ⟨rfl, _, none, 0, .inr rfl, fun _ => ⟨rfl, rfl⟩, (h.row0 5 1).perm (List.Perm.swap _ _ _)⟩
 ·refine (tbwrite_any tv hv b out.length cap p pv hp (bC out) s w0 W L hM h47).mono ?_
  rintro e W' ⟨rfl, p', cap', h⟩
  refine ⟨rfl, _, p', cap', .inr rfl, fun h => absurd h he, ?_⟩
  rw [List.length_append, size_list, bC_append]
  exact h
theorem tbs_at {w0 W : World} {b : Nat} {tv hv : Value} {out : List UInt8} {L : List Res} (h : WrAt w0 W b tv hv out L) :
  Calls Tryz.prog 35 #[.pointer (some ⟨b, 2, none⟩)] W fun e W' => e = .returned (.string ⟨out.toArray⟩) ∧ Mem w0 W' L := by
 obtain ⟨pv, p, cap, hp, hz, hM⟩ := h
 by_cases he : out = []
 ·subst he
  obtain ⟨rfl, rfl⟩ := hz rfl
  exact tbstring_nil tv hv b 0 pv w0 W L (hM.sub (.cons_cons _ (.cons _ (.refl _)))) rfl
 ·exact tbstring_any tv hv b out.length cap p pv out (List.length_pos_iff.2 he) rfl w0 W L hM

set_option maxHeartbeats 4000000 in
theorem tblen_at {w0 W : World} {b : Nat} {tv hv : Value} {out : List UInt8} {L : List Res} (h : WrAt w0 W b tv hv out L) :
  Calls Tryz.prog 34 #[.pointer (some ⟨b, 2, none⟩)] W fun e W' => e = .returned (.int .i64 out.length) ∧ WrAt w0 W' b tv hv out L := by
 obtain ⟨pv, p, cap, hp, hz, hM⟩ := h
 have HM := Lib.hid hM
 have HP := Lib.hid hp
 have HZ := Lib.hid hz
 clear hM hp hz
 go_enter Tryz.func34, Tryz.ntmps34
 go_wp2_with (first | refine mP ?_)
 go_ret
 exact ⟨rfl, pv, p, cap, HP.out, HZ.out, HM.out⟩
end Go.Proofs.YtanncakdlflopaaGreatDoor

namespace Go.Proofs.YtanncakdlflopaaGreatDoor
open Go.RowKit
set_option linter.unusedVariables false
set_option linter.unusedSimpArgs false
set_option maxRecDepth 100000

def padL (n : Nat) : List UInt8 := (List.replicate n [32, 32]).flatten
def attL (a : AtD) : List UInt8 := 32 :: (a.1.data.toList ++ 61 :: 34 :: (escT true a.2.data.toList ++ [34]))
def headL (e : ElD) : List UInt8 := 60 :: (e.n.data.toList ++ e.l.flatMap attL)
def endL (n : ByteArray) : List UInt8 := 60 :: 47 :: (n.data.toList ++ [62, 10])
/-- Has an element others within? -/
def hasK (l : List ElD) (k : Nat) : Bool := l.any fun e => e.up == (k : Int)
def tailL (l : List ElD) (i : Nat) (e : ElD) : List UInt8 := if hasK l i then [62, 10] else if e.t.data.toList = [] then [47, 62, 10] else 62 :: (escT false e.t.data.toList ++ endL e.n)
def nameL (l : List ElD) (k : Nat) : ByteArray := match l[k]? with
 | some e => e.n
 | none => ⟨#[]⟩
/-- What closes an element that lies n deep. -/
def closeL (l : List ElD) (n k : Nat) : List UInt8 := if hasK l k then padL n ++ endL (nameL l k) else []
def closesL (l : List ElD) (n : Nat) : List Nat → List UInt8
 | [] => []
 | k :: q => closeL l (n + q.length) k ++ closesL l n q
def notUp (e : ElD) (k : Nat) : Bool := !((k : Int) == e.up)
/-- What follows, from the element at i on: o, the path of the one ahead. -/
def seqW (l : List ElD) : List ElD → Nat → List Nat → List UInt8
 | [], _, o => closesL l 0 o
 | e :: r, i, o => closesL l (o.dropWhile (notUp e)).length (o.takeWhile (notUp e)) ++ (padL (o.dropWhile (notUp e)).length ++ (headL e ++ (tailL l i e ++ seqW l r (i + 1) (i :: o.dropWhile (notUp e)))))
def proL : List UInt8 := [60, 63, 120, 109, 108, 32, 118, 101, 114, 115, 105, 111, 110, 61, 34, 49, 46, 48, 34, 32, 101, 110, 99, 111, 100, 105, 110, 103, 61, 34, 85, 84, 70, 45, 56, 34, 63, 62, 10]
def docL (l : List ElD) : List UInt8 := proL ++ seqW l l 0 []

theorem closes_app (l : List ElD) (n : Nat) : ∀ (a b : List Nat), closesL l n (a ++ b) = closesL l (n + b.length) a ++ closesL l n b
 | [], b => rfl
 | k :: a, b => by
  rw [List.cons_append, closesL, closesL, closes_app l n a b, List.length_append, List.append_assoc, show n + (a.length + b.length) = n + b.length + a.length by omega]
theorem seq_at {l : List ElD} {i : Nat} {o : List Nat} {e : ElD} (he : l[i]? = some e) : seqW l (l.drop i) i o = closesL l (o.dropWhile (notUp e)).length (o.takeWhile (notUp e)) ++ (padL (o.dropWhile (notUp e)).length ++ (headL e ++ (tailL l i e ++ seqW l (l.drop (i + 1)) (i + 1) (i :: o.dropWhile (notUp e))))) := by
 obtain ⟨hi, e1⟩ := List.getElem?_eq_some_iff.1 he
 rw [List.drop_eq_getElem_cons hi, e1, seqW]
theorem seq_end {l : List ElD} {i : Nat} {o : List Nat} (he : l[i]? = none) : seqW l (l.drop i) i o = closesL l 0 o := by
 rw [List.drop_of_length_le (List.getElem?_eq_none_iff.1 he), seqW]
theorem take_pre {e : ElD} : ∀ {a b : List Nat}, (∀ k ∈ a, (k : Int) ≠ e.up) → (a ++ b).takeWhile (notUp e) = a ++ b.takeWhile (notUp e) ∧ (a ++ b).dropWhile (notUp e) = b.dropWhile (notUp e)
 | [], b, _ => ⟨rfl, rfl⟩
 | k :: a, b, h => by
  have h1 : notUp e k = true := by unfold notUp; simpa using h k (by simp)
  obtain ⟨h2, h3⟩ := take_pre (a := a) (b := b) (fun x hx => h x (by simp [hx]))
  constructor
  ·rw [List.cons_append, List.takeWhile_cons, if_pos h1, h2]; rfl
  ·rw [List.cons_append, List.dropWhile_cons, if_pos h1, h3]
theorem take_hit {e : ElD} {k : Nat} {q : List Nat} (h : (k : Int) = e.up) : (k :: q).takeWhile (notUp e) = [] ∧ (k :: q).dropWhile (notUp e) = k :: q := by
 have h1 : notUp e k = false := by unfold notUp; simpa using h
 constructor
 ·rw [List.takeWhile_cons, if_neg (by rw [h1]; decide)]
 ·rw [List.dropWhile_cons, if_neg (by rw [h1]; decide)]
/-- One that isn't the parent is closed. -/
theorem seq_pop {l : List ElD} {i k : Nat} {q : List Nat} (h : ∀ e, l[i]? = some e → (k : Int) ≠ e.up) : seqW l (l.drop i) i (k :: q) = closeL l q.length k ++ seqW l (l.drop i) i q := by
 cases he : l[i]? with
 | none => rw [seq_end he, seq_end he, closesL, Nat.zero_add]
 | some e =>
  have h1 : notUp e k = true := by unfold notUp; simpa using h e he
  have hl : (q.takeWhile (notUp e)).length + (q.dropWhile (notUp e)).length = q.length := by
   rw [← List.length_append, List.takeWhile_append_dropWhile]
  rw [seq_at he, seq_at he, List.takeWhile_cons, if_pos h1, List.dropWhile_cons, if_pos h1, closesL, List.append_assoc, show (q.dropWhile (notUp e)).length + (q.takeWhile (notUp e)).length = q.length by omega]
theorem seq_push {l : List ElD} {i k : Nat} {q : List Nat} {e : ElD} (he : l[i]? = some e) (h : (k : Int) = e.up) : seqW l (l.drop i) i (k :: q) = padL (q.length + 1) ++ (headL e ++ (tailL l i e ++ seqW l (l.drop (i + 1)) (i + 1) (i :: k :: q))) := by
 obtain ⟨h1, h2⟩ := take_hit (q := q) h
 rw [seq_at he, h1, h2]
 rfl
theorem seq_root {l : List ElD} {i : Nat} {e : ElD} (he : l[i]? = some e) : seqW l (l.drop i) i [] = headL e ++ (tailL l i e ++ seqW l (l.drop (i + 1)) (i + 1) [i]) := by
 rw [seq_at he]
 rfl

/-- What Check asked. -/
theorem chk_all {l : List ElD} : ∀ {r : List ElD} {i : Nat} {o : List Nat} {m : Nat}, chkF l r i o m = 0 → (∀ x ∈ o, x < i) → (∀ (j : Nat) (e : ElD), r[j]? = some e → rightB e = true ∧ (i + j = 0 → e.up = -1) ∧ (0 < i + j → 0 ≤ e.up ∧ e.up < ((i + j : Nat) : Int)))
 | [], i, o, m, h, ho => by intro j e he; simp at he
 | e0 :: r, i, o, m, h, ho => by
  rw [chkF] at h
  have hr : rightB e0 = true := by
   cases hq : rightB e0 with
   | true => rfl
   | false => rw [if_pos hq] at h; cases h
  rw [if_neg (by rw [hr]; decide)] at h
  by_cases hi : i = 0
  ·subst hi
   rw [if_pos rfl] at h
   by_cases hu : e0.up = -1
   ·rw [if_pos hu] at h
    have ih := chk_all h (by intro x hx; simp at hx; omega)
    intro j e he
    cases j with
    | zero => cases he; exact ⟨hr, fun _ => hu, fun h => absurd h (by omega)⟩
    | succ j =>
     obtain ⟨a, b, c⟩ := ih j e (by simpa using he)
     exact ⟨a, fun h => absurd h (by omega), fun _ => by rw [show 0 + (j + 1) = 0 + 1 + j by omega]; exact c (by omega)⟩
   ·rw [if_neg hu] at h; cases h
  ·rw [if_neg hi] at h
   cases hd : o.dropWhile (fun k : Nat => !((k : Int) == e0.up)) with
   | nil => rw [hd] at h; cases h
   | cons k q =>
    rw [hd] at h
    dsimp only at h
    have hsub : ∀ x ∈ k :: q, x ∈ o := fun x hx => by rw [← hd] at hx; exact (List.dropWhile_suffix _).subset hx
    have hku : (k : Int) = e0.up := by
     have hne : o.dropWhile (fun k : Nat => !((k : Int) == e0.up)) ≠ [] := by rw [hd]; simp
     have := List.head_dropWhile_not (fun k : Nat => !((k : Int) == e0.up)) hne
     simpa [hd] using this
    have hki := ho k (hsub k (by simp))
    split at h
    ·have ih := chk_all h (by
      intro x hx
      rcases List.mem_cons.1 hx with rfl | hx
      ·omega
      ·have := ho x (hsub x hx); omega)
     intro j e he
     cases j with
     | zero => cases he; exact ⟨hr, fun h => absurd h (by omega), fun _ => by omega⟩
     | succ j =>
      obtain ⟨a, b, c⟩ := ih j e (by simpa using he)
      exact ⟨a, fun h => absurd h (by omega), fun _ => by rw [show i + (j + 1) = i + 1 + j by omega]; exact c (by omega)⟩
    ·cases h
theorem checkT_parts {l : List ElD} (h : checkT l = 0) : 0 < l.length ∧ l.length ≤ 20000 ∧ chkF l (l.drop 0) 0 [] 0 = 0 := by
 unfold checkT at h
 split at h
 ·cases h
 split at h
 ·cases h
 ·rename_i h1 h2
  exact ⟨List.length_pos_iff.2 h2, by omega, h⟩
theorem checkT_all {l : List ElD} (h : checkT l = 0) : ∀ (j : Nat) (e : ElD), l[j]? = some e → rightB e = true ∧ (j = 0 → e.up = -1) ∧ (0 < j → 0 ≤ e.up ∧ e.up < (j : Int)) := by
 intro j e he
 have := chk_all (checkT_parts h).2.2 (by intro x hx; cases hx) j e he
 rw [Nat.zero_add] at this
 exact this

/-- Sizes. -/
def szW (e : ElD) : Prop := e.n.size ≤ 1048576 ∧ e.t.size ≤ 1048576 ∧ ∀ a ∈ e.l, a.1.size ≤ 1048576 ∧ a.2.size ≤ 1048576
theorem padL_len (n : Nat) : (padL n).length = 2 * n := by
 unfold padL
 induction n with
 | zero => rfl
 | succ n ih => rw [List.replicate_succ, List.flatten_cons, List.length_append, ih]; simp; omega
theorem padL_succ (n : Nat) : padL (n + 1) = padL n ++ [32, 32] := by
 unfold padL
 rw [List.replicate_succ', List.flatten_append]
 simp
theorem attL_len {a : AtD} (h : a.1.size ≤ 1048576 ∧ a.2.size ≤ 1048576) : (attL a).length ≤ 41000000 := by
 have h2 := escT_len true a.2.data.toList
 have e1 := size_list a.1
 have e2 := size_list a.2
 unfold attL
 simp only [List.length_cons, List.length_append, List.length_nil]
 omega
theorem attLs_len : ∀ {l : List AtD}, (∀ a ∈ l, a.1.size ≤ 1048576 ∧ a.2.size ≤ 1048576) → (l.flatMap attL).length ≤ 41000000 * l.length
 | [], _ => by simp
 | a :: l, h => by
  have h1 := attL_len (h a (by simp))
  have h2 := attLs_len (l := l) (fun b hb => h b (by simp [hb]))
  rw [List.flatMap_cons, List.length_append, List.length_cons]
  omega
theorem headL_len {e : ElD} (h : szW e) (hl : e.l.length ≤ 16) : (headL e).length ≤ 700000000 := by
 have h1 := attLs_len h.2.2
 have e1 := size_list e.n
 have := h.1
 unfold headL
 rw [List.length_cons, List.length_append]
 omega
theorem endL_len (n : ByteArray) : (endL n).length = n.size + 4 := by
 unfold endL
 simp only [List.length_cons, List.length_append, List.length_nil, size_list]
theorem tailL_len {l : List ElD} {i : Nat} {e : ElD} (h : szW e) : (tailL l i e).length ≤ 41000000 := by
 have h2 := escT_len false e.t.data.toList
 have e1 := size_list e.t
 have e2 := endL_len e.n
 have h3 := h.1
 have h4 := h.2.1
 unfold tailL
 split
 ·simp
 split
 ·simp
 ·rw [List.length_cons, List.length_append]; omega
theorem closeL_len {l : List ElD} (hz : ∀ x ∈ l, szW x) (n k : Nat) : (closeL l n k).length ≤ 2 * n + 1048580 := by
 unfold closeL
 split
 ·rw [List.length_append, padL_len, endL_len]
  unfold nameL
  split
  ·rename_i e he
   have := (hz e (List.mem_of_getElem? he)).1
   omega
  ·have : (⟨#[]⟩ : ByteArray).size = 0 := rfl
   omega
 ·simp
theorem closesL_len {l : List ElD} (hz : ∀ x ∈ l, szW x) (n : Nat) : ∀ (o : List Nat), n + o.length ≤ 20000 → (closesL l n o).length ≤ 1100000 * o.length
 | [], _ => by simp [closesL]
 | k :: q, h => by
  simp only [List.length_cons] at h
  have h1 := closeL_len hz (n + q.length) k
  have h2 := closesL_len hz n q (by omega)
  rw [closesL, List.length_append, List.length_cons]
  omega
theorem seqW_len {l : List ElD} (hz : ∀ x ∈ l, szW x) : ∀ {r : List ElD} {i : Nat} {o : List Nat}, (∀ x ∈ r, szW x ∧ x.l.length ≤ 16) → o.length + r.length ≤ 20000 → (seqW l r i o).length ≤ 1100000 * o.length + 800000000 * r.length
 | [], i, o, h, ho => by
  rw [seqW]
  have := closesL_len hz 0 o (by omega)
  simpa using this
 | e :: r, i, o, h, ho => by
  have hl : (o.takeWhile (notUp e)).length + (o.dropWhile (notUp e)).length = o.length := by
   rw [← List.length_append, List.takeWhile_append_dropWhile]
  rw [List.length_cons] at ho
  have h1 := closesL_len hz (o.dropWhile (notUp e)).length (o.takeWhile (notUp e)) (by omega)
  have h2 := headL_len (h e (by simp)).1 (h e (by simp)).2
  have h3 := tailL_len (l := l) (i := i) (h e (by simp)).1
  have h4 := seqW_len hz (r := r) (i := i + 1) (o := i :: o.dropWhile (notUp e)) (fun x hx => h x (by simp [hx])) (by rw [List.length_cons]; omega)
  rw [List.length_cons] at h4
  rw [seqW]
  simp only [List.length_append, padL_len, List.length_cons]
  omega
theorem docL_len {l : List ElD} (h : checkT l = 0) (hz : ∀ x ∈ l, szW x) : (docL l).length ≤ 17000000000000 := by
 have hn := (checkT_parts h).2.1
 have h1 := seqW_len hz (r := l) (i := 0) (o := []) (fun x hx => by
  obtain ⟨j, hj⟩ := List.getElem?_of_mem hx
  have hr := (checkT_all h j x hj).1
  unfold rightB at hr
  simp only [Bool.and_eq_true, decide_eq_true_eq] at hr
  exact ⟨hz x hx, hr.1.1.2⟩) (by simpa using hn)
 unfold docL proL
 simp only [List.length_append, List.length_cons, List.length_nil] at *
 omega

/-! As one element is told with all that is within it. -/
section
variable {l : List ElD} {full : List UInt8}
/-- Told as far as an element at a place, but for what closes those of o. -/
def InvW (l : List ElD) (full : List UInt8) (next : Nat) (out : List UInt8) (o : List Nat) : Prop :=
 ∃ (o1 : List Nat) (out1 : List UInt8) (m : Nat), out1 ++ seqW l (l.drop next) next (o1 ++ o) = full ∧ chkF l (l.drop next) next (o1 ++ o) m = 0 ∧ out = out1 ++ closesL l o.length o1 ∧ ∀ e, l[next]? = some e → ∀ k ∈ o1, (k : Int) ≠ e.up
def OverW (full : List UInt8) (out : List UInt8) (o : List Nat) : Prop := 300000 < out.length ∧ 300000 < full.length ∧ out.length + 1100000 * o.length ≤ full.length + 1100000 * 20001
def PostW (l : List ElD) (full : List UInt8) (next : Nat) (out : List UInt8) (o : List Nat) : Prop := OverW full out o ∨ InvW l full next out o
def PreW (l : List ElD) (full : List UInt8) (at_ : Nat) (out : List UInt8) (o : List Nat) : Prop :=
 ∃ (e : ElD) (m : Nat), l[at_]? = some e ∧ out ++ (padL o.length ++ (headL e ++ (tailL l at_ e ++ seqW l (l.drop (at_ + 1)) (at_ + 1) (at_ :: o)))) = full ∧ chkF l (l.drop (at_ + 1)) (at_ + 1) (at_ :: o) m = 0
theorem inv_len {next : Nat} {out : List UInt8} {o : List Nat} (h : InvW l full next out o) : out.length ≤ full.length := by
 obtain ⟨o1, out1, m, h1, h2, h3, h4⟩ := h
 rw [← h1, h3, List.length_append, List.length_append]
 cases he : l[next]? with
 | none => rw [seq_end he, closes_app, List.length_append, Nat.zero_add]; omega
 | some e =>
  obtain ⟨e1, e2⟩ := take_pre (b := o) (h4 e he)
  have hl : (o.takeWhile (notUp e)).length + (o.dropWhile (notUp e)).length = o.length := by
   rw [← List.length_append, List.takeWhile_append_dropWhile]
  rw [seq_at he, e1, e2, closes_app, show (o.dropWhile (notUp e)).length + (o.takeWhile (notUp e)).length = o.length by omega]
  simp only [List.length_append]
  omega
/-- An element with none within. -/
theorem pre_leaf {i : Nat} {out : List UInt8} {o : List Nat} {e : ElD} (h : PreW l full i out o) (he : l[i]? = some e) (hk : hasK l i = false) : PostW l full (i + 1) (out ++ (padL o.length ++ (headL e ++ tailL l i e))) o := by
 obtain ⟨e', m, he', h1, h2⟩ := h
 obtain rfl : e = e' := Option.some.inj (he.symm.trans he')
 refine .inr ⟨[i], out ++ (padL o.length ++ (headL e ++ tailL l i e)), m, by rw [← h1]; simp, h2, ?_, ?_⟩
 ·rw [closesL, closesL, closeL, hk]; simp
 ·intro e2 he2 k hk2
  simp at hk2
  subst hk2
  intro hu
  unfold hasK at hk
  rw [List.any_eq_false] at hk
  exact hk e2 (List.mem_of_getElem? he2) (by simpa using hu.symm)
theorem pre_kids {i : Nat} {out : List UInt8} {o : List Nat} {e : ElD} (h : PreW l full i out o) (he : l[i]? = some e) (hk : hasK l i = true) : PostW l full (i + 1) (out ++ (padL o.length ++ (headL e ++ [62, 10]))) (i :: o) := by
 obtain ⟨e', m, he', h1, h2⟩ := h
 obtain rfl : e = e' := Option.some.inj (he.symm.trans he')
 refine .inr ⟨[], out ++ (padL o.length ++ (headL e ++ [62, 10])), m, ?_, h2, ?_, ?_⟩
 ·rw [← h1]
  unfold tailL
  rw [if_pos hk]
  simp
 ·simp [closesL]
 ·intro e2 he2 k hk2; simp at hk2
theorem pre_len {i : Nat} {out : List UInt8} {o : List Nat} {e : ElD} (h : PreW l full i out o) (he : l[i]? = some e) : out.length + 2 * o.length + (headL e).length + (tailL l i e).length ≤ full.length := by
 obtain ⟨e', m, he', h1, h2⟩ := h
 obtain rfl : e = e' := Option.some.inj (he.symm.trans he')
 rw [← h1]
 simp only [List.length_append, padL_len]
 omega
/-- The next one within. -/
theorem post_next {i k : Nat} {out : List UInt8} {o : List Nat} {e : ElD} (h : PostW l full i out (k :: o)) (he : l[i]? = some e) (hi : 0 < i) (hu : e.up = (k : Int)) (hs : out.length ≤ 300000) : PreW l full i out (k :: o) := by
 rcases h with h | ⟨o1, out1, m, h1, h2, h3, h4⟩
 ·exact absurd h.1 (by omega)
 obtain ⟨e1, e2⟩ := take_pre (b := k :: o) (h4 e he)
 obtain ⟨e3, e4⟩ := take_hit (q := o) hu.symm
 rw [e3, List.append_nil] at e1
 rw [e4] at e2
 have hr := (chk_all h2 (r := l.drop i) (i := i) (o := o1 ++ k :: o))
 refine ⟨e, ?_⟩
 obtain ⟨hil, e0⟩ := List.getElem?_eq_some_iff.1 he
 rw [List.drop_eq_getElem_cons hil, e0, chkF] at h2
 split at h2
 ·cases h2
 rw [if_neg (by omega)] at h2
 have e2' : (o1 ++ k :: o).dropWhile (fun k : Nat => !((k : Int) == e.up)) = k :: o := e2
 rw [e2'] at h2
 dsimp only at h2
 split at h2
 ·refine ⟨_, he, ?_, h2⟩
  rw [seq_at he, e1, e2] at h1
  rw [← h1, h3]
  simp
 ·cases h2
/-- All within are told. -/
theorem post_close {i k : Nat} {out : List UInt8} {o : List Nat} (hz : ∀ x ∈ l, szW x) (h : PostW l full i out (k :: o)) (hk : hasK l k = true) (ho : o.length ≤ 20000) (hx : (∀ e, l[i]? = some e → e.up ≠ (k : Int)) ∨ 300000 < out.length) :
  PostW l full i (out ++ (padL o.length ++ endL (nameL l k))) o := by
 have hc := closeL_len hz o.length k
 unfold closeL at hc
 rw [if_pos hk] at hc
 have over : ∀ {out : List UInt8}, OverW full out (k :: o) → OverW full (out ++ (padL o.length ++ endL (nameL l k))) o := by
  rintro out ⟨h1, h2, h3⟩
  rw [List.length_cons] at h3
  refine ⟨?_, h2, ?_⟩ <;> rw [List.length_append] <;> omega
 rcases h with h | h
 ·exact .inl (over h)
 by_cases hs : 300000 < out.length
 ·have := inv_len h
  refine .inl (?_)
  refine ⟨by rw [List.length_append]; omega, by omega, ?_⟩
  rw [List.length_append]
  omega
 ·have hx := hx.resolve_right hs
  obtain ⟨o1, out1, m, h1, h2, h3, h4⟩ := h
  refine .inr ⟨o1 ++ [k], out1, m, by simpa using h1, by simpa using h2, ?_, ?_⟩
  ·rw [closes_app, closesL, closesL, closeL, if_pos hk, h3]
   simp
  ·intro e he x hx2
   rcases List.mem_append.1 hx2 with hx2 | hx2
   ·exact h4 e he x hx2
   ·simp at hx2
    rw [hx2]
    exact fun e2 => hx e he e2.symm
theorem post_len {i : Nat} {out : List UInt8} {o : List Nat} (h : PostW l full i out o) : out.length ≤ full.length + 22001100000 := by
 rcases h with h | h
 ·have := h.2.2; omega
 ·have := inv_len h; omega
theorem post_end {i : Nat} {out : List UInt8} (hi : 0 < i) (h : PostW l full i out []) : (300000 < out.length → 300000 < full.length) ∧ (out.length ≤ 300000 → out = full) := by
 rcases h with h | h
 ·exact ⟨fun _ => h.2.1, fun h2 => absurd h.1 (by omega)⟩
 ·have h0 := inv_len h
  refine ⟨fun _ => by omega, fun _ => ?_⟩
  obtain ⟨o1, out1, m, h1, h2, h3, h4⟩ := h
  rw [List.append_nil] at h1 h2
  cases he : l[i]? with
  | none => rw [seq_end he] at h1; rw [h3, ← h1]; rfl
  | some e =>
   exfalso
   obtain ⟨hil, e0⟩ := List.getElem?_eq_some_iff.1 he
   obtain ⟨-, e2⟩ := take_pre (b := []) (h4 e he)
   rw [List.append_nil] at e2
   have e2' : o1.dropWhile (fun k : Nat => !((k : Int) == e.up)) = [] := e2
   rw [List.drop_eq_getElem_cons hil, e0, chkF, e2'] at h2
   split at h2
   ·cases h2
   rw [if_neg (by omega)] at h2
   cases h2
theorem pre_start {e : ElD} (hc : checkT l = 0) (he : l[0]? = some e) : PreW l (docL l) 0 proL [] := by
 have h1 := (checkT_parts hc).2.2
 obtain ⟨hil, e0⟩ := List.getElem?_eq_some_iff.1 he
 rw [List.drop_eq_getElem_cons hil, e0, chkF] at h1
 split at h1
 ·cases h1
 rw [if_pos rfl] at h1
 split at h1
 ·refine ⟨e, _, he, ?_, h1⟩
  unfold docL
  have := seq_root he
  rw [List.drop_zero] at this
  rw [this]
  rfl
 ·cases h1
end
/-- What Write answers. -/
def writeT (l : List ElD) : ByteArray × Int := if checkT l = 0 then (if 300000 < (docL l).length then (⟨#[]⟩, 6) else (⟨(docL l).toArray⟩, 0)) else (⟨#[]⟩, checkT l)
end Go.Proofs.YtanncakdlflopaaGreatDoor

namespace Go.Proofs.YtanncakdlflopaaGreatDoor
open Go.RowKit
set_option linter.unusedVariables false
set_option linter.unusedSimpArgs false
set_option maxRecDepth 100000

theorem cW {P : Program} {f : FuncId} {args : Array Value} {v : Ending} {K : Ending → World → Prop} {w0 W : World} {b : Nat} {tv hv : Value} {out : List UInt8} {L : List Res} (hc : Calls P f args W fun e W' => e = v ∧ WrAt w0 W' b tv hv out L)
  (h : ∀ W' pv p cap, Hid (WrP b pv) → Hid (out = [] → p = none ∧ cap = 0) → Hid (Mem w0 W' (.box b 71 (wrC tv hv pv p out.length cap) :: .row p cap 5 1 out.length (bC out) :: L)) → K v W') : Calls P f args W K :=
 hc.mono (by rintro e W' ⟨rfl, pv, p, cap, h1, h2, h3⟩; exact h W' pv p cap (Lib.hid h1) (Lib.hid h2) (Lib.hid h3))
theorem rotB {w0 W : World} {a b c : Res} {L : List Res} (h : Mem w0 W (a :: b :: c :: L)) : Mem w0 W (b :: c :: a :: L) := h.perm ((List.Perm.swap _ _ _).trans (List.Perm.cons _ (List.Perm.swap _ _ _)))
theorem esc_ok {a : Bool} {s : ByteArray} (h : textB s = true) : escV a s = .tuple #[.string ⟨(escT a s.data.toList).toArray⟩, .int .i64 0] := by
 rw [textB_chars] at h
 obtain ⟨cs, hc⟩ := Option.isSome_iff_exists.1 h
 exact escV_some hc
theorem right_parts {e : ElD} (h : rightB e = true) : nameM e.n = true ∧ textB e.t = true ∧ e.l.length ≤ 16 ∧ ∀ a ∈ e.l, nameM a.1 = true ∧ textB a.2 = true := by
 unfold rightB at h
 simp only [Bool.and_eq_true, decide_eq_true_eq, List.all_eq_true] at h
 exact ⟨h.1.1.1.1, h.1.1.1.2, h.1.1.2, fun a ha => by have := h.1.2 a ha; unfold atOk at this; simpa using this⟩
theorem att_take {l : List AtD} {i : Nat} {a : AtD} (h : l[i]? = some a) : (l.take (i + 1)).flatMap attL = (l.take i).flatMap attL ++ attL a := by
 rw [List.take_add_one, h]
 simp

set_option maxHeartbeats 8000000 in
theorem thead_any (n t : ByteArray) (up : Int) (l : List AtD) (pa : Option Addr) (ca g : Nat) (tv hv : Value) (out : List UInt8) (w0 W : World) (L : List Res) (hT : U8 w0) (hA : Sl w0 pa (l.flatMap AtD.cs)) (hz : szW ⟨n, up, l, t⟩) (hr : rightB ⟨n, up, l, t⟩ = true) (ho : out.length ≤ 100000000000000) (h : WrAt w0 W g tv hv out L) :
  Calls Tryz.prog 49 #[.pointer (some ⟨g, 0, none⟩), .agg #[.string n, .int .i64 up, .slice pa l.length ca, .string t]] W fun e W' => e = .returned (.tuple #[]) ∧ WrAt w0 W' g tv hv (out ++ headL ⟨n, up, l, t⟩) L := by
 obtain ⟨hzn, -, hza⟩ := hz
 dsimp only at hzn hza
 obtain ⟨-, -, hl16, hat⟩ := right_parts hr
 dsimp only at hl16 hat
 obtain ⟨pv, pw, cw, hp, hzz, hM⟩ := h
 have HM := Lib.hid hM
 have HP := Lib.hid hp
 have HZ := Lib.hid hzz
 have HT := Lib.hid hT
 have HA := Lib.hid hA
 have HZa := Lib.hid hza
 have HAt := Lib.hid hat
 clear hT hA hza hat hM hp hzz hr
 go_enter Tryz.func49, Tryz.ntmps49
 go_wp2_with (first | refine mP ?_ | (refine mS ?_; clear HM; intro W1 HM) | ((with_reducible refine iat 3 ?_); refine mB ?_; clear HM; intro g3 W1 HM) | (refine hal HM rfl ?_; clear HM; intro g1 W1 HM))
 have HM1 := Lib.hid (rotB HM.out)
 clear HM
 have HM := HM1
 clear HM1
 refine wp_region_steps2 [(true, 0), (true, 1), (true, 2), (true, 3), (true, 4), (true, 5), (false, 6)] (by kernel_rfl) (by kernel_rfl) rfl (by kernel_rfl) (fun _ _ _ _ _ h => h) HM.out _ (.cons _ (.cons _ (.cons_cons _ (.refl _)))) ?_
 intro hNE W1 HM1; replace HM := Lib.hid HM1; clear HM1
 have HS0 := Lib.hid (HM.out.sub (.cons _ (.cons _ (.cons_cons _ (.refl _)))))
 simp only [wpSteps, List.getElem?_cons_succ, List.getElem?_cons_zero]
 (repeat (first | ((with_reducible refine wpQuiet_nil ?_); (try dsimp only)) | refine mQ ?_ | (fail) | go_big_quiet_step (fail) | quiet_step (fail)))
 go_wp2_with (first | (go_at_call 32; (refine cW (tbw_at ⟨_, _, _, HP.out, HZ.out, HM.out⟩ _ (by simp only [ByteArray.size_append, mk_size, List.length_cons, List.length_nil]; omega)) ?_); clear HM HP HZ; (try clear W1); intro W1 pv pw cw HP HZ HM))
 refine ⟨⟨⟨_, HM.out.sub (by repeat (first | exact List.nil_sublist _ | with_reducible exact List.Sublist.refl _ | with_reducible refine List.Sublist.cons_cons _ ?_ | refine List.Sublist.cons _ ?_))⟩, rfl⟩, ?_⟩
 (try dsimp only)
 clear HS0 hNE
 go_wp2_with (first | refine mP ?_ | (refine mS ?_; clear HM; intro W1 HM) | (refine hal HM rfl ?_; clear HM; intro g1 W1 HM) | (refine mB ?_; clear HM; intro g1 W1 HM))
 generalize ho1 : out ++ (⟨#[60]⟩ ++ n).data.toList = o1 at HM HZ
 have HO1 := Lib.hid (show o1 = out ++ 60 :: (n.data.toList ++ (l.take 0).flatMap attL) by rw [← ho1]; simp [ByteArray.data_append])
 have hol : o1.length ≤ 100000000000000 + 2000000 + 41000000 * 0 := by
  rw [HO1.out]
  have := size_list n
  simp only [List.length_append, List.length_cons, List.take_zero, List.flatMap_nil, List.length_nil]
  omega
 clear ho1
 go_loopw [18] (fun iv wr => ∃ (i : Nat) (o : List UInt8) (pv : Value) (pw : Option Addr) (cw : Nat), iv = .int .i64 i ∧ i ≤ l.length ∧ Hid (o = out ++ 60 :: (n.data.toList ++ (l.take i).flatMap attL)) ∧ o.length ≤ 100000000000000 + 2000000 + 41000000 * i ∧ Hid (WrP g pv) ∧ Hid (o = [] → pw = none ∧ cw = 0) ∧
  Hid (Mem w0 wr (.box g 71 (wrC tv hv pv pw o.length cw) :: .row pw cw 5 1 o.length (bC o) :: .box g3 42 [.string n, .int .i64 up, .slice pa l.length ca, .string t] :: L))) (fun iv _ => l.length - (intOf iv).toNat)
 case atStart => exact ⟨0, o1, pv, pw, cw, rfl, by omega, HO1, hol, HP, HZ, HM⟩
 case round =>
  clear HM HO1 hol HP HZ
  obtain ⟨i, o, pv, pw, cw, rfl, hi, HO, hol, HP, HZ, HM⟩ := hrel
  by_cases hlt : i < l.length
  ·obtain ⟨b, rfl, hb⟩ := HA.out.some_at AtD.cs_len (by decide) hlt
   obtain ⟨a, ha⟩ : ∃ x, l[i]? = some x := ⟨_, List.getElem?_eq_getElem hlt⟩
   have hza := HZa.out a (List.mem_of_getElem? ha)
   have hta := HAt.out a (List.mem_of_getElem? ha)
   have htk := att_take ha
   have halen := attL_len hza
   obtain ⟨a1, a2⟩ := a
   dsimp only at hza hta
   have EA := Lib.hid (show Cells w0 (b.add (i * 2)) [.string a1, .string a2] from hb.elem AtD.cs 2 AtD.cs_len ha)
   have hvl := escT_len true a2.data.toList
   rw [size_list] at hvl
   obtain ⟨v, hv2⟩ : ∃ v : ByteArray, v = ⟨(escT true a2.data.toList).toArray⟩ := ⟨_, rfl⟩
   have hvs : v.size ≤ 40000000 := by rw [hv2, mk_size]; omega
   have HEs := Lib.hid (fun W h => escape_any a2 true W h (by omega))
   rw [esc_ok hta.2, ← hv2] at HEs
   have HV := Lib.hid (show attL (a1, a2) = 32 :: (a1.data.toList ++ 61 :: 34 :: (v.data.toList ++ [34])) by rw [hv2]; rfl)
   have HTk := Lib.hid htk
   have d1 : decide ((i : Int) < l.length) = true := decide_eq_true (by omega)
   have hlt3 := Lib.hid (show i + 1 ≤ l.length from hlt)
   have ha1 := hza.1
   clear hv2 hvl ha hb hta htk
   go_wp2_with (first | ((with_reducible refine iat 20 ?_); (refine ixa (i := i) rfl rfl rfl hlt ?_)) | ((with_reducible refine iat 21 ?_); (refine ldxW (HM.out.olds EA.out) rfl rfl ?_)) | (go_at_call 50; (with_reducible refine cB HM (HEs.out _ (HT.out.below HM.out.below)) ?_); clear HM; intro W1 HM) | refine mP ?_ | (refine mS ?_; clear HM; intro W1 HM) | (refine hal (dst := some 5) HM rfl ?_; clear HM; intro g5 W1 HM) | (refine mB ?_; clear HM; intro g1 W1 HM))
   refine wp_region_steps2 [(true, 0), (true, 1), (true, 2), (true, 3), (true, 4), (true, 5), (true, 6), (true, 7), (true, 8), (true, 9), (false, 10)] (by kernel_rfl) (by kernel_rfl) rfl (by kernel_rfl) (fun _ _ _ _ _ h => h) HM.out _ (.cons_cons _ (.cons _ (.cons _ (.cons_cons _ (.refl _))))) ?_
   intro hNE W1 HM1; replace HM := Lib.hid HM1; clear HM1
   have HS0 := Lib.hid (HM.out.sub (.cons_cons _ (.cons _ (.cons _ (.cons_cons _ (.refl _))))))
   simp only [wpSteps, List.getElem?_cons_succ, List.getElem?_cons_zero]
   (repeat (first | ((with_reducible refine wpQuiet_nil ?_); (try dsimp only)) | refine mQ ?_ | (fail) | go_big_quiet_step (fail) | quiet_step (fail)))
   go_wp2_with (first | (go_at_call 32; (refine cW (tbw_at ⟨_, _, _, HP.out, HZ.out, rotB HM.out⟩ _ (by simp only [ByteArray.size_append, mk_size, List.length_cons, List.length_nil]; omega)) ?_); clear HM HP HZ; (try clear W1); intro W1 pv pw cw HP HZ HM))
   refine ⟨⟨⟨_, HM.out.sub (by repeat (first | exact List.nil_sublist _ | with_reducible exact List.Sublist.refl _ | with_reducible refine List.Sublist.cons_cons _ ?_ | refine List.Sublist.cons _ ?_))⟩, rfl⟩, ?_⟩
   (try dsimp only)
   clear HS0 hNE
   generalize ho1 : o ++ (((⟨#[32]⟩ ++ a1 ++ ⟨#[61, 34]⟩) ++ v) ++ ⟨#[34]⟩).data.toList = o1 at HM HZ
   have HO1 := Lib.hid (show o1 = out ++ 60 :: (n.data.toList ++ (l.take (i + 1)).flatMap attL) by
    rw [← ho1, HO.out, HTk.out, HV.out]
    simp [ByteArray.data_append])
   have hol1 : o1.length ≤ 100000000000000 + 2000000 + 41000000 * (i + 1) := by
    rw [HO1.out, HTk.out]
    have := congrArg List.length HO.out
    simp only [List.length_append, List.length_cons] at this ⊢
    omega
   clear ho1
   go_wp2_with (first | refine mP ?_ | (refine mS ?_; clear HM; intro W1 HM) | (refine hal HM rfl ?_; clear HM; intro g1 W1 HM) | (refine mB ?_; clear HM; intro g1 W1 HM))
   go_roundw
   case rel => exact ⟨i + 1, o1, pv, pw, cw, by go_num, hlt3.out, HO1, hol1, HP, HZ, Lib.hid (HM.out.sub (.cons_cons _ (.cons_cons _ (.cons _ (.refl _)))))⟩
   case measure => have := hlt3.out; simp [intOf]; omega
  ·obtain rfl : i = l.length := by omega
   have d1 : decide ((l.length : Int) < l.length) = false := by simp
   go_wp2_with fail
   go_end0
   refine ⟨rfl, pv, pw, cw, HP.out, ?_, ?_⟩
   ·intro h; exact HZ.out (by rw [HO.out]; rw [List.take_length]; exact h)
   ·have h9 := HM.out.sub (.cons_cons _ (.cons_cons _ (.cons _ (.refl _))))
    rw [HO.out, List.take_length] at h9
    exact h9
end Go.Proofs.YtanncakdlflopaaGreatDoor
