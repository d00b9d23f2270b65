/- The law's spelled: a piece as the grammar has it, and its events. (short) -/
import Derived.Test.YtanncakdlflopaaGreatDoorMarkU
namespace Go.Proofs.YtanncakdlflopaaGreatDoor
open Go.RowKit
set_option linter.unusedVariables false
set_option linter.unusedSimpArgs false
set_option maxRecDepth 100000

theorem sz1 (b : UInt8) : (⟨#[b]⟩ : ByteArray).size = 1 := rfl
theorem sz2 (b c : UInt8) : (⟨#[b, c]⟩ : ByteArray).size = 2 := rfl
theorem sz7 (b c d e f g h : UInt8) : (⟨#[b, c, d, e, f, g, h]⟩ : ByteArray).size = 7 := rfl
theorem szs {P : Prop} (h : P := by first | decide | omega) : P := h
theorem rmname_q (s : ByteArray) (w : World) (hs : s.size ≤ 1099511627776) : Calls Tryz.prog 45 #[.string s] w fun e w' => e = .returned (.bool (nameM s)) ∧ w = w' := (rmname_any s w hs).mono (fun e w' ⟨h1, h2⟩ => ⟨h1, h2.symm⟩)
theorem Mem.boxrow {w0 W : World} {L : List Res} (h : Mem w0 W L) {k : Nat} {g j n : Nat} {e : TypeId} {cs : List Value} (hk : L[k]? = some (.box g e cs)) (hl : cs.length = n * j) (hn : n ≤ maxLen) : Mem w0 W (L.set k (.row (some ⟨g, 0, none⟩) n e j n cs)) := h.turn0 hk (box_row (h.get hk) hl hn) (fun g e => e)
def PartD.cs (p : PartD) : List Value := [.int .i64 p.k, .string p.n, .string p.v, .string p.t]
theorem PartD.cs_len (p : PartD) : p.cs.length = 4 := rfl
theorem name_64 {n : ByteArray} (h : nameM n = true) : n.size ≤ 64 := by
  unfold nameM at h
  simp only [Bool.and_eq_true, decide_eq_true_eq] at h
  exact h.1.1.2
theorem esc_shape (at_ : Bool) (s : ByteArray) : ∃ (x : ByteArray) (c : Int), escV at_ s = .tuple #[.string x, .int .i64 c] ∧ (c = 0 ∧ (chars s.data.toList).isSome = true ∧ x.data.toList = escT at_ s.data.toList ∧ x.size ≤ 36 * s.size ∨ c = 2 ∧ (chars s.data.toList).isSome = false) := by
  unfold escV
  cases h : chars s.data.toList with
  | none => exact ⟨_, _, rfl, .inr ⟨rfl, rfl⟩⟩
  | some cs =>
    have e : (⟨(escT at_ s.data.toList).toArray⟩ : ByteArray).data.toList = escT at_ s.data.toList := List.toList_toArray
    refine ⟨_, _, rfl, .inl ⟨rfl, rfl, e, ?_⟩⟩
    rw [← size_list, e, ← size_list]
    exact escT_len at_ _
/-- What spelled answers. -/
def SpPost (p : PartD) (B : List UInt8) (q : UInt8) (w0 : World) (e : Ending) (w' : World) : Prop :=
  match spOk p with
  | false => e = .returned (.tuple #[.string ⟨#[]⟩, .slice none 0 0, .bool false]) ∧ Below w0.heap.size w0 w'
  | true => ∃ (s : ByteArray) (ms : List EvM) (r : Option Addr) (c : Nat), s.data.toList = spT B q p ∧ s.size ≤ 80000 ∧ ms.length ≤ 1 ∧ outD ms = spV p ∧ e = .returned (.tuple #[.string s, .slice r ms.length c, .bool true]) ∧ Mem w0 w' (.row r c 57 4 ms.length (outC ms) :: outR ms)
theorem sp_no {p : PartD} {B : List UInt8} {q : UInt8} {w0 w' : World} (h : spOk p = false) (hb : Below w0.heap.size w0 w') : SpPost p B q w0 (.returned (.tuple #[.string ⟨#[]⟩, .slice none 0 0, .bool false])) w' := by
  unfold SpPost; rw [h]; exact ⟨rfl, hb⟩
theorem sp_yes {p : PartD} {B : List UInt8} {q : UInt8} {w0 w' : World} (h : spOk p = true) {s : ByteArray} (hs : s.data.toList = spT B q p) (hz : s.size ≤ 80000) (ms : List EvM) {r : Option Addr} {c : Nat} (hl : ms.length ≤ 1) (hd : outD ms = spV p)
    (hM : Mem w0 w' (.row r c 57 4 ms.length (outC ms) :: outR ms)) : SpPost p B q w0 (.returned (.tuple #[.string s, .slice r ms.length c, .bool true])) w' := by
  unfold SpPost; rw [h]; exact ⟨s, ms, r, c, hs, hz, hl, hd, rfl, hM⟩
/-- An event with one attribute; an event without. -/
theorem ev_row1 {w0 W : World} {g g1 : Nat} {L : List Res} {k : Nat} {n t : ByteArray} {a b : ByteArray} (h : Mem w0 W (.box g 57 [.int .i64 k, .string n, .slice (some ⟨g1, 0, none⟩) 1 1, .string t] :: .box g1 44 [.string a, .string b] :: L)) :
    Mem w0 W (.row (some ⟨g, 0, none⟩) 1 57 4 [(⟨⟨k, n, [(a, b)], t⟩, some ⟨g1, 0, none⟩, 1⟩ : EvM)].length (outC [⟨⟨k, n, [(a, b)], t⟩, some ⟨g1, 0, none⟩, 1⟩]) :: outR [⟨⟨k, n, [(a, b)], t⟩, some ⟨g1, 0, none⟩, 1⟩]) :=
  ((h.boxrow (k := 0) (j := 4) (n := 1) rfl rfl (by decide)).boxrow (k := 1) (j := 2) (n := 1) rfl rfl (by decide)).sub (.cons_cons _ (.cons_cons _ (List.nil_sublist _)))
theorem ev_row0 {w0 W : World} {g : Nat} {L : List Res} {k : Nat} {n t : ByteArray} (h : Mem w0 W (.box g 57 [.int .i64 k, .string n, .slice none 0 0, .string t] :: L)) :
    Mem w0 W (.row (some ⟨g, 0, none⟩) 1 57 4 [evM ⟨k, n, [], t⟩].length (outC [evM ⟨k, n, [], t⟩]) :: outR [evM ⟨k, n, [], t⟩]) := by
  have h1 := ((h.boxrow (k := 0) (j := 4) (n := 1) rfl rfl (by decide)).sub (L' := [.row (some ⟨g, 0, none⟩) 1 57 4 1 [.int .i64 k, .string n, .slice none 0 0, .string t]]) (.cons_cons _ (List.nil_sublist _))).row0 44 2
  exact h1.perm (List.Perm.swap _ _ _)
theorem nil_rows {w0 W : World} {L : List Res} (h : Mem w0 W L) : Mem w0 W (.row none 0 57 4 ([] : List EvM).length (outC []) :: outR []) := (h.sub (List.nil_sublist _)).row0 _ _

end Go.Proofs.YtanncakdlflopaaGreatDoor
