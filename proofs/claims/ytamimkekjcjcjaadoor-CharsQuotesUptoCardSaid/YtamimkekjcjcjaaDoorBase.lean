/- Small lemmas on memory that every walk of this set uses; no program in sight. -/
import Derived.WalkKit
import Derived.WalkSpells
import Derived.WalkLawsBesides
import Derived.Lib.Hide
import Derived.Laws.AppendOwn
import Derived.Below
import Derived.Deep.Draws
import Derived.Laws.IdiomStrings
namespace Go.Proofs.YtamimkekjcjcjaaDoor
open Go.RowKit
set_option linter.unusedVariables false

/-- The cells of a row that was just laid. -/
theorem lit_cells (w : World) (c : Array Value) (t : TypeId) : ∀ (j : Nat) (u : Value), c.toList[j]? = some u → (w.alloc (.cells c t)).cell? ((⟨w.heap.size, 0, none⟩ : Addr).add j) = some u := by
  intro j u h
  have hadd : (⟨w.heap.size, 0, none⟩ : Addr).add j = ⟨w.heap.size, j, none⟩ := by unfold Addr.add; split <;> simp_all
  rw [hadd, cell_of_row _ _ _ _ _ _ (MapKept.heap_alloc w _).1]
  simpa using h
theorem lit_one {x : Value} (h : x.oneCell' = true) : ∀ u ∈ [x], u.oneCell' = true := by
  intro u hu
  rw [List.mem_singleton] at hu
  subst hu
  exact h
theorem own_none (w : World) (e : TypeId) (k : Nat) : w.ownsRow w.heap.size e k (.slice none 0 0) 0 [] := ⟨by simp, Or.inl ⟨rfl, rfl⟩⟩
theorem own_base {w : World} {B : Nat} {e : TypeId} {k n : Nat} {v : Value} {xs : List Value} (h : w.ownsRow B e k v n xs) : ∀ g, v.ownBlock = some g → B ≤ g := by
  obtain ⟨_, ⟨rfl, _⟩ | ⟨g', cap, cur, rfl, hb, _⟩⟩ := h
  · intro g hg; cases hg
  · intro g hg
    simp only [Value.ownBlock, Option.some.injEq] at hg
    omega
/-- What an append to a row of the call's own leaves below. -/
theorem below_own {B : Nat} {w wr w' : World} {e : TypeId} {k n : Nat} {v : Value} {xs : List Value} (hb : Below B w wr) (hB : B ≤ wr.heap.size) (h : wr.ownsRow B e k v n xs) (hg : wr.grownBy w' v.ownBlock) : Below B w w' :=
  hb.grown hg hB (own_base h)
theorem below_dn {B : Nat} {a w : World} (h : Below B a w) (n : Nat) : Below B a (w.drewN n) := ⟨h.os, h.tape, h.output, h.size, h.block⟩
theorem ret_bool {a b : Bool} (h : a = b) : Ending.returned (.bool a) = .returned (.bool b) := by rw [h]
theorem ret_i64 {a b : Int} (h : a = b) : Ending.returned (.int .i64 a) = .returned (.int .i64 b) := by rw [h]
theorem size_list (s : ByteArray) : s.data.toList.length = s.size := by rw [Array.length_toList]; rfl
theorem mk_size (l : List UInt8) : (⟨l.toArray⟩ : ByteArray).size = l.length := by simp [ByteArray.size]
theorem ba_eq {s : ByteArray} {l : List UInt8} (h : s.data.toList = l) : s = ⟨l.toArray⟩ := by subst h; simp

/-- A byte as a value; bytes as a row, with noughts behind. -/
def b8 (b : UInt8) : Value := .int .u8 b.toNat
def bRow (l : List UInt8) (z : Nat) : Array Value := (l.map b8).toArray ++ Array.replicate z (.int .u8 0)
theorem bRow_of (s : ByteArray) (cap : Nat) : bytesRow s cap = bRow s.data.toList (cap - s.size) := by
  unfold bytesRow bRow b8
  congr 1
  apply Array.ext'
  simp
theorem bRow_get {l : List UInt8} {z j : Nat} {c : UInt8} (h : l[j]? = some c) : (bRow l z)[j]? = some (.int .u8 c.toNat) := by
  have hj : j < l.length := (List.getElem?_eq_some_iff.1 h).1
  unfold bRow
  rw [Array.getElem?_append_left (by simpa using hj)]
  rw [List.getElem?_toArray, List.getElem?_map, h]
  rfl
theorem bRow_set {l : List UInt8} {z j : Nat} (h : j < l.length) (c : UInt8) : (bRow l z).setIfInBounds j (.int .u8 c.toNat) = bRow (l.set j c) z := by
  unfold bRow
  apply Array.ext'
  simp only [Array.toList_setIfInBounds, Array.toList_append]
  rw [List.set_append_left _ _ (by simpa using h)]
  congr 1
  rw [List.map_set]
  rfl

/-- Block g holds bytes, of a row that was made of a text: none of them frozen. -/
def BytesAt (w : World) (g : Nat) (T : TypeId) (l : List UInt8) (z : Nat) : Prop := w.heap[g]? = some (.cells (bRow l z) T (l.length + z, l.length + z + 1))
theorem BytesAt.cell {w : World} {g : Nat} {T : TypeId} {l : List UInt8} {z j : Nat} {c : UInt8} (h : BytesAt w g T l z) (hj : l[j]? = some c) : w.cell? ⟨g, j, none⟩ = some (.int .u8 c.toNat) := by
  rw [cell_of_row _ _ _ _ _ _ h]
  exact bRow_get hj
theorem BytesAt.free {w : World} {g : Nat} {T : TypeId} {l : List UInt8} {z j : Nat} (h : BytesAt w g T l z) (hj : j < l.length) : w.frozen? ⟨g, j, none⟩ = false := by
  unfold BytesAt at h
  unfold World.frozen?
  simp only [h]
  have : decide (l.length + z ≤ j) = false := decide_eq_false (by omega)
  simp [this]
theorem BytesAt.put {w : World} {g : Nat} {T : TypeId} {l : List UInt8} {z j : Nat} (h : BytesAt w g T l z) (hj : j < l.length) (c : UInt8) : BytesAt (w.setCell ⟨g, j, none⟩ (.int .u8 c.toNat)) g T (l.set j c) z := by
  unfold BytesAt at h ⊢
  rw [List.length_set, ← bRow_set hj]
  simp [World.setCell, Array.getElem?_modify, h]
theorem BytesAt.made (w : World) (T : TypeId) (s : ByteArray) (cap : Nat) (hc : s.size ≤ cap) : BytesAt (w.drew.alloc (.cells (bytesRow s cap) T ((bytesRow s cap).size, (bytesRow s cap).size + 1))) w.heap.size T s.data.toList (cap - s.size) := by
  unfold BytesAt
  have e : (bytesRow s cap).size = s.data.toList.length + (cap - s.size) := by
    rw [bRow_of]
    unfold bRow
    simp
  rw [e, bRow_of]
  exact (MapKept.heap_alloc w.drew _).1

/-- The first k bytes turned. -/
def mapK (f : UInt8 → UInt8) (l : List UInt8) (k : Nat) : List UInt8 := (l.take k).map f ++ l.drop k
theorem mapK_zero (f : UInt8 → UInt8) (l : List UInt8) : mapK f l 0 = l := by simp [mapK]
theorem mapK_all (f : UInt8 → UInt8) (l : List UInt8) {k : Nat} (h : l.length ≤ k) : mapK f l k = l.map f := by
  unfold mapK
  rw [List.take_of_length_le h, List.drop_of_length_le h, List.append_nil]
theorem mapK_len (f : UInt8 → UInt8) (l : List UInt8) (k : Nat) : (mapK f l k).length = l.length := by
  unfold mapK
  rw [List.length_append, List.length_map, List.length_take, List.length_drop]
  omega
theorem mapK_at (f : UInt8 → UInt8) {l : List UInt8} {k : Nat} {c : UInt8} (h : l[k]? = some c) : (mapK f l k)[k]? = some c := by
  have hk : k < l.length := (List.getElem?_eq_some_iff.1 h).1
  unfold mapK
  rw [List.getElem?_append_right (by simp; omega), List.getElem?_drop, ← h]
  congr 1
  simp
  omega
theorem mapK_set (f : UInt8 → UInt8) {l : List UInt8} {k : Nat} {c : UInt8} (h : l[k]? = some c) : (mapK f l k).set k (f c) = mapK f l (k + 1) := by
  have hk : k < l.length := (List.getElem?_eq_some_iff.1 h).1
  unfold mapK
  rw [List.set_append_right _ _ (by simp; omega)]
  have hd : l.drop k = c :: l.drop (k + 1) := by
    rw [List.drop_eq_getElem_cons hk]
    congr 1
    exact (List.getElem?_eq_some_iff.1 h).2
  rw [hd, List.take_add_one, h]
  have : k - ((l.take k).map f).length = 0 := by simp; omega
  rw [this]
  simp
theorem set_self_byte {l : List UInt8} {k : Nat} {c : UInt8} (h : l[k]? = some c) : l.set k c = l := by
  apply List.ext_getElem?
  intro i
  rw [List.getElem?_set]
  split
  · rename_i e
    subst e
    have hk : k < l.length := (List.getElem?_eq_some_iff.1 h).1
    rw [if_pos hk, h]
  · rfl
theorem mapK_keep (f : UInt8 → UInt8) {l : List UInt8} {k : Nat} {c : UInt8} (h : l[k]? = some c) (hf : f c = c) : mapK f l (k + 1) = mapK f l k := by
  have h1 := mapK_set f h
  rw [hf, set_self_byte (mapK_at f h)] at h1
  exact h1.symm

/-- A row that was just laid is the call's own. -/
theorem own_lit (w : World) (e : TypeId) (xs : List Value) (hx : xs.length ≤ maxLen) : (w.alloc (.cells xs.toArray e)).ownsRow w.heap.size e 1 (.slice (some ⟨w.heap.size, 0, none⟩) xs.length xs.length) xs.length xs :=
  ⟨by simp, Or.inr ⟨w.heap.size, xs.length, xs.toArray, rfl, Nat.le_refl _, (MapKept.heap_alloc w _).1, Nat.le_refl _, hx, by simp, by simp⟩⟩
theorem own_cell {w : World} {B : Nat} {e : TypeId} {g n cap : Nat} {xs : List Value} (h : w.ownsRow B e 1 (.slice (some ⟨g, 0, none⟩) n cap) n xs) {j : Nat} {u : Value} (hj : xs[j]? = some u) : w.cell? ⟨g, j, none⟩ = some u := by
  obtain ⟨hl, ⟨h0, _⟩ | ⟨g', cap', cur, hv, _, hh, _, _, _, htk⟩⟩ := h
  · cases h0
  · simp only [Value.slice.injEq, Option.some.injEq, Addr.mk.injEq, and_true] at hv
    obtain ⟨rfl, _, rfl⟩ := hv
    have hj2 : j < n * 1 := by rw [← hl]; exact (List.getElem?_eq_some_iff.1 hj).1
    rw [cell_of_row _ _ _ _ _ _ hh]
    rw [← htk, List.getElem?_take_of_lt hj2] at hj
    simpa using hj
/-- Bytes of the call's own as a string. -/
theorem own_str {P : Program} {w : World} {B : Nat} {src dst e : TypeId} {v : Value} {l : List UInt8} (hs : P.underlying src = some (.slice e)) (he : P.underlying e = some (.int .u8)) (hd : P.underlying dst = some .string) (h : w.ownsRow B e 1 v l.length (l.map b8)) :
    (convert src dst v).run P w = .ok (.string ⟨l.toArray⟩) w := by
  have h' := h
  obtain ⟨_, ⟨rfl, h0⟩ | ⟨g, cap, cur, rfl, _⟩⟩ := h
  · have hl : l = [] := by cases l with
      | nil => rfl
      | cons a b => simp at h0
    subst hl
    rw [run_convert_bytes_string w src dst e none 0 0 hs he hd]
    rfl
  · have hadd : ∀ j, (⟨g, 0, none⟩ : Addr).add j = ⟨g, j, none⟩ := fun j => by unfold Addr.add; split <;> simp_all
    exact run_convert_bytes_back w src dst e ⟨g, 0, none⟩ cap l hs he hd (fun j hj => by
      rw [hadd]
      exact own_cell h' (by rw [List.getElem?_map, List.getElem?_eq_getElem hj]; rfl))
end Go.Proofs.YtamimkekjcjcjaaDoor
