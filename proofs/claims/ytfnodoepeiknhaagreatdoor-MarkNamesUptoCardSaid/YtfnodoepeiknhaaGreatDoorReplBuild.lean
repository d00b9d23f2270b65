/- The walk over (*strings.Replacer).build, where all old strings are single bytes and some new one is none. -/
import Derived.Test.YtfnodoepeiknhaaGreatDoorReplNew
import Derived.Laws.Tables
import Derived.Deep.WholeRow
import Derived.Laws.BytesArg
import Derived.Lib.ConvBytes
import Derived.Lib.AtoiErrMem
import Derived.Lib.LazyBuf
import Derived.WalkSmall
namespace Go.Proofs.YtfnodoepeiknhaaGreatDoor
open Go.RowKit
set_option linter.unusedVariables false

/-- The pairs as NewReplacer's arguments. -/
def pairL : List (UInt8 × List UInt8) → List Value
  | [] => []
  | (o, nw) :: r => .string ⟨[o].toArray⟩ :: .string ⟨nw.toArray⟩ :: pairL r

theorem pairL_len (l : List (UInt8 × List UInt8)) : (pairL l).length = 2 * l.length := by
  induction l with
  | nil => rfl
  | cons x r ih => obtain ⟨o, nw⟩ := x; simp [pairL, ih]; omega

theorem pairL_old : ∀ (l : List (UInt8 × List UInt8)) (j : Nat) (x : UInt8 × List UInt8), l[j]? = some x → (pairL l)[2 * j]? = some (.string ⟨[x.1].toArray⟩)
  | [], j, x, h => by simp at h
  | (o, nw) :: r, 0, x, h => by simp at h; subst h; rfl
  | (o, nw) :: r, j + 1, x, h => by
    have := pairL_old r j x (by simpa using h)
    rw [show 2 * (j + 1) = 2 * j + 1 + 1 by omega]
    simpa [pairL] using this

theorem pairL_new : ∀ (l : List (UInt8 × List UInt8)) (j : Nat) (x : UInt8 × List UInt8), l[j]? = some x → (pairL l)[2 * j + 1]? = some (.string ⟨x.2.toArray⟩)
  | [], j, x, h => by simp at h
  | (o, nw) :: r, 0, x, h => by simp at h; subst h; rfl
  | (o, nw) :: r, j + 1, x, h => by
    have := pairL_new r j x (by simpa using h)
    rw [show 2 * (j + 1) + 1 = 2 * j + 1 + 1 + 1 by omega]
    simpa [pairL] using this

/-- All new strings of the first j are of one byte. -/
def oneB (l : List (UInt8 × List UInt8)) : Bool := l.all fun x => decide (x.2.length = 1)

theorem oneB_take {l : List (UInt8 × List UInt8)} {j : Nat} {x : UInt8 × List UInt8} (h : l[j]? = some x) : oneB (l.take (j + 1)) = (oneB (l.take j) && decide (x.2.length = 1)) := by
  unfold oneB
  rw [List.take_add_one, h]
  simp

/-- A byteStringReplacer's cells as the translation lays them at first: 257, nil each. -/
theorem zero_all : Tryz.zeroCells154.toList = List.replicate 257 (.slice none 0 0) := by kernel_rfl
theorem zero_size : Tryz.zeroCells154.size = 257 := by kernel_rfl
theorem size_bsr : (Tryz.prog.info? 154).map (·.size) = some 257 := by kernel_rfl

/-- The cells behind the first store: the list's cell holds v. -/
noncomputable def table0 (v : Value) : Array Value := (Tryz.zeroCells154.toList.set 256 v).toArray

theorem table0_size (v : Value) : (table0 v).size = 257 := by unfold table0; rw [List.size_toArray, List.length_set, zero_all, List.length_replicate]
theorem table0_at (v : Value) {c : Nat} (h : c < 256) : (table0 v)[c]? = some (.slice none 0 0) := by
  unfold table0
  rw [zero_all]
  simp only [List.getElem?_toArray]
  rw [List.getElem?_set_ne (by omega), List.getElem?_replicate, if_pos (by omega)]
theorem table0_last (v : Value) : (table0 v)[256]? = some v := by
  unfold table0
  rw [zero_all]
  simp only [List.getElem?_toArray]
  rw [List.getElem?_set_self (by rw [List.length_replicate]; omega)]

theorem store_first (w1 : World) (G k : Nat) : (storeCells ⟨w1.heap.size, 0, none⟩ (Tryz.zeroCells154.toList.set 256 (.slice (some ⟨G, 0, none⟩) 0 k))).run Tryz.prog (w1.alloc (.cells Tryz.zeroCells154 154)) = .ok () (w1.alloc (.cells (table0 (.slice (some ⟨G, 0, none⟩) 0 k)) 154)) := by
  have h := run_storeCells_new (P := Tryz.prog) w1 154 Tryz.zeroCells154 (table0 (.slice (some ⟨G, 0, none⟩) 0 k)) (by rw [table0_size]; exact size_bsr) (by rw [table0_size, zero_size]) (by
    rw [Array.all_eq_true_iff_forall_mem]
    intro x hx
    unfold table0 at hx
    rw [zero_all] at hx
    simp only [List.mem_toArray] at hx
    rcases List.mem_or_eq_of_mem_set hx with hx | rfl
    · rw [List.eq_of_mem_replicate hx]; rfl
    · rfl)
  exact h

/-- The table of the pairs p: nil where no pair stands, the new string's bytes where one does. -/
def TabOk (w : World) (B R G : Nat) (T : Array Value) (p : List (UInt8 × List UInt8)) : Prop :=
  ∀ c : Nat, c < 256 →
    (p.find? (fun x => x.1.toNat == c) = none ∧ T[c]? = some (.slice none 0 0)) ∨
    (∃ x g cap, p.find? (fun x => x.1.toNat == c) = some x ∧ T[c]? = some (.slice (some ⟨g, 0, none⟩) x.2.length cap) ∧ g ≠ R ∧ g ≠ G ∧ B ≤ g ∧ g < w.heap.size ∧ ∀ i u, x.2[i]? = some u → w.cell? ⟨g, i, none⟩ = some (.int .u8 u.toNat))

/-- The strings that are asked for one by one, as the build lays them: the last pair's first. -/
def oldL (p : List (UInt8 × List UInt8)) : List Value := p.reverse.map fun x => .string ⟨[x.1].toArray⟩

/-- The build's state, the last of the pairs done but for the first m. -/
def BState (w0 wr : World) (R G : Nat) (l : List (UInt8 × List UInt8)) (m : Nat) : Prop :=
  ∃ T, wr.heap[R]? = some (.cells T 154 (0, 0)) ∧ T.size = 257 ∧ T[256]? = some (.slice (some ⟨G, 0, none⟩) (l.length - m) l.length) ∧ TabOk wr w0.heap.size R G T (l.drop m) ∧
    wr.ownsRow w0.heap.size 9 1 (.slice (some ⟨G, 0, none⟩) (l.length - m) l.length) (l.length - m) (oldL (l.drop m)) ∧ Below w0.heap.size w0 wr ∧ G ≠ R ∧ w0.heap.size ≤ R ∧ w0.heap.size ≤ G

theorem conv_one (w : World) (t : TypeId) (o : UInt8) : (convert 47 9 (.slice (some ⟨w.heap.size, 0, none⟩) 1 1)).run Tryz.prog (w.alloc (.cells #[.int .u8 o.toNat] t)) = .ok (.string ⟨[o].toArray⟩) (w.alloc (.cells #[.int .u8 o.toNat] t)) := by
  have h := run_convert_bytes_arg (P := Tryz.prog) (w.alloc (.cells #[.int .u8 o.toNat] t)) 47 5 Tryz.underlying47 Tryz.underlying5 w.heap.size 0 1 1 [(o.toNat : Int)] rfl (fun i hi => by
    obtain rfl : i = 0 := by omega
    simp) 9 Tryz.underlying9
  rw [h]
  simp [strOfNums]

theorem find_drop {l : List (UInt8 × List UInt8)} {j : Nat} {x : UInt8 × List UInt8} (h : l[j]? = some x) (c : Nat) : (l.drop j).find? (fun x => x.1.toNat == c) = if x.1.toNat == c then some x else (l.drop (j + 1)).find? (fun x => x.1.toNat == c) := by
  obtain ⟨hlt, rfl⟩ := List.getElem?_eq_some_iff.1 h
  rw [List.drop_eq_getElem_cons hlt, List.find?_cons]
  cases hq : ((l[j]).1.toNat == c) <;> simp

/-- No two pairs have one old byte. -/
def keysOk (l : List (UInt8 × List UInt8)) : Prop := ∀ (i j : Nat) (x y : UInt8 × List UInt8), i < j → l[i]? = some x → l[j]? = some y → x.1 ≠ y.1

theorem find_none {l : List (UInt8 × List UInt8)} {j : Nat} {x : UInt8 × List UInt8} (h : l[j]? = some x) (hk : keysOk l) : (l.drop (j + 1)).find? (fun y => y.1.toNat == x.1.toNat) = none := by
  rw [List.find?_eq_none]
  intro y hy
  obtain ⟨i, hi⟩ := List.getElem?_of_mem hy
  rw [List.getElem?_drop] at hi
  have := hk j (j + 1 + i) x y (by omega) h hi
  simp only [beq_iff_eq]
  intro e
  exact this (UInt8.toNat_inj.1 e).symm

theorem own_block {w : World} {B : Nat} {E : TypeId} {k G c : Nat} {n : Nat} {xs : List Value} (h : w.ownsRow B E k (.slice (some ⟨G, 0, none⟩) n c) n xs) : B ≤ G ∧ G < w.heap.size := by
  obtain ⟨_, ⟨h0, _⟩ | ⟨g, cap, cur, hv, hb, hh, _⟩⟩ := h
  · cases h0
  · simp only [Value.slice.injEq, Option.some.injEq, Addr.mk.injEq, and_true] at hv
    obtain ⟨rfl, _⟩ := hv
    refine ⟨hb, ?_⟩
    by_cases hlt : G < w.heap.size
    · exact hlt
    · rw [Array.getElem?_eq_none (by omega)] at hh
      cases hh

theorem start_state {w w1 : World} {l : List (UInt8 × List UInt8)} (hown : w1.ownsRow w.heap.size 9 1 (.slice (some ⟨w.heap.size, 0, none⟩) 0 l.length) 0 []) (hgrow : w.grownBy w1 none) :
    BState w (w1.alloc (.cells (table0 (.slice (some ⟨w.heap.size, 0, none⟩) 0 l.length)) 154)) w1.heap.size w.heap.size l l.length := by
  obtain ⟨_, hG⟩ := own_block hown
  have hb : Below w.heap.size w w1 := (Below.refl _ w).grown hgrow (Nat.le_refl _) (fun _ h => by cases h)
  refine ⟨_, (MapKept.heap_alloc _ _).1, table0_size _, ?_, ?_, ?_, hb.alloc hb.size _, by omega, hb.size, Nat.le_refl _⟩
  · rw [table0_last, Nat.sub_self]
  · intro c hc
    left
    rw [List.drop_length]
    exact ⟨rfl, table0_at _ hc⟩
  · rw [List.drop_length, Nat.sub_self]
    exact hown.alloc _

theorem own_of_heap {w w' : World} {B : Nat} {E : TypeId} {k G c : Nat} {n : Nat} {xs : List Value} (h : w.ownsRow B E k (.slice (some ⟨G, 0, none⟩) n c) n xs) (e : w'.heap[G]? = w.heap[G]?) : w'.ownsRow B E k (.slice (some ⟨G, 0, none⟩) n c) n xs := by
  obtain ⟨h0, ⟨h1, _⟩ | ⟨g, cap, cur, hv, hb, hh, hr⟩⟩ := h
  · cases h1
  · have hv2 := hv
    simp only [Value.slice.injEq, Option.some.injEq, Addr.mk.injEq, and_true] at hv2
    obtain ⟨rfl, _⟩ := hv2
    exact ⟨h0, Or.inr ⟨G, cap, cur, hv, hb, by rw [e]; exact hh, hr⟩⟩

theorem oldL_drop {l : List (UInt8 × List UInt8)} {j : Nat} {x : UInt8 × List UInt8} (h : l[j]? = some x) : oldL (l.drop j) = oldL (l.drop (j + 1)) ++ [.string ⟨[x.1].toArray⟩] := by
  obtain ⟨hlt, rfl⟩ := List.getElem?_eq_some_iff.1 h
  unfold oldL
  rw [List.drop_eq_getElem_cons hlt, List.reverse_cons, List.map_append]
  rfl

/-- What the round's two stores meet. -/
theorem round_facts {wr w2 : World} {A B : Obj} {G R o : Nat} {T : Array Value} {t : TypeId} {v u sv : Value} {s : ByteArray} (hg : ((wr.alloc A).alloc B).grownBy w2 (some G)) (hT : wr.heap[R]? = some (.cells T t (0, 0))) (hGR : G ≠ R)
    (hs : T.size = 257) (hv : T[256]? = some v) (ho : o < 256) (hu : T[o]? = some u) :
    w2.heap[R]? = some (.cells T t (0, 0)) ∧ w2.cell? ⟨R, 256, none⟩ = some v ∧ w2.frozen? ⟨R, 256, none⟩ = false ∧
    (Lib.bytesWorld (w2.setCell ⟨R, 256, none⟩ sv) 5 s).heap[R]? = some (.cells (T.setIfInBounds 256 sv) t (0, 0)) ∧
    (Lib.bytesWorld (w2.setCell ⟨R, 256, none⟩ sv) 5 s).cell? ⟨R, o, none⟩ = some u ∧ (Lib.bytesWorld (w2.setCell ⟨R, 256, none⟩ sv) 5 s).frozen? ⟨R, o, none⟩ = false := by
  have hR : R < wr.heap.size := by
    by_cases h : R < wr.heap.size
    · exact h
    · rw [Array.getElem?_eq_none (by omega)] at hT; cases hT
  have h2 : w2.heap[R]? = some (.cells T t (0, 0)) := by
    rw [hg.block R (by simp; omega) (fun e => hGR (Option.some.inj e).symm), Below.heap_alloc _ _ _ (by simp; omega), Below.heap_alloc _ _ _ hR, hT]
  have h3 := heap_setCell_same w2 R 256 T t sv h2
  have hR2 : R < w2.heap.size := by
    by_cases h : R < w2.heap.size
    · exact h
    · rw [Array.getElem?_eq_none (by omega)] at h2; cases h2
  have h4 : (Lib.bytesWorld (w2.setCell ⟨R, 256, none⟩ sv) 5 s).heap[R]? = some (.cells (T.setIfInBounds 256 sv) t (0, 0)) := by
    rw [(Lib.bytesWorld_below (w2.setCell ⟨R, 256, none⟩ sv) 5 s).block R (by simp [World.setCell]; omega)]
    exact h3
  refine ⟨h2, ?_, frozen_of_row _ _ _ _ _ h2, h4, ?_, frozen_of_row _ _ _ _ _ h4⟩
  · rw [cell_of_row _ _ _ _ _ _ h2]; exact hv
  · rw [cell_of_row _ _ _ _ _ _ h4, Array.getElem?_setIfInBounds_ne (by omega)]; exact hu

theorem TabOk.hold {w w' : World} {B R G : Nat} {T : Array Value} {p : List (UInt8 × List UInt8)} (h : TabOk w B R G T p) (hs : w.heap.size ≤ w'.heap.size) (hk : ∀ g, B ≤ g → g < w.heap.size → g ≠ R → g ≠ G → w'.heap[g]? = w.heap[g]?) : TabOk w' B R G T p := by
  intro c hc
  rcases h c hc with h | ⟨x, g, cap, h1, h2, h3, h4, h4', h5, h6⟩
  · exact Or.inl h
  · refine Or.inr ⟨x, g, cap, h1, h2, h3, h4, h4', by omega, fun i u hu => ?_⟩
    rw [World.cell?_of_block (w := w) (hk g h4' h5 h3 h4)]
    exact h6 i u hu

theorem step_state {w0 wr w2 : World} {R G cap : Nat} {l : List (UInt8 × List UInt8)} {j : Nat} {x : UInt8 × List UInt8} {T : Array Value} (hx : l[j]? = some x)
    (hT : wr.heap[R]? = some (.cells T 154 (0, 0))) (hTs : T.size = 257) (hTab : TabOk wr w0.heap.size R G T (l.drop (j + 1)))
    (hbel : Below w0.heap.size w0 wr) (hGR : G ≠ R) (hwR : w0.heap.size ≤ R) (hwG : w0.heap.size ≤ G)
    (hgrow : ((wr.alloc (.cells #[.int .u8 x.1.toNat] 5)).alloc (.cells #[.string ⟨[x.1].toArray⟩] 9)).grownBy w2 (some G))
    (hown : w2.ownsRow w0.heap.size 9 1 (.slice (some ⟨G, 0, none⟩) (l.length - (j + 1) + 1) l.length) (l.length - (j + 1) + 1) (oldL (l.drop (j + 1)) ++ [.string ⟨[x.1].toArray⟩]))
    (h4 : (Lib.bytesWorld (w2.setCell ⟨R, 256, none⟩ (.slice (some ⟨G, 0, none⟩) (l.length - (j + 1) + 1) l.length)) 5 ⟨x.2.toArray⟩).heap[R]? = some (.cells (T.setIfInBounds 256 (.slice (some ⟨G, 0, none⟩) (l.length - (j + 1) + 1) l.length)) 154 (0, 0))) :
    BState w0 ((Lib.bytesWorld (w2.setCell ⟨R, 256, none⟩ (.slice (some ⟨G, 0, none⟩) (l.length - (j + 1) + 1) l.length)) 5 ⟨x.2.toArray⟩).setCell ⟨R, x.1.toNat, none⟩ (.slice (some ⟨w2.heap.size, 0, none⟩) x.2.length cap)) R G l j := by
  have hj : j < l.length := (List.getElem?_eq_some_iff.1 hx).1
  have hlen : l.length - (j + 1) + 1 = l.length - j := by omega
  have hox := x.1.toNat_lt
  have hR : R < wr.heap.size := by
    by_cases h : R < wr.heap.size
    · exact h
    · rw [Array.getElem?_eq_none (by omega)] at hT; cases hT
  have hG2 := (own_block hown).2
  have hs2 : wr.heap.size + 2 ≤ w2.heap.size := by have := hgrow.size; simp at this; omega
  have hne : w2.heap.size ≠ R := by omega
  have hs3 : (w2.setCell ⟨R, 256, none⟩ (.slice (some ⟨G, 0, none⟩) (l.length - (j + 1) + 1) l.length)).heap.size = w2.heap.size := by simp [World.setCell]
  have hbw := Lib.bytesWorld_below (w2.setCell ⟨R, 256, none⟩ (.slice (some ⟨G, 0, none⟩) (l.length - (j + 1) + 1) l.length)) 5 ⟨x.2.toArray⟩
  have hcell := fun i hi => Lib.bytesWorld_cell (w2.setCell ⟨R, 256, none⟩ (.slice (some ⟨G, 0, none⟩) (l.length - (j + 1) + 1) l.length)) 5 ⟨x.2.toArray⟩ i hi
  generalize hw3 : w2.setCell ⟨R, 256, none⟩ (.slice (some ⟨G, 0, none⟩) (l.length - (j + 1) + 1) l.length) = w3 at *
  generalize hw4 : Lib.bytesWorld w3 5 ⟨x.2.toArray⟩ = w4 at *
  have hblk3 : ∀ g, g ≠ R → w3.heap[g]? = w2.heap[g]? := fun g hg => by rw [← hw3]; exact Below.heap_setCell _ _ _ _ hg
  have hblk4 : ∀ g, g < w2.heap.size → w4.heap[g]? = w3.heap[g]? := fun g hg => hbw.block g (by omega)
  have hblk5 : ∀ v g, g ≠ R → (w4.setCell ⟨R, x.1.toNat, none⟩ v).heap[g]? = w4.heap[g]? := fun v g hg => Below.heap_setCell _ _ _ _ hg
  have hblk2 : ∀ g, g < wr.heap.size → g ≠ G → w2.heap[g]? = wr.heap[g]? := fun g hg hgG => by
    rw [hgrow.block g (by simp; omega) (fun e => hgG (Option.some.inj e)), Below.heap_alloc _ _ _ (by simp; omega), Below.heap_alloc _ _ _ hg]
  have hsz4 : w2.heap.size ≤ w4.heap.size := by have := hbw.size; omega
  refine ⟨_, heap_setCell_same w4 R x.1.toNat _ _ _ h4, ?_, ?_, ?_, ?_, ?_, hGR, hwR, hwG⟩
  · simp [hTs]
  · rw [Array.getElem?_setIfInBounds_ne (by omega), Array.getElem?_setIfInBounds_self_of_lt (by omega), hlen]
  · intro c hc
    by_cases hxc : x.1.toNat = c
    · subst hxc
      refine Or.inr ⟨x, w2.heap.size, cap, ?_, ?_, by omega, by omega, by have := hbel.size; omega, ?_, ?_⟩
      · rw [find_drop hx]; simp
      · rw [Array.getElem?_setIfInBounds_self_of_lt (by simp [hTs]; omega)]
      · simp [World.setCell]
        have hsz := hbw.size
        by_cases hlt : w2.heap.size < w4.heap.size
        · exact hlt
        · exfalso
          have := Lib.bytesWorld_at_new w3 5 ⟨x.2.toArray⟩
          rw [hw4, Array.getElem?_eq_none (by omega)] at this
          cases this
      · intro i u hu
        have hi : i < x.2.length := (List.getElem?_eq_some_iff.1 hu).1
        rw [World.cell?_of_block (w := w4) (a := ⟨w2.heap.size, i, none⟩) (hblk5 _ _ hne)]
        have := hcell i (by show i < x.2.toArray.size; simpa using hi)
        rw [hs3] at this
        rw [this]
        simp [List.getD, hu]
    · rcases hTab c hc with ⟨h1, h2⟩ | ⟨y, g, cap', h1, h2, h3, h3', h4', h5, h6⟩
      · left
        refine ⟨?_, ?_⟩
        · rw [find_drop hx, if_neg (by simpa using hxc)]; exact h1
        · rw [Array.getElem?_setIfInBounds_ne hxc, Array.getElem?_setIfInBounds_ne (by omega)]; exact h2
      · right
        refine ⟨y, g, cap', ?_, ?_, h3, h3', h4', ?_, ?_⟩
        · rw [find_drop hx, if_neg (by simpa using hxc)]; exact h1
        · rw [Array.getElem?_setIfInBounds_ne hxc, Array.getElem?_setIfInBounds_ne (by omega)]; exact h2
        · simp [World.setCell]; omega
        · intro i u hu
          rw [World.cell?_of_block (w := wr) (a := ⟨g, i, none⟩) (by rw [hblk5 _ _ h3, hblk4 _ (by omega), hblk3 _ h3, hblk2 _ h5 h3'])]
          exact h6 i u hu
  · rw [oldL_drop hx, ← hlen]
    exact own_of_heap hown (by rw [hblk5 _ _ hGR, hblk4 _ hG2, hblk3 _ hGR])
  · have hb1 : Below w0.heap.size w0 w2 := ((hbel.alloc hbel.size _).alloc (by simp; have := hbel.size; omega) _).grown hgrow (by simp; have := hbel.size; omega) (fun k e => by cases e; exact hwG)
    have hb2 : Below w0.heap.size w0 w3 := by rw [← hw3]; exact hb1.setCell hwR _
    exact (hb2.trans (hbw.mono (by rw [hs3]; exact hb1.size))).setCell hwR _

set_option maxRecDepth 100000 in
set_option maxHeartbeats 1000000 in
theorem build_any (b g cap n : Nat) (d0 d1 d2 : Value) (l : List (UInt8 × List UInt8)) (w : World) (n1 : 2 * l.length ≤ n) (n2 : n ≤ 2 * l.length) (hl : 2 ≤ l.length) (h8 : l.length ≤ 100)
    (hb : w.heap[b]? = some (.cells #[d0, d1, d2, .nilIface, .slice (some ⟨g, 0, none⟩) n cap] 96 (0, 0)))
    (ho : ∀ (j : Nat) (u : Value), (pairL l)[j]? = some u → w.cell? ⟨g, j, none⟩ = some u) (h1 : oneB l = false) (hk : keysOk l) :
    Calls Tryz.prog 80 #[.pointer (some ⟨b, 0, none⟩)] w fun e w' => ∃ R G, e = .returned (.iface 155 (.pointer (some ⟨R, 0, none⟩))) ∧ BState w w' R G l 0 := by
  have c4 : w.cell? ⟨b, 4, none⟩ = some (.slice (some ⟨g, 0, none⟩) n cap) := by rw [cell_of_row _ _ _ _ _ _ hb]; rfl
  have HO := Lib.hid ho
  have HB := Lib.hid hb
  have H1 := Lib.hid h1
  clear ho hb h1
  obtain ⟨i0, hi, hz0, hz1, hz2⟩ := info_parts r_info
  have K2 := Lib.hid (show (i0.bytes * l.length ≤ 281474976710656) by rw [hz2]; omega)
  have K3 := Lib.hid (show l.length ≤ maxLen by unfold maxLen; omega)
  go_enter Tryz.func80, Tryz.ntmps80
  go_wp2
  go_loop [4, 5] (fun av iv => ∃ j : Nat, j ≤ l.length ∧ iv = .int .i64 (2 * (j : Int)) ∧ av = .bool (oneB (l.take j))) (fun _ iv => 2 * l.length - (intOf iv).toNat)
  case atStart => exact ⟨0, by omega, rfl, rfl⟩
  case round =>
    obtain ⟨j, hj, rfl, rfl⟩ := hrel
    by_cases hlt : j < l.length
    · have hx := List.getElem?_eq_getElem hlt
      have e0 := HO.out _ _ (pairL_old l j _ hx)
      have e1 := HO.out _ _ (pairL_new l j _ hx)
      have HT := Lib.hid (oneB_take hx)
      clear hx
      by_cases hone : (l[j]'hlt).2.length = 1
      · have hb1 : (((l[j]'hlt).2.length : Int) != 1) = false := by rw [bne_eq_false_iff_eq]; omega
        have HE := Lib.hid (show oneB (l.take (j + 1)) = oneB (l.take j) by rw [HT.out, decide_eq_true hone, Bool.and_true])
        clear hone
        go_wp2
        go_round
        case rel => exact ⟨j + 1, by omega, by go_num, by rw [HE.out]⟩
        case measure => simp [intOf]; omega
      · have hb1 : (((l[j]'hlt).2.length : Int) != 1) = true := by rw [bne_iff_ne]; omega
        have HE := Lib.hid (show oneB (l.take (j + 1)) = false by rw [HT.out, decide_eq_false hone, Bool.and_false])
        clear hone
        go_wp2
        go_round
        case rel => exact ⟨j + 1, by omega, by go_num, by rw [HE.out]⟩
        case measure => simp [intOf]; omega
    · have ht := List.take_of_length_le (show l.length ≤ j by omega)
      rw [ht, H1.out]
      clear ht
      have hn2 : (n : Int) / 2 = (l.length : Int) := by omega
      have HN2 := Lib.hid hn2
      clear hn2
      have hst := store_first
      go_wp2_with (at_make; refine wpList_make_own _ rfl _ _ 80 rfl w.heap.size 9 i0 (.string ⟨#[]⟩) 1 Tryz.underlying80 hi hz0 hz1 .i64 .i64 _ l.length rfl rfl HN2.out K2.out K3.out (Nat.le_refl _) ?_; intro w1 hown1 hgrow1)
      have HS := Lib.hid (start_state hown1 hgrow1)
      go_loopw [12] (fun iv wr => ∃ (m : Nat) (q : Int), m ≤ l.length ∧ Hid (q = 2 * (m : Int) - 2) ∧ -2 ≤ q ∧ iv = .int .i64 q ∧ Hid (BState w wr w1.heap.size w.heap.size l m)) (fun iv _ => (intOf iv + 2).toNat)
      case atStart => exact ⟨l.length, _, Nat.le_refl _, (show (n : Int) - 2 = _ by omega), by omega, rfl, HS⟩
      case round =>
        clear HS hown1 hgrow1
        obtain ⟨m, q, hm, HQ, hq, rfl, HB2⟩ := hrel
        by_cases hm0 : m = 0
        · have hq0 : q ≤ -1 := by have := HQ.out; omega
          go_wp2
          go_ret
          subst hm0
          exact ⟨_, _, rfl, HB2.out⟩
        · obtain ⟨j2, rfl⟩ : ∃ j2, m = j2 + 1 := ⟨m - 1, by omega⟩
          have hq1 : q = 2 * (j2 : Int) := by have := HQ.out; omega
          subst hq1
          have hj2 : j2 < l.length := by omega
          have hx := List.getElem?_eq_getElem hj2
          obtain ⟨x, hxe⟩ : ∃ x, l[j2]'hj2 = x := ⟨_, rfl⟩
          rw [hxe] at hx
          obtain ⟨T, hT, hTs, hTl, hTab, hown, hbel, hGR, hwR, hwG⟩ := HB2.out
          have e0 := cell_later hbel (HO.out _ _ (pairL_old l j2 _ hx))
          have e1 := cell_later hbel (HO.out _ _ (pairL_new l j2 _ hx))
          have bx := x.1.toNat_lt
          have cR0 : wr.cell? ⟨w1.heap.size, x.1.toNat, none⟩ = some (.slice none 0 0) := by
            rw [cell_of_row _ _ _ _ _ _ hT]
            rcases hTab x.1.toNat (by omega) with ⟨_, h⟩ | ⟨y, _, _, h, _⟩
            · exact h
            · rw [find_none hx hk] at h; cases h
          have cR1 : wr.cell? ⟨w1.heap.size, 256, none⟩ = some (.slice (some ⟨w.heap.size, 0, none⟩) (l.length - (j2 + 1)) l.length) := by
            rw [cell_of_row _ _ _ _ _ _ hT]; exact hTl
          have zR := fun c => frozen_of_row wr w1.heap.size c T _ hT
          have heq := fun W => Go.run_eql_slice_nil (P := Tryz.prog) W 47 5 none 0 0 Tryz.underlying47
          have hget : ∀ h, (⟨#[x.1]⟩ : ByteArray)[0]'h = x.1 := fun _ => rfl
          have kc := fun W => Lib.run_convert_string_bytes (P := Tryz.prog) W 9 47 5 ⟨x.2.toArray⟩ Tryz.underlying9 Tryz.underlying47 Tryz.underlying5
          have hcv := fun W t => conv_one W t x.1
          have HTo := Lib.hid (show x.1.toNat < 256 ∧ T[x.1.toNat]? = some (.slice none 0 0) from ⟨by omega, by
            rw [cell_of_row _ _ _ _ _ _ hT] at cR0
            exact cR0⟩)
          have HX := Lib.hid hx
          have HTT := Lib.hid hT
          have HTs := Lib.hid hTs
          have HTl := Lib.hid hTl
          have HTab := Lib.hid hTab
          have HOwn := Lib.hid hown
          have HC2 := Lib.hid (show ∀ (j : Nat) (u : Value), ([.string ⟨[x.1].toArray⟩] : List Value)[j]? = some u → ((wr.alloc (.cells #[.int .u8 x.1.toNat] 5)).alloc (.cells #[.string ⟨[x.1].toArray⟩] 9)).cell? ((⟨wr.heap.size + 1, 0, none⟩ : Addr).add j) = some u by
            intro j u hu
            have hj0 : j = 0 := by
              by_cases h : j = 0
              · exact h
              · rw [List.getElem?_eq_none (by simp; omega)] at hu; cases hu
            subst hj0
            simp at hu
            subst hu
            simp [Addr.add])
          have HC1 := Lib.hid (show ∀ u ∈ ([.string ⟨[x.1].toArray⟩] : List Value), u.oneCell' = true by
            intro u hu
            simp at hu
            subst hu
            rfl)
          have HO2 := Lib.hid ((HOwn.out.alloc (.cells #[.int .u8 x.1.toNat] 5)).alloc (.cells #[.string ⟨[x.1].toArray⟩] 9))
          have K5 := Lib.hid (show l.length - (j2 + 1) + 1 ≤ l.length by omega)
          clear hx hxe hT hTs hTl hTab hown HB2 HQ
          go_wp2_with (at_builtin; refine wpList_append_fits _ rfl _ _ 80 rfl w.heap.size 9 i0 1 Tryz.underlying80 hi hz1 w.heap.size (l.length - (j2 + 1)) l.length _ rfl HO2.out ⟨wr.heap.size + 1, 0, none⟩ 1 1 [.string ⟨[x.1].toArray⟩] rfl rfl HC2.out HC1.out K5.out ?_; intro w2 hown2 hgrow2; obtain ⟨f1, f2, f3, f4, f5, f6⟩ := round_facts (sv := .slice (some ⟨w.heap.size, 0, none⟩) (l.length - (j2 + 1) + 1) l.length) (s := ⟨x.2.toArray⟩) hgrow2 HTT.out hGR HTs.out HTl.out HTo.out.1 HTo.out.2; have F1 := Lib.hid f1; have F4 := Lib.hid f4; clear f1 f4)
          go_roundw
          case rel => exact ⟨j2, _, by omega, (show 2 * (j2 : Int) - 2 = _ by omega), by omega, rfl, step_state HX.out HTT.out HTs.out HTab.out hbel hGR hwR hwG hgrow2 hown2 F4.out⟩
          case measure => simp [intOf]; omega


/-- A byteStringReplacer as the build leaves it: block R, all of it from block B on. -/
def Rep (w : World) (B R : Nat) (l : List (UInt8 × List UInt8)) : Prop :=
  ∃ G T, w.heap[R]? = some (.cells T 154 (0, 0)) ∧ T.size = 257 ∧ T[256]? = some (.slice (some ⟨G, 0, none⟩) l.length l.length) ∧ TabOk w B R G T l ∧
    w.ownsRow B 9 1 (.slice (some ⟨G, 0, none⟩) l.length l.length) l.length (oldL l) ∧ G ≠ R ∧ B ≤ R ∧ B ≤ G

theorem BState.rep {w0 wr : World} {R G : Nat} {l : List (UInt8 × List UInt8)} (h : BState w0 wr R G l 0) : Rep wr w0.heap.size R l ∧ Below w0.heap.size w0 wr := by
  obtain ⟨T, h1, h2, h3, h4, h5, h6, h7, h8, h9⟩ := h
  rw [Nat.sub_zero] at h3 h5
  rw [List.drop_zero] at h4 h5
  exact ⟨⟨G, T, h1, h2, h3, h4, h5, h7, h8, h9⟩, h6⟩

theorem block_lt {w : World} {R : Nat} {o : Obj} (h : w.heap[R]? = some o) : R < w.heap.size := by
  by_cases hlt : R < w.heap.size
  · exact hlt
  · rw [Array.getElem?_eq_none (by omega)] at h; cases h

/-- It stands while the blocks from B on stand. -/
theorem Rep.hold {w w' : World} {B R : Nat} {l : List (UInt8 × List UInt8)} (h : Rep w B R l) (hs : w.heap.size ≤ w'.heap.size) (hk : ∀ g, B ≤ g → g < w.heap.size → w'.heap[g]? = w.heap[g]?) : Rep w' B R l := by
  obtain ⟨G, T, h1, h2, h3, h4, h5, h7, h8, h9⟩ := h
  refine ⟨G, T, ?_, h2, h3, h4.hold hs (fun g hB hg _ _ => hk g hB hg), own_of_heap h5 (hk G h9 (own_block h5).2), h7, h8, h9⟩
  rw [hk R h8 (block_lt h1)]
  exact h1

theorem Rep.below {w w' : World} {B R : Nat} {l : List (UInt8 × List UInt8)} (h : Rep w B R l) (hb : Below w.heap.size w w') : Rep w' B R l :=
  h.hold hb.size fun g _ hg => hb.block g hg

theorem Rep.setCell {w : World} {B R : Nat} {l : List (UInt8 × List UInt8)} (h : Rep w B R l) {a : Addr} (ha : a.block < B) (v : Value) : Rep (w.setCell a v) B R l :=
  h.hold (by simp [World.setCell]) fun g hB _ => Below.heap_setCell _ _ _ _ (by omega)

theorem Rep.drew {w : World} {B R : Nat} {l : List (UInt8 × List UInt8)} (h : Rep w B R l) : Rep w.drew B R l := h

set_option maxRecDepth 100000 in
set_option maxHeartbeats 1000000 in
/-- buildOnce: the Replacer's r holds the byteStringReplacer, its pairs are gone. -/
theorem once_any (b g cap n : Nat) (d0 d1 d2 : Value) (l : List (UInt8 × List UInt8)) (w : World) (n1 : 2 * l.length ≤ n) (n2 : n ≤ 2 * l.length) (hl : 2 ≤ l.length) (h8 : l.length ≤ 100)
    (hb : w.heap[b]? = some (.cells #[d0, d1, d2, .nilIface, .slice (some ⟨g, 0, none⟩) n cap] 96 (0, 0)))
    (ho : ∀ (j : Nat) (u : Value), (pairL l)[j]? = some u → w.cell? ⟨g, j, none⟩ = some u) (h1 : oneB l = false) (hk : keysOk l) :
    Calls Tryz.prog 51 #[.pointer (some ⟨b, 0, none⟩)] w fun e w' => ∃ R, e = .returned (.tuple #[]) ∧ Rep w' w.heap.size R l ∧ Below b w w' ∧
      w'.heap[b]? = some (.cells #[d0, d1, d2, .iface 155 (.pointer (some ⟨R, 0, none⟩)), .slice none 0 0] 96 (0, 0)) := by
  have HB := Lib.hid hb
  have hbl := block_lt hb
  have HBld := Lib.hid (build_any b g cap n d0 d1 d2 l w n1 n2 hl h8 hb ho h1 hk)
  clear hb ho h1 hk
  go_enter Tryz.func51, Tryz.ntmps51
  go_wp2_with fail
  refine HBld.out.mono ?_
  rintro e w1 ⟨R, G, rfl, hst⟩
  obtain ⟨hrep, hbel⟩ := hst.rep
  have hb1 : w1.heap[b]? = some (.cells #[d0, d1, d2, .nilIface, .slice (some ⟨g, 0, none⟩) n cap] 96 (0, 0)) := by rw [hbel.block b hbl]; exact HB.out
  have c3 : w1.cell? ⟨b, 3, none⟩ = some .nilIface := by rw [cell_of_row _ _ _ _ _ _ hb1]; rfl
  have z3 := fun c => frozen_of_row w1 b c _ _ hb1
  have hb2 := heap_setCell_same w1 b 3 _ _ (.iface 155 (.pointer (some ⟨R, 0, none⟩))) hb1
  have c4 : (w1.setCell ⟨b, 3, none⟩ (.iface 155 (.pointer (some ⟨R, 0, none⟩)))).cell? ⟨b, 4, none⟩ = some (.slice (some ⟨g, 0, none⟩) n cap) := by rw [cell_of_row _ _ _ _ _ _ hb2]; rfl
  have hb3 := heap_setCell_same _ b 4 _ _ (.slice none 0 0) hb2
  have HB2 := Lib.hid hb2
  have HB3 := Lib.hid hb3
  have HBe := Lib.hid hbel
  have HR := Lib.hid hrep
  clear hb1 hb2 hb3 hst
  go_wp2
  go_end0
  exact ⟨R, rfl, Rep.setCell (a := ⟨b, 4, none⟩) (Rep.setCell (a := ⟨b, 3, none⟩) HR.out hbl _) hbl _, Below.setCell (p := ⟨b, 4, none⟩) (Below.setCell (p := ⟨b, 3, none⟩) (HBe.out.mono (Nat.le_of_lt hbl)) (Nat.le_refl _) _) (Nat.le_refl _) _, HB3.out⟩

end Go.Proofs.YtfnodoepeiknhaaGreatDoor
