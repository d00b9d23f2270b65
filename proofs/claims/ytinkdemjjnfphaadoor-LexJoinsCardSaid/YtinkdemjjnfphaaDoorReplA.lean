/- The walk over strings.NewReplacer: the pairs are copied into a row of the call's own. The walk over (*strings.Replacer).build, where all old strings are single bytes and some new one is none. The walks over sync.Once as a Replacer uses it, its first time: the lock is taken, the build is made, 'done' is stored, the lock is let go. What a byteStringReplacer's Replace answers, over lists of bytes: no program in sight. The walk over (*strings.byteStringReplacer).Replace: short texts, which are gone through byte by byte. The walk over tarifflaw04's fixed fact: an escape, names, a text, a keyword. What the rows' list gives the walks: the decoder's two tables. The walk over (*strings.byteStringReplacer).Replace: long texts, whose keys are counted one by one. Quotes over lists of bytes: what Quote lays, what Unquote reads, and that it reads what was laid. No program in sight. The walks over Quote, of the package and of the reference. -/
import Derived.Test.YtinkdemjjnfphaaDoorProg
import Derived.WalkKit
import Derived.WalkSpells
import Derived.WalkLawsBesides
import Derived.Lib.Hide
import Derived.Laws.Tables
import Derived.Deep.WholeRow
import Derived.Laws.BytesArg
import Derived.Lib.ConvBytes
import Derived.Lib.AtoiErrMem
import Derived.Lib.LazyBuf
import Derived.WalkSmall
import Derived.Defers
import Derived.Laws.Pointers
import Derived.Laws.LoneSync
import Derived.RegionTactic
import Derived.RegionCalls
import Derived.ChangeAlike
import Derived.Laws.CopyOwn
import Derived.Deep.RegionLaw
import Derived.Lib.Strings
import Derived.Test.YtinkdemjjnfphaaDoorCharsA
import Derived.Test.YtinkdemjjnfphaaDoorRows
import Derived.Lib.LaidU8T
import Derived.Test.YtinkdemjjnfphaaDoorSepA
import Derived.Test.YtinkdemjjnfphaaDoorShelf
import Derived.Lib.Bytealg
import Derived.BigQuiet
import Derived.Deep.QuietTactic
import Derived.IntWalk
namespace Go.Proofs.YtinkdemjjnfphaaDoor
open Go.RowKit
set_option linter.unusedVariables false

theorem r_info : (Tryd.prog.info? 9).map (fun i => (i.zero, i.size, i.bytes)) = some (some (.string ⟨#[]⟩), 1, 16) := by kernel_rfl

theorem own_shape {w : World} {B : Nat} {E : TypeId} {k : Nat} {v : Value} {n : Nat} {xs : List Value} (h : w.ownsRow B E k v n xs) (hn : 0 < n) : ∃ g cap, v = .slice (some ⟨g, 0, none⟩) n cap := by
  obtain ⟨_, ⟨_, h0⟩ | ⟨g, cap, cur, hv, _⟩⟩ := h
  · omega
  · exact ⟨g, cap, hv⟩

end Go.Proofs.YtinkdemjjnfphaaDoor

namespace Go.Proofs.YtinkdemjjnfphaaDoor
open Go.RowKit
set_option linter.unusedVariables false

/-- The pairs as NewReplacer's arguments. -/
def pairL : List (UInt8 × List UInt8) → List Value
  | [] => []
  | (o, nw) :: r => .string ⟨[o].toArray⟩ :: .string ⟨nw.toArray⟩ :: pairL r

theorem pairL_len (l : List (UInt8 × List UInt8)) : (pairL l).length = 2 * l.length := by
  induction l with
  | nil => rfl
  | cons x r ih => obtain ⟨o, nw⟩ := x; simp [pairL, ih]; omega

theorem pairL_old : ∀ (l : List (UInt8 × List UInt8)) (j : Nat) (x : UInt8 × List UInt8), l[j]? = some x → (pairL l)[2 * j]? = some (.string ⟨[x.1].toArray⟩)
  | [], j, x, h => by simp at h
  | (o, nw) :: r, 0, x, h => by simp at h; subst h; rfl
  | (o, nw) :: r, j + 1, x, h => by
    have := pairL_old r j x (by simpa using h)
    rw [show 2 * (j + 1) = 2 * j + 1 + 1 by omega]
    simpa [pairL] using this

theorem pairL_new : ∀ (l : List (UInt8 × List UInt8)) (j : Nat) (x : UInt8 × List UInt8), l[j]? = some x → (pairL l)[2 * j + 1]? = some (.string ⟨x.2.toArray⟩)
  | [], j, x, h => by simp at h
  | (o, nw) :: r, 0, x, h => by simp at h; subst h; rfl
  | (o, nw) :: r, j + 1, x, h => by
    have := pairL_new r j x (by simpa using h)
    rw [show 2 * (j + 1) + 1 = 2 * j + 1 + 1 + 1 by omega]
    simpa [pairL] using this

/-- All new strings of the first j are of one byte. -/
def oneB (l : List (UInt8 × List UInt8)) : Bool := l.all fun x => decide (x.2.length = 1)

theorem oneB_take {l : List (UInt8 × List UInt8)} {j : Nat} {x : UInt8 × List UInt8} (h : l[j]? = some x) : oneB (l.take (j + 1)) = (oneB (l.take j) && decide (x.2.length = 1)) := by
  unfold oneB
  rw [List.take_add_one, h]
  simp

/-- The table of the pairs p: nil where no pair stands, the new string's bytes where one does. -/
def TabOk (w : World) (B R G : Nat) (T : Array Value) (p : List (UInt8 × List UInt8)) : Prop :=
  ∀ c : Nat, c < 256 →
    (p.find? (fun x => x.1.toNat == c) = none ∧ T[c]? = some (.slice none 0 0)) ∨
    (∃ x g cap, p.find? (fun x => x.1.toNat == c) = some x ∧ T[c]? = some (.slice (some ⟨g, 0, none⟩) x.2.length cap) ∧ g ≠ R ∧ g ≠ G ∧ B ≤ g ∧ g < w.heap.size ∧ ∀ i u, x.2[i]? = some u → w.cell? ⟨g, i, none⟩ = some (.int .u8 u.toNat))

/-- The strings that are asked for one by one, as the build lays them: the last pair's first. -/
def oldL (p : List (UInt8 × List UInt8)) : List Value := p.reverse.map fun x => .string ⟨[x.1].toArray⟩

theorem conv_one (w : World) (t : TypeId) (o : UInt8) : (convert 72 9 (.slice (some ⟨w.heap.size, 0, none⟩) 1 1)).run Tryd.prog (w.alloc (.cells #[.int .u8 o.toNat] t)) = .ok (.string ⟨[o].toArray⟩) (w.alloc (.cells #[.int .u8 o.toNat] t)) := by
  have h := run_convert_bytes_arg (P := Tryd.prog) (w.alloc (.cells #[.int .u8 o.toNat] t)) 72 5 Tryd.underlying72 Tryd.underlying5 w.heap.size 0 1 1 [(o.toNat : Int)] rfl (fun i hi => by
    obtain rfl : i = 0 := by omega
    simp) 9 Tryd.underlying9
  rw [h]
  simp [strOfNums]

theorem find_drop {l : List (UInt8 × List UInt8)} {j : Nat} {x : UInt8 × List UInt8} (h : l[j]? = some x) (c : Nat) : (l.drop j).find? (fun x => x.1.toNat == c) = if x.1.toNat == c then some x else (l.drop (j + 1)).find? (fun x => x.1.toNat == c) := by
  obtain ⟨hlt, rfl⟩ := List.getElem?_eq_some_iff.1 h
  rw [List.drop_eq_getElem_cons hlt, List.find?_cons]
  cases hq : ((l[j]).1.toNat == c) <;> simp

/-- No two pairs have one old byte. -/
def keysOk (l : List (UInt8 × List UInt8)) : Prop := ∀ (i j : Nat) (x y : UInt8 × List UInt8), i < j → l[i]? = some x → l[j]? = some y → x.1 ≠ y.1

theorem find_none {l : List (UInt8 × List UInt8)} {j : Nat} {x : UInt8 × List UInt8} (h : l[j]? = some x) (hk : keysOk l) : (l.drop (j + 1)).find? (fun y => y.1.toNat == x.1.toNat) = none := by
  rw [List.find?_eq_none]
  intro y hy
  obtain ⟨i, hi⟩ := List.getElem?_of_mem hy
  rw [List.getElem?_drop] at hi
  have := hk j (j + 1 + i) x y (by omega) h hi
  simp only [beq_iff_eq]
  intro e
  exact this (UInt8.toNat_inj.1 e).symm

theorem own_block {w : World} {B : Nat} {E : TypeId} {k G c : Nat} {n : Nat} {xs : List Value} (h : w.ownsRow B E k (.slice (some ⟨G, 0, none⟩) n c) n xs) : B ≤ G ∧ G < w.heap.size := by
  obtain ⟨_, ⟨h0, _⟩ | ⟨g, cap, cur, hv, hb, hh, _⟩⟩ := h
  · cases h0
  · simp only [Value.slice.injEq, Option.some.injEq, Addr.mk.injEq, and_true] at hv
    obtain ⟨rfl, _⟩ := hv
    refine ⟨hb, ?_⟩
    by_cases hlt : G < w.heap.size
    · exact hlt
    · rw [Array.getElem?_eq_none (by omega)] at hh
      cases hh

theorem own_of_heap {w w' : World} {B : Nat} {E : TypeId} {k G c : Nat} {n : Nat} {xs : List Value} (h : w.ownsRow B E k (.slice (some ⟨G, 0, none⟩) n c) n xs) (e : w'.heap[G]? = w.heap[G]?) : w'.ownsRow B E k (.slice (some ⟨G, 0, none⟩) n c) n xs := by
  obtain ⟨h0, ⟨h1, _⟩ | ⟨g, cap, cur, hv, hb, hh, hr⟩⟩ := h
  · cases h1
  · have hv2 := hv
    simp only [Value.slice.injEq, Option.some.injEq, Addr.mk.injEq, and_true] at hv2
    obtain ⟨rfl, _⟩ := hv2
    exact ⟨h0, Or.inr ⟨G, cap, cur, hv, hb, by rw [e]; exact hh, hr⟩⟩

theorem oldL_drop {l : List (UInt8 × List UInt8)} {j : Nat} {x : UInt8 × List UInt8} (h : l[j]? = some x) : oldL (l.drop j) = oldL (l.drop (j + 1)) ++ [.string ⟨[x.1].toArray⟩] := by
  obtain ⟨hlt, rfl⟩ := List.getElem?_eq_some_iff.1 h
  unfold oldL
  rw [List.drop_eq_getElem_cons hlt, List.reverse_cons, List.map_append]
  rfl

/-- What the round's two stores meet. -/
theorem round_facts {wr w2 : World} {A B : Obj} {G R o : Nat} {T : Array Value} {t : TypeId} {v u sv : Value} {s : ByteArray} (hg : ((wr.alloc A).alloc B).grownBy w2 (some G)) (hT : wr.heap[R]? = some (.cells T t (0, 0))) (hGR : G ≠ R)
    (hs : T.size = 257) (hv : T[256]? = some v) (ho : o < 256) (hu : T[o]? = some u) :
    w2.heap[R]? = some (.cells T t (0, 0)) ∧ w2.cell? ⟨R, 256, none⟩ = some v ∧ w2.frozen? ⟨R, 256, none⟩ = false ∧
    (Lib.bytesWorld (w2.setCell ⟨R, 256, none⟩ sv) 5 s).heap[R]? = some (.cells (T.setIfInBounds 256 sv) t (0, 0)) ∧
    (Lib.bytesWorld (w2.setCell ⟨R, 256, none⟩ sv) 5 s).cell? ⟨R, o, none⟩ = some u ∧ (Lib.bytesWorld (w2.setCell ⟨R, 256, none⟩ sv) 5 s).frozen? ⟨R, o, none⟩ = false := by
  have hR : R < wr.heap.size := by
    by_cases h : R < wr.heap.size
    · exact h
    · rw [Array.getElem?_eq_none (by omega)] at hT; cases hT
  have h2 : w2.heap[R]? = some (.cells T t (0, 0)) := by
    rw [hg.block R (by simp; omega) (fun e => hGR (Option.some.inj e).symm), Below.heap_alloc _ _ _ (by simp; omega), Below.heap_alloc _ _ _ hR, hT]
  have h3 := heap_setCell_same w2 R 256 T t sv h2
  have hR2 : R < w2.heap.size := by
    by_cases h : R < w2.heap.size
    · exact h
    · rw [Array.getElem?_eq_none (by omega)] at h2; cases h2
  have h4 : (Lib.bytesWorld (w2.setCell ⟨R, 256, none⟩ sv) 5 s).heap[R]? = some (.cells (T.setIfInBounds 256 sv) t (0, 0)) := by
    rw [(Lib.bytesWorld_below (w2.setCell ⟨R, 256, none⟩ sv) 5 s).block R (by simp [World.setCell]; omega)]
    exact h3
  refine ⟨h2, ?_, frozen_of_row _ _ _ _ _ h2, h4, ?_, frozen_of_row _ _ _ _ _ h4⟩
  · rw [cell_of_row _ _ _ _ _ _ h2]; exact hv
  · rw [cell_of_row _ _ _ _ _ _ h4, Array.getElem?_setIfInBounds_ne (by omega)]; exact hu

theorem TabOk.hold {w w' : World} {B R G : Nat} {T : Array Value} {p : List (UInt8 × List UInt8)} (h : TabOk w B R G T p) (hs : w.heap.size ≤ w'.heap.size) (hk : ∀ g, B ≤ g → g < w.heap.size → g ≠ R → g ≠ G → w'.heap[g]? = w.heap[g]?) : TabOk w' B R G T p := by
  intro c hc
  rcases h c hc with h | ⟨x, g, cap, h1, h2, h3, h4, h4', h5, h6⟩
  · exact Or.inl h
  · refine Or.inr ⟨x, g, cap, h1, h2, h3, h4, h4', by omega, fun i u hu => ?_⟩
    rw [World.cell?_of_block (w := w) (hk g h4' h5 h3 h4)]
    exact h6 i u hu

theorem block_lt {w : World} {R : Nat} {o : Obj} (h : w.heap[R]? = some o) : R < w.heap.size := by
  by_cases hlt : R < w.heap.size
  · exact hlt
  · rw [Array.getElem?_eq_none (by omega)] at h; cases h

end Go.Proofs.YtinkdemjjnfphaaDoor

namespace Go.Proofs.YtinkdemjjnfphaaDoor
open Go.RowKit
set_option linter.unusedVariables false

end Go.Proofs.YtinkdemjjnfphaaDoor

namespace Go.Proofs.YtinkdemjjnfphaaDoor

/-- The pair of a byte. -/
def pairOf (l : List (UInt8 × List UInt8)) (c : Nat) : Option (UInt8 × List UInt8) := l.find? (fun x => x.1.toNat == c)
def replC (l : List (UInt8 × List UInt8)) (c : UInt8) : List UInt8 := match pairOf l c.toNat with | some x => x.2 | none => [c]
def replL (l : List (UInt8 × List UInt8)) (s : List UInt8) : List UInt8 := s.flatMap (replC l)
def chgB (l : List (UInt8 × List UInt8)) (s : List UInt8) : Bool := s.any fun c => (pairOf l c.toNat).isSome

theorem replL_take {l : List (UInt8 × List UInt8)} {s : List UInt8} {k : Nat} {c : UInt8} (h : s[k]? = some c) : replL l (s.take (k + 1)) = replL l (s.take k) ++ replC l c := by
  unfold replL
  rw [List.take_add_one, h]
  simp

theorem chgB_take {l : List (UInt8 × List UInt8)} {s : List UInt8} {k : Nat} {c : UInt8} (h : s[k]? = some c) : chgB l (s.take (k + 1)) = (chgB l (s.take k) || (pairOf l c.toNat).isSome) := by
  unfold chgB
  rw [List.take_add_one, h]
  simp

theorem replL_same {l : List (UInt8 × List UInt8)} : ∀ {s : List UInt8}, chgB l s = false → replL l s = s
  | [], _ => rfl
  | c :: s, h => by
    unfold chgB at h
    rw [List.any_cons, Bool.or_eq_false_iff] at h
    have ih := replL_same (l := l) (s := s) h.2
    unfold replL at ih ⊢
    rw [List.flatMap_cons, ih]
    have : replC l c = [c] := by
      unfold replC
      cases hp : pairOf l c.toNat with
      | none => rfl
      | some x => rw [hp] at h; cases h.1
    rw [this]
    rfl

theorem replC_len {l : List (UInt8 × List UInt8)} {m : Nat} (hm : 1 ≤ m) (hl : ∀ x ∈ l, x.2.length ≤ m) (c : UInt8) : (replC l c).length ≤ m := by
  unfold replC pairOf
  split
  · rename_i x hx
    exact hl x (List.mem_of_find?_eq_some hx)
  · simpa using hm

theorem replL_len {l : List (UInt8 × List UInt8)} {m : Nat} (hm : 1 ≤ m) (hl : ∀ x ∈ l, x.2.length ≤ m) : ∀ (s : List UInt8), (replL l s).length ≤ m * s.length
  | [] => by simp [replL]
  | c :: s => by
    have h1 := replC_len hm hl c
    have h2 := replL_len hm hl s
    unfold replL at h2 ⊢
    rw [List.flatMap_cons, List.length_append, List.length_cons, Nat.mul_succ]
    omega

theorem replL_app {l : List (UInt8 × List UInt8)} (a b : List UInt8) : replL l (a ++ b) = replL l a ++ replL l b := by
  unfold replL
  rw [List.flatMap_append]
end Go.Proofs.YtinkdemjjnfphaaDoor

namespace Go.Proofs.YtinkdemjjnfphaaDoor
open Go.RowKit
set_option linter.unusedVariables false

theorem b_at {s : ByteArray} {k : Nat} (h : k < s.size) : s.data.toList[k]? = some s[k] := by
  rw [List.getElem?_eq_getElem (by simpa using h)]; rfl
theorem b_take {s : ByteArray} {k : Nat} (h : s.size ≤ k) : s.data.toList.take k = s.data.toList := List.take_of_length_le (by simpa using h)

theorem u_info : (Tryd.prog.info? 5).map (fun i => (i.zero, i.size, i.bytes)) = some (some (.int .u8 0), 1, 1) := by kernel_rfl

/-- A byte as a value. -/
def bv (b : UInt8) : Value := .int .u8 b.toNat

theorem set_mid (a r : List Value) (x v : Value) : ((a ++ x :: r).toArray).setIfInBounds a.length v = (a ++ v :: r).toArray := by
  simp

/-- The buffer, filled so far with what stands for the first bytes. -/
def BufAt (w : World) (D N : Nat) (done : List UInt8) : Prop := ∃ rest : List Value, w.heap[D]? = some (.cells (done.map bv ++ rest).toArray 5 (0, 0)) ∧ done.length + rest.length = N

theorem BufAt.cell {w : World} {D N : Nat} {done : List UInt8} (h : BufAt w D N done) (hlt : done.length < N) : (∃ r0, w.cell? ⟨D, done.length, none⟩ = some r0) ∧ w.frozen? ⟨D, done.length, none⟩ = false := by
  obtain ⟨rest, h1, h2⟩ := h
  cases rest with
  | nil => simp at h2; omega
  | cons r0 rest =>
    exact ⟨⟨r0, by rw [cell_of_row _ _ _ _ _ _ h1]; simp⟩, frozen_of_row _ _ _ _ _ h1⟩

theorem BufAt.put {w : World} {D N : Nat} {done : List UInt8} (h : BufAt w D N done) (hlt : done.length < N) (c : UInt8) : BufAt (w.setCell ⟨D, done.length, none⟩ (.int .u8 c.toNat)) D N (done ++ [c]) := by
  obtain ⟨rest, h1, h2⟩ := h
  cases rest with
  | nil => simp at h2; omega
  | cons r0 rest =>
    refine ⟨rest, ?_, by simp at h2 ⊢; omega⟩
    rw [heap_setCell_same _ _ _ _ _ _ h1]
    have := set_mid (done.map bv) rest r0 (.int .u8 c.toNat)
    rw [List.length_map] at this
    rw [this]
    simp [bv]

theorem BufAt.splice {w' : World} {D N : Nat} {done : List UInt8} {rest : List Value} (nw : List UInt8) (h2 : done.length + rest.length = N) (hfit : done.length + nw.length ≤ N)
    (h : w'.heap[D]? = some (.cells (splice (done.map bv ++ rest) done.length (nw.map bv)).toArray 5 (0, 0))) : BufAt w' D N (done ++ nw) := by
  refine ⟨rest.drop nw.length, ?_, by simp; omega⟩
  rw [h]
  congr 3
  unfold Go.splice
  have e1 : (done.map bv).drop (done.length + nw.length) = [] := List.drop_of_length_le (by simp)
  rw [List.take_left' (by simp), List.length_map, List.drop_append, e1, List.length_map, Nat.add_sub_cancel_left]
  simp

theorem nums_back (l : List UInt8) : strOfNums (l.map fun b => (b.toNat : Int)) = ⟨l.toArray⟩ := by
  unfold strOfNums
  congr 2
  rw [List.map_map]
  conv => rhs; rw [← List.map_id l]
  apply List.map_congr_left
  intro b _
  simp

theorem conv_buf {w : World} {D N : Nat} {done : List UInt8} (h : BufAt w D N done) (hN : done.length = N) : (convert 72 9 (.slice (some ⟨D, 0, none⟩) N N)).run Tryd.prog w = .ok (.string ⟨done.toArray⟩) w := by
  obtain ⟨rest, h1, h2⟩ := h
  have hr : rest = [] := List.eq_nil_of_length_eq_zero (by omega)
  subst hr
  have := run_convert_bytes_arg (P := Tryd.prog) w 72 5 Tryd.underlying72 Tryd.underlying5 D 0 N N (done.map fun b => (b.toNat : Int)) (by simpa using hN) (fun i hi => by
    rw [Nat.zero_add, cell_of_row _ _ _ _ _ _ h1]
    have hid : i < done.length := by omega
    simp [bv, List.getD, hid]) 9 Tryd.underlying9
  rw [this, nums_back]

end Go.Proofs.YtinkdemjjnfphaaDoor

namespace Go.Proofs.YtinkdemjjnfphaaDoor
open Go.RowKit
set_option linter.unusedVariables false

theorem cells_new (w : World) (c : Array Value) (t : TypeId) (j : Nat) (u : Value) (h : c.toList[j]? = some u) : (w.alloc (.cells c t)).cell? ((⟨w.heap.size, 0, none⟩ : Addr).add j) = some u := by
  have hadd : (⟨w.heap.size, 0, none⟩ : Addr).add j = ⟨w.heap.size, j, none⟩ := by unfold Addr.add; split <;> simp_all
  rw [hadd, cell_of_row _ _ _ _ _ _ (MapKept.heap_alloc w _).1]
  simpa using h

theorem pairs_one (l : List (UInt8 × List UInt8)) : ∀ u ∈ pairL l, u.oneCell' = true := by
  induction l with
  | nil => intro u hu; cases hu
  | cons x r ih =>
    obtain ⟨o, nw⟩ := x
    intro u hu
    simp only [pairL, List.mem_cons] at hu
    rcases hu with rfl | rfl | hu
    · rfl
    · rfl
    · exact ih u hu

/-- The pairs of Escape's first step. -/
def escL : List (UInt8 × List UInt8) := [(38, [38, 97, 109, 112, 59]), (60, [38, 108, 116, 59]), (62, [38, 103, 116, 59]), (13, [38, 35, 49, 51, 59])]
def aless : ByteArray := ⟨#[97, 60]⟩

theorem esc_keys : keysOk escL := by
  intro i j x y hij hx hy
  have hj : j < 4 := (List.getElem?_eq_some_iff.1 hy).1
  have hi : i < 4 := by omega
  have hc : (i = 0 ∧ j = 1) ∨ (i = 0 ∧ j = 2) ∨ (i = 0 ∧ j = 3) ∨ (i = 1 ∧ j = 2) ∨ (i = 1 ∧ j = 3) ∨ (i = 2 ∧ j = 3) := by omega
  rcases hc with ⟨rfl, rfl⟩ | ⟨rfl, rfl⟩ | ⟨rfl, rfl⟩ | ⟨rfl, rfl⟩ | ⟨rfl, rfl⟩ | ⟨rfl, rfl⟩ <;> (simp [escL] at hx hy; subst hx hy; decide)

theorem esc_text : textB aless = true := by decide +kernel
theorem esc_repl : (⟨(replL escL aless.data.toList).toArray⟩ : ByteArray) = ⟨#[97, 38, 108, 116, 59]⟩ := by decide +kernel

theorem known_name : nameB ⟨#[97, 95, 49]⟩ = true := by decide +kernel
theorem known_text : textB ⟨#[120]⟩ = true := by decide +kernel
theorem known_word : wordB (⟨#[105, 102]⟩ : ByteArray).toList = true := by decide +kernel

end Go.Proofs.YtinkdemjjnfphaaDoor

namespace Go.Proofs.YtinkdemjjnfphaaDoor
open Go.RowKit

theorem first_same : Lib.firstData = Rows.laid_unicode_utf8_first := by kernel_rfl
theorem accept_same : Lib.acceptData = Rows.laid_unicode_utf8_acceptRanges := by kernel_rfl

theorem u8_laid {W : World} (hL : laidMet Tryd.prog (("unicode/utf8.acceptRanges", Rows.laid_unicode_utf8_acceptRanges) :: ("unicode/utf8.first", Rows.laid_unicode_utf8_first) :: []) W) : U8 W :=
  utf8Tabs_of_readsT (U8Types.of196 Tryd.lays196) ⟨by kernel_rfl, by kernel_rfl, by kernel_rfl, by kernel_rfl, by kernel_rfl, by kernel_rfl, by kernel_rfl⟩
    (first_same ▸ Lib.laidMet.reads hL (.tail _ (.head _))) (accept_same ▸ Lib.laidMet.reads hL (.head _))
end Go.Proofs.YtinkdemjjnfphaaDoor

namespace Go.Proofs.YtinkdemjjnfphaaDoor
open Go.RowKit
set_option linter.unusedVariables false
set_option maxRecDepth 100000

/-- A sum over a list. -/
def sumL {α : Type} (f : α → Int) : List α → Int
  | [] => 0
  | x :: r => f x + sumL f r
theorem sumL_app {α : Type} (f : α → Int) (a b : List α) : sumL f (a ++ b) = sumL f a + sumL f b := by
  induction a with
  | nil => simp [sumL]
  | cons x r ih => simp only [List.cons_append, sumL, ih]; omega
theorem sumL_rev {α : Type} (f : α → Int) (a : List α) : sumL f a.reverse = sumL f a := by
  induction a with
  | nil => rfl
  | cons x r ih => rw [List.reverse_cons, sumL_app, ih]; simp only [sumL]; omega
theorem sumL_add {α : Type} (f g : α → Int) (a : List α) : sumL (fun x => f x + g x) a = sumL f a + sumL g a := by
  induction a with
  | nil => rfl
  | cons x r ih => simp only [sumL, ih]; omega
theorem sumL_zero {α : Type} {f : α → Int} {a : List α} (h : ∀ x ∈ a, f x = 0) : sumL f a = 0 := by
  induction a with
  | nil => rfl
  | cons x r ih => simp only [sumL]; rw [h x (by simp), ih (fun y hy => h y (by simp [hy]))]; rfl
theorem sumL_congr {α : Type} {f g : α → Int} {a : List α} (h : ∀ x ∈ a, f x = g x) : sumL f a = sumL g a := by
  induction a with
  | nil => rfl
  | cons x r ih => simp only [sumL]; rw [h x (by simp), ih (fun y hy => h y (by simp [hy]))]
theorem sumL_nonneg {α : Type} {f : α → Int} {a : List α} (h : ∀ x ∈ a, 0 ≤ f x) : 0 ≤ sumL f a := by
  induction a with
  | nil => exact Int.le_refl _
  | cons x r ih =>
    have h1 := h x (by simp)
    have h2 := ih (fun y hy => h y (by simp [hy]))
    simp only [sumL]
    omega

/-- What the texts of a key make longer. -/
def gainOf (s : List UInt8) (x : UInt8 × List UInt8) : Int := (Lib.countByte s x.1 : Int) * ((x.2.length : Int) - 1)

theorem pairs_apart {l : List (UInt8 × List UInt8)} (h : keysOk l) : l.Pairwise (fun x y => x.1 ≠ y.1) := by
  rw [List.pairwise_iff_getElem]
  intro i j hi hj hij
  exact h i j _ _ hij (List.getElem?_eq_getElem hi) (List.getElem?_eq_getElem hj)
theorem gain_one (c : UInt8) : ∀ (l : List (UInt8 × List UInt8)), l.Pairwise (fun x y => x.1 ≠ y.1) → sumL (fun x => if x.1 = c then (x.2.length : Int) - 1 else 0) l = ((replC l c).length : Int) - 1
  | [], _ => by simp [sumL, replC, pairOf]
  | x :: r, h => by
    rw [List.pairwise_cons] at h
    simp only [sumL]
    by_cases hx : x.1 = c
    · subst hx
      have : sumL (fun y : UInt8 × List UInt8 => if y.1 = x.1 then (y.2.length : Int) - 1 else 0) r = 0 := sumL_zero (fun y hy => if_neg (fun e => h.1 y hy e.symm))
      rw [if_pos rfl, this]
      simp [replC, pairOf]
    · have hn : (x.1.toNat == c.toNat) = false := beq_eq_false_iff_ne.2 (fun e => hx (UInt8.toNat_inj.1 e))
      have e : replC (x :: r) c = replC r c := by
        unfold replC pairOf
        rw [List.find?_cons, hn]
      rw [if_neg hx, gain_one c r h.2, e]
      omega
theorem gain_all {l : List (UInt8 × List UInt8)} (h : l.Pairwise (fun x y => x.1 ≠ y.1)) : ∀ (s : List UInt8), sumL (gainOf s) l = ((replL l s).length : Int) - (s.length : Int)
  | [] => by
    rw [sumL_zero (fun x _ => by simp [gainOf, Lib.countByte])]
    simp [replL]
  | c :: s => by
    have e : ∀ x ∈ l, gainOf (c :: s) x = (if x.1 = c then (x.2.length : Int) - 1 else 0) + gainOf s x := by
      intro x _
      unfold gainOf Lib.countByte
      rw [List.count_cons]
      by_cases hx : x.1 = c
      · subst hx
        simp only [beq_self_eq_true, if_true]
        rw [Int.natCast_add, Int.add_mul]
        simp
        omega
      · have : (c == x.1) = false := beq_eq_false_iff_ne.2 (fun e => hx e.symm)
        rw [this, if_neg hx]
        simp
    rw [sumL_congr e, sumL_add, gain_one c l h, gain_all h s]
    unfold replL
    rw [List.flatMap_cons, List.length_append, List.length_cons]
    omega

theorem chg_all {l : List (UInt8 × List UInt8)} (s : List UInt8) : (l.reverse.any fun x => Lib.countByte s x.1 != 0) = chgB l s := by
  rw [Bool.eq_iff_iff]
  unfold chgB
  rw [List.any_eq_true, List.any_eq_true]
  constructor
  · rintro ⟨x, hx, hc⟩
    have hx2 : x ∈ l := List.mem_reverse.1 hx
    have hm : x.1 ∈ s := by
      unfold Lib.countByte at hc
      rw [bne_iff_ne] at hc
      exact List.count_pos_iff.1 (by omega)
    refine ⟨x.1, hm, ?_⟩
    unfold pairOf
    rw [List.find?_isSome]
    exact ⟨x, hx2, by simp⟩
  · rintro ⟨c, hc, hp⟩
    unfold pairOf at hp
    rw [List.find?_isSome] at hp
    obtain ⟨x, hx, he⟩ := hp
    have e : x.1 = c := UInt8.toNat_inj.1 (by simpa using he)
    refine ⟨x, List.mem_reverse.2 hx, ?_⟩
    rw [bne_iff_ne, e]
    unfold Lib.countByte
    have := List.count_pos_iff.2 hc
    omega

theorem gain_bd {s : ByteArray} {x : UInt8 × List UInt8} (h1 : 1 ≤ x.2.length) (h2 : x.2.length ≤ 100) : 0 ≤ gainOf s.data.toList x ∧ gainOf s.data.toList x ≤ 100 * s.size := by
  unfold gainOf
  have hc : Lib.countByte s.data.toList x.1 ≤ s.size := by
    unfold Lib.countByte
    have := List.count_le_length (a := x.1) (l := s.data.toList)
    rw [size_list] at this
    exact this
  generalize Lib.countByte s.data.toList x.1 = n at *
  obtain ⟨m, hm⟩ : ∃ m : Nat, (x.2.length : Int) - 1 = m := ⟨x.2.length - 1, by omega⟩
  have hm2 : m ≤ 100 := by omega
  rw [hm]
  constructor
  · exact Int.mul_nonneg (by omega) (by omega)
  · have : n * m ≤ s.size * 100 := Nat.mul_le_mul hc hm2
    have h3 : ((n * m : Nat) : Int) ≤ ((s.size * 100 : Nat) : Int) := by omega
    rw [Int.natCast_mul, Int.natCast_mul] at h3
    omega
theorem gain_sum_bd {s : ByteArray} {l : List (UInt8 × List UInt8)} (h1 : ∀ x ∈ l, 1 ≤ x.2.length) (h2 : ∀ x ∈ l, x.2.length ≤ 100) : 0 ≤ sumL (gainOf s.data.toList) l ∧ sumL (gainOf s.data.toList) l ≤ 100 * s.size * l.length := by
  induction l with
  | nil => simp [sumL]
  | cons x r ih =>
    have a := gain_bd (s := s) (h1 x (by simp)) (h2 x (by simp))
    have b := ih (fun y hy => h1 y (by simp [hy])) (fun y hy => h2 y (by simp [hy]))
    simp only [sumL, List.length_cons]
    have : 100 * (s.size : Int) * ((r.length + 1 : Nat) : Int) = 100 * (s.size : Int) * (r.length : Int) + 100 * (s.size : Int) := by rw [Int.natCast_add, Int.mul_add]; simp
    omega
theorem sumL_take {α : Type} (f : α → Int) {l : List α} {k : Nat} {x : α} (h : l[k]? = some x) : sumL f (l.take (k + 1)) = sumL f (l.take k) + f x := by
  rw [List.take_add_one, h, sumL_app]
  simp [sumL]

end Go.Proofs.YtinkdemjjnfphaaDoor

namespace Go.Proofs.YtinkdemjjnfphaaDoor
set_option linter.unusedVariables false
set_option maxRecDepth 100000

/-- The pairs of Quote. -/
def quoL : List (UInt8 × List UInt8) := [(34, [92, 34]), (92, [92, 92]), (10, [92, 110]), (13, [92, 114]), (9, [92, 116])]
/-- A text in quotes. -/
def quotedL (l : List UInt8) : List UInt8 := 34 :: (replL quoL l ++ [34])
/-- What a byte behind a backslash means. -/
def escD (c : UInt8) : Option UInt8 := if c = 34 ∨ c = 92 then some c else if c = 110 then some 10 else if c = 114 then some 13 else if c = 116 then some 9 else none
/-- Does a byte end the text between quotes? -/
def stopB (c : UInt8) : Bool := c == 34 || c == 9 || c == 10 || c == 13
/-- The text that stands between quotes; none: it isn't of the form. -/
def unqL : Nat → List UInt8 → Option (List UInt8)
  | 0, _ => some []
  | f + 1, l => match l with
    | [] => some []
    | c :: r => if stopB c then none else if c = 92 then (match r with
        | [] => none
        | d :: r' => match escD d with
          | none => none
          | some b => (unqL f r').map (b :: ·))
      else (unqL f r).map (c :: ·)
def unq (l : List UInt8) : Option (List UInt8) := unqL l.length l
theorem unqL_more : ∀ (f g : Nat) (l : List UInt8), l.length ≤ f → l.length ≤ g → unqL f l = unqL g l
  | 0, 0, _, _, _ => rfl
  | 0, g + 1, l, hf, _ => by
    have : l = [] := List.eq_nil_of_length_eq_zero (by omega)
    subst this; rfl
  | f + 1, 0, l, _, hg => by
    have : l = [] := List.eq_nil_of_length_eq_zero (by omega)
    subst this; rfl
  | f + 1, g + 1, [], _, _ => rfl
  | f + 1, g + 1, c :: r, hf, hg => by
    have h1 : r.length ≤ f := by simpa using hf
    have h2 : r.length ≤ g := by simpa using hg
    unfold unqL
    simp only
    rw [unqL_more f g r h1 h2]
    cases r with
    | nil => rfl
    | cons d r' =>
      have h3 : r'.length ≤ f := by simp at h1; omega
      have h4 : r'.length ≤ g := by simp at h2; omega
      simp only
      rw [unqL_more f g r' h3 h4]
theorem unq_nil : unq [] = some [] := rfl
theorem unq_stop {c : UInt8} {r : List UInt8} (h : stopB c = true) : unq (c :: r) = none := by
  show (if stopB c = true then none else _) = none
  rw [if_pos h]
theorem unq_plain {c : UInt8} {r : List UInt8} (h : stopB c = false) (h2 : c ≠ 92) : unq (c :: r) = (unq r).map (c :: ·) := by
  show (if stopB c = true then none else if c = 92 then _ else (unqL r.length r).map (c :: ·)) = _
  rw [if_neg (by rw [h]; decide), if_neg h2]
  rfl
theorem unq_end : unq [92] = none := rfl
theorem unq_esc_none {d : UInt8} {r : List UInt8} (h : escD d = none) : unq (92 :: d :: r) = none := by
  show (match escD d with | none => none | some b => (unqL (r.length + 1) r).map (b :: ·)) = none
  rw [h]
theorem unq_esc {d b : UInt8} {r : List UInt8} (h : escD d = some b) : unq (92 :: d :: r) = (unq r).map (b :: ·) := by
  show (match escD d with | none => none | some b => (unqL (r.length + 1) r).map (b :: ·)) = _
  rw [h]
  show (unqL (r.length + 1) r).map (b :: ·) = _
  rw [unqL_more (r.length + 1) r.length r (by omega) (Nat.le_refl _)]
  rfl

theorem replQ_cases (c : UInt8) : (c = 34 ∧ replC quoL c = [92, 34]) ∨ (c = 92 ∧ replC quoL c = [92, 92]) ∨ (c = 10 ∧ replC quoL c = [92, 110]) ∨ (c = 13 ∧ replC quoL c = [92, 114]) ∨ (c = 9 ∧ replC quoL c = [92, 116]) ∨
    (stopB c = false ∧ c ≠ 92 ∧ replC quoL c = [c]) := by
  by_cases h1 : c = 34
  · subst h1; exact .inl ⟨rfl, rfl⟩
  by_cases h2 : c = 92
  · subst h2; exact .inr (.inl ⟨rfl, rfl⟩)
  by_cases h3 : c = 10
  · subst h3; exact .inr (.inr (.inl ⟨rfl, rfl⟩))
  by_cases h4 : c = 13
  · subst h4; exact .inr (.inr (.inr (.inl ⟨rfl, rfl⟩)))
  by_cases h5 : c = 9
  · subst h5; exact .inr (.inr (.inr (.inr (.inl ⟨rfl, rfl⟩))))
  refine .inr (.inr (.inr (.inr (.inr ⟨by unfold stopB; simp [h1, h3, h4, h5], h2, ?_⟩))))
  unfold replC pairOf quoL
  have n1 : ¬ 34 = c.toNat := fun e => h1 (UInt8.toNat_inj.1 (by rw [← e]; rfl))
  have n2 : ¬ 92 = c.toNat := fun e => h2 (UInt8.toNat_inj.1 (by rw [← e]; rfl))
  have n3 : ¬ 10 = c.toNat := fun e => h3 (UInt8.toNat_inj.1 (by rw [← e]; rfl))
  have n4 : ¬ 13 = c.toNat := fun e => h4 (UInt8.toNat_inj.1 (by rw [← e]; rfl))
  have n5 : ¬ 9 = c.toNat := fun e => h5 (UInt8.toNat_inj.1 (by rw [← e]; rfl))
  simp [n1, n2, n3, n4, n5]

/-- What was quoted is read back. -/
theorem unq_back : ∀ (l : List UInt8), unq (replL quoL l) = some l
  | [] => rfl
  | c :: l => by
    have e : replL quoL (c :: l) = replC quoL c ++ replL quoL l := by unfold replL; rw [List.flatMap_cons]
    rw [e]
    rcases replQ_cases c with ⟨rfl, h⟩ | ⟨rfl, h⟩ | ⟨rfl, h⟩ | ⟨rfl, h⟩ | ⟨rfl, h⟩ | ⟨h1, h2, h⟩ <;> rw [h]
    · show unq (92 :: 34 :: replL quoL l) = _
      rw [unq_esc (b := 34) rfl, unq_back l]; rfl
    · show unq (92 :: 92 :: replL quoL l) = _
      rw [unq_esc (b := 92) rfl, unq_back l]; rfl
    · show unq (92 :: 110 :: replL quoL l) = _
      rw [unq_esc (b := 10) rfl, unq_back l]; rfl
    · show unq (92 :: 114 :: replL quoL l) = _
      rw [unq_esc (b := 13) rfl, unq_back l]; rfl
    · show unq (92 :: 116 :: replL quoL l) = _
      rw [unq_esc (b := 9) rfl, unq_back l]; rfl
    · show unq (c :: replL quoL l) = _
      rw [unq_plain h1 h2, unq_back l]; rfl

/-- A character in quotes, as characters. -/
def qcL (c : Nat) : List Nat := if c = 34 then [92, 34] else if c = 92 then [92, 92] else if c = 10 then [92, 110] else if c = 13 then [92, 114] else if c = 9 then [92, 116] else [c]
theorem replL_high {l : List UInt8} (h : ∀ b ∈ l, 128 ≤ b.toNat) : replL quoL l = l := by
  induction l with
  | nil => rfl
  | cons b r ih =>
    have e : replL quoL (b :: r) = replC quoL b ++ replL quoL r := by unfold replL; rw [List.flatMap_cons]
    rw [e, ih (fun x hx => h x (by simp [hx]))]
    have hb := h b (by simp)
    rcases replQ_cases b with ⟨rfl, _⟩ | ⟨rfl, _⟩ | ⟨rfl, _⟩ | ⟨rfl, _⟩ | ⟨rfl, _⟩ | ⟨_, _, h⟩
    · exact absurd hb (by decide)
    · exact absurd hb (by decide)
    · exact absurd hb (by decide)
    · exact absurd hb (by decide)
    · exact absurd hb (by decide)
    · rw [h]; rfl
theorem encL_ascii {c : Nat} (h : c < 128) : encL c = [UInt8.ofNat c] := by
  rcases encL_cases c (by omega) with ⟨_, e⟩ | ⟨h1, _⟩ | ⟨h1, _⟩ | ⟨h1, _⟩
  · exact e
  · omega
  · omega
  · omega
theorem encL_high {c : Nat} (h : (c < 55296 ∨ 57344 ≤ c) ∧ c ≤ 1114111) (hc : 128 ≤ c) : ∀ b ∈ encL c, 128 ≤ b.toNat := by
  rcases encL_cases c h with ⟨h1, e⟩ | ⟨h1, h2, e⟩ | ⟨h1, h2, e⟩ | ⟨h1, e⟩
  · omega
  · rw [e]; intro b hb
    simp only [List.mem_cons, List.not_mem_nil, or_false] at hb
    rcases hb with rfl | rfl <;> rw [byte_nat (by omega)] <;> omega
  · rw [e]; intro b hb
    simp only [List.mem_cons, List.not_mem_nil, or_false] at hb
    rcases hb with rfl | rfl | rfl <;> rw [byte_nat (by omega)] <;> omega
  · rw [e]; intro b hb
    simp only [List.mem_cons, List.not_mem_nil, or_false] at hb
    rcases hb with rfl | rfl | rfl | rfl <;> rw [byte_nat (by omega)] <;> omega
theorem repl_enc {c : Nat} (h : charB c = true) : replL quoL (encL c) = (qcL c).flatMap encL := by
  by_cases hc : c < 128
  · rw [encL_ascii hc]
    have e : replL quoL [UInt8.ofNat c] = replC quoL (UInt8.ofNat c) := by unfold replL; simp
    rw [e]
    have hn : (UInt8.ofNat c).toNat = c := byte_nat (by omega)
    rcases replQ_cases (UInt8.ofNat c) with ⟨h1, h2⟩ | ⟨h1, h2⟩ | ⟨h1, h2⟩ | ⟨h1, h2⟩ | ⟨h1, h2⟩ | ⟨h1, h3, h2⟩
    · obtain rfl : c = 34 := by rw [← hn, h1]; rfl
      rw [h2]; decide +kernel
    · obtain rfl : c = 92 := by rw [← hn, h1]; rfl
      rw [h2]; decide +kernel
    · obtain rfl : c = 10 := by rw [← hn, h1]; rfl
      rw [h2]; decide +kernel
    · obtain rfl : c = 13 := by rw [← hn, h1]; rfl
      rw [h2]; decide +kernel
    · obtain rfl : c = 9 := by rw [← hn, h1]; rfl
      rw [h2]; decide +kernel
    · rw [h2]
      have a1 : c ≠ 34 := fun e => by subst e; exact absurd h1 (by decide)
      have a2 : c ≠ 92 := fun e => by subst e; exact absurd rfl h3
      have a3 : c ≠ 10 := fun e => by subst e; exact absurd h1 (by decide)
      have a4 : c ≠ 13 := fun e => by subst e; exact absurd h1 (by decide)
      have a5 : c ≠ 9 := fun e => by subst e; exact absurd h1 (by decide)
      unfold qcL
      rw [if_neg a1, if_neg a2, if_neg a3, if_neg a4, if_neg a5]
      simp [encL_ascii hc]
  · rw [replL_high (encL_high (charB_lt h) (by omega))]
    unfold qcL
    rw [if_neg (by omega), if_neg (by omega), if_neg (by omega), if_neg (by omega), if_neg (by omega)]
    simp
theorem qcL_char {c : Nat} (h : charB c = true) : ∀ d ∈ qcL c, charB d = true := by
  unfold qcL
  split
  · intro d hd; simp at hd; rcases hd with rfl | rfl <;> decide
  split
  · intro d hd; simp at hd; subst hd; decide
  split
  · intro d hd; simp at hd; rcases hd with rfl | rfl <;> decide
  split
  · intro d hd; simp at hd; rcases hd with rfl | rfl <;> decide
  split
  · intro d hd; simp at hd; rcases hd with rfl | rfl <;> decide
  · intro d hd; simp at hd; subst hd; exact h
/-- A text in quotes is a text. -/
theorem quoted_chars {cs : List Nat} (h : ∀ c ∈ cs, charB c = true) : chars (quotedL (cs.flatMap encL)) = some (34 :: (cs.flatMap qcL ++ [34])) := by
  have e : replL quoL (cs.flatMap encL) = (cs.flatMap qcL).flatMap encL := by
    induction cs with
    | nil => rfl
    | cons c cs ih =>
      rw [List.flatMap_cons, replL_app, repl_enc (h c (by simp)), ih (fun d hd => h d (by simp [hd])), List.flatMap_cons, List.flatMap_append]
  have e2 : quotedL (cs.flatMap encL) = (34 :: (cs.flatMap qcL ++ [34])).flatMap encL := by
    unfold quotedL
    rw [e, List.flatMap_cons, List.flatMap_append]
    have e34 : encL 34 = [34] := encL_ascii (by omega)
    rw [e34]
    simp [e34]
  rw [e2]
  apply chars_of
  intro d hd
  rcases List.mem_cons.1 hd with rfl | hd
  · decide
  · rcases List.mem_append.1 hd with hd | hd
    · obtain ⟨c, hc, hdc⟩ := List.mem_flatMap.1 hd
      exact qcL_char (h c hc) d hdc
    · simp at hd; subst hd; decide
end Go.Proofs.YtinkdemjjnfphaaDoor

namespace Go.Proofs.YtinkdemjjnfphaaDoor
open Go.RowKit
set_option linter.unusedVariables false
set_option maxRecDepth 100000

theorem quo_keys : keysOk quoL := by
  intro i j x y hij hx hy
  have hj : j < 5 := (List.getElem?_eq_some_iff.1 hy).1
  have hc : (i = 0 ∧ j = 1) ∨ (i = 0 ∧ j = 2) ∨ (i = 0 ∧ j = 3) ∨ (i = 0 ∧ j = 4) ∨ (i = 1 ∧ j = 2) ∨ (i = 1 ∧ j = 3) ∨ (i = 1 ∧ j = 4) ∨ (i = 2 ∧ j = 3) ∨ (i = 2 ∧ j = 4) ∨ (i = 3 ∧ j = 4) := by omega
  rcases hc with ⟨rfl, rfl⟩ | ⟨rfl, rfl⟩ | ⟨rfl, rfl⟩ | ⟨rfl, rfl⟩ | ⟨rfl, rfl⟩ | ⟨rfl, rfl⟩ | ⟨rfl, rfl⟩ | ⟨rfl, rfl⟩ | ⟨rfl, rfl⟩ | ⟨rfl, rfl⟩ <;> (simp [quoL] at hx hy; subst hx hy; decide)
theorem quo_len (l : List UInt8) : (replL quoL l).length ≤ 2 * l.length := replL_len (m := 2) (by omega) (by intro x hx; simp [quoL] at hx; rcases hx with rfl | rfl | rfl | rfl | rfl <;> simp) l

/-- What Quote answers. -/
def quoteV (s : ByteArray) : Value := match chars s.data.toList with
  | some _ => .tuple #[.string ⟨(quotedL s.data.toList).toArray⟩, .int .i64 0]
  | none => .tuple #[.string ⟨#[]⟩, .int .i64 2]
theorem quoteV_some {s : ByteArray} {cs : List Nat} (h : chars s.data.toList = some cs) : quoteV s = .tuple #[.string ⟨(quotedL s.data.toList).toArray⟩, .int .i64 0] := by unfold quoteV; rw [h]
theorem quoteV_none {s : ByteArray} (h : chars s.data.toList = none) : quoteV s = .tuple #[.string ⟨#[]⟩, .int .i64 2] := by unfold quoteV; rw [h]

end Go.Proofs.YtinkdemjjnfphaaDoor
