/- The walk over tarifflaw05.MarkApart. (short) -/
import Derived.Test.YtanncakdlflopaaGreatDoorMarkXZ
namespace Go.Proofs.YtanncakdlflopaaGreatDoor
open Go.RowKit
set_option linter.unusedVariables false
set_option linter.unusedSimpArgs false
set_option maxRecDepth 100000

theorem markF_zero {S : ByteArray} {l : List EvD} {c : Int} (h : markF S = (some l, c)) : c = 0 ∧ ∀ e ∈ l, e.l.length ≤ 16 := by
 unfold markF at h
 split at h
 ·cases h
 split at h
 ·cases h
 split at h
 ·cases h
 split at h
 ·cases h
 rename_i hl
 split at h
 ·cases h
 ·simp only [Prod.mk.injEq, Option.some.injEq] at h
  obtain ⟨rfl, rfl⟩ := h
  refine ⟨rfl, fun e he => ?_⟩
  by_cases h16 : 16 < e.l.length
  ·exact absurd (show longB _ = true by unfold longB; rw [List.any_eq_true]; exact ⟨e, he, decide_eq_true h16⟩) hl
  ·omega
/-- An event that is written over: what its cells hold, its attributes' row. -/
structure XM where
 a : Value
 b : Value
 d : Value
 p : Option Addr
 c : Nat
 n : Nat
 cs : List Value
def XM.vs (x : XM) : List Value := [x.a, x.b, .slice x.p x.n x.c, x.d]
theorem XM.vs_len (x : XM) : x.vs.length = 4 := rfl
def XM.res (x : XM) : Res := .row x.p x.c 44 2 x.n x.cs
def XM.of (m : EvM) : XM := ⟨.int .i64 m.d.k, .string m.d.n, .string m.d.t, m.p, m.c, m.d.l.length, m.d.l.flatMap AtD.cs⟩
def outX (l : List XM) : List Value := l.flatMap XM.vs
def outXR (l : List XM) : List Res := l.map XM.res
theorem flat_set {α : Type} (f : α → List Value) (k : Nat) (hf : ∀ x, (f x).length = k) : ∀ {l : List α} {i j : Nat} {x y : α} {v : Value}, l[i]? = some x → f y = (f x).set j v → j < k → (l.flatMap f).set (i * k + j) v = (l.set i y).flatMap f
 | [], i, j, x, y, v, h, hy, hj => by simp at h
 | z :: l, 0, j, x, y, v, h, hy, hj => by
  simp only [List.getElem?_cons_zero, Option.some.injEq] at h
  subst h
  rw [List.flatMap_cons, List.set_append, if_pos (by rw [hf]; omega), List.set_cons_zero, List.flatMap_cons, hy, Nat.zero_mul, Nat.zero_add]
 | z :: l, i + 1, j, x, y, v, h, hy, hj => by
  rw [List.getElem?_cons_succ] at h
  rw [List.flatMap_cons, List.set_append, if_neg (by rw [hf, Nat.add_mul]; omega), List.set_cons_succ, List.flatMap_cons, hf, show (i + 1) * k + j - k = i * k + j by rw [Nat.add_mul]; omega, flat_set f k hf h hy hj]
theorem flat_getx {α : Type} (f : α → List Value) (k : Nat) (hf : ∀ x, (f x).length = k) {l : List α} {i j : Nat} {x : α} (h : l[i]? = some x) (hj : j < k) : (l.flatMap f)[i * k + j]? = (f x)[j]? := by
 rw [← flat_at f k hf h, List.getElem?_take, if_pos hj, List.getElem?_drop]
theorem map_perm {α β : Type} (g : α → β) : ∀ {l : List α} {i : Nat} {x : α}, l[i]? = some x → (l.map g).Perm (g x :: (l.eraseIdx i).map g)
 | [], i, x, h => by simp at h
 | z :: l, 0, x, h => by
  simp only [List.getElem?_cons_zero, Option.some.injEq] at h
  subst h
  exact List.Perm.refl _
 | z :: l, i + 1, x, h => by
  rw [List.getElem?_cons_succ] at h
  rw [List.eraseIdx_cons_succ, List.map_cons, List.map_cons]
  exact ((map_perm g h).cons _).trans (List.Perm.swap _ _ _)
theorem x_take {w0 W : World} {E : Res} {R : List Res} {zs : List XM} {i : Nat} {z : XM} (hz : zs[i]? = some z) (h : Mem w0 W (E :: (outXR zs ++ R))) : Mem w0 W (E :: z.res :: (outXR (zs.eraseIdx i) ++ R)) :=
 h.perm (.cons _ ((map_perm XM.res hz).append_right R))
theorem x_put {w0 W : World} {E : Res} {R : List Res} {zs : List XM} {i : Nat} {y : XM} (hi : i < zs.length) (h : Mem w0 W (E :: y.res :: (outXR (zs.eraseIdx i) ++ R))) : Mem w0 W (E :: (outXR (zs.set i y) ++ R)) := by
 have h1 : (zs.set i y)[i]? = some y := by rw [List.getElem?_set_self hi]
 have h2 := map_perm XM.res h1
 rw [List.eraseIdx_set_eq] at h2
 exact h.perm (.cons _ (h2.symm.append_right R))
theorem x_len {zs : List XM} : (outX zs).length = zs.length * 4 := flat_len XM.vs 4 XM.vs_len zs
theorem x_grow {zs : List XM} {i : Nat} {z : XM} (hz : zs[i]? = some z) (p : Option Addr) (c n : Nat) (cs : List Value) : (outX zs).set (i * 4 + 2) (.slice p n c) = outX (zs.set i ⟨z.a, z.b, z.d, p, c, n, cs⟩) := by
 unfold outX
 exact flat_set XM.vs 4 XM.vs_len hz rfl (by omega)
theorem x_cell {zs : List XM} {i : Nat} {z : XM} (hz : zs[i]? = some z) : (outX zs)[i * 4 + 2]? = some (.slice z.p z.n z.c) := flat_getx XM.vs 4 XM.vs_len hz (by omega)
theorem set_all {zs : List XM} {i m m' : Nat} {y : XM} (h : ∀ z ∈ zs, z.n ≤ m) (hm : m ≤ m') (hy : y.n ≤ m') : ∀ z ∈ zs.set i y, z.n ≤ m' := by
 intro z hz
 rcases List.mem_or_eq_of_mem_set hz with h1 | rfl
 ·exact Nat.le_trans (h z h1) hm
 ·exact hy
theorem set_same : ∀ {zs : List XM} {i : Nat} {z : XM}, zs[i]? = some z → zs.set i z = zs
 | [], i, z, h => by simp at h
 | a :: l, 0, z, h => by simp at h; rw [h]; rfl
 | a :: l, i + 1, z, h => by rw [List.getElem?_cons_succ] at h; rw [List.set_cons_succ, set_same h]
theorem row_cell2 {B : Nat} {W : World} {b : Addr} {cap k n i : Nat} {e : TypeId} {cs : List Value} {v : Value} (h : (Res.row (some b) cap e k n cs).holds B W) (hi : cs[i * 4 + 2]? = some v) : W.cell? ((b.add (i * 4)).add 2) = some v := by
 rw [add_add']
 exact row_cell h hi
theorem row_has {B : Nat} {W : World} {p : Option Addr} {cap k n : Nat} {e : TypeId} {cs : List Value} (h : (Res.row p cap e k n cs).holds B W) (hn : 0 < n) : ∃ b, p = some b := by
 obtain ⟨g, rfl⟩ := row_some h hn
 exact ⟨_, rfl⟩

end Go.Proofs.YtanncakdlflopaaGreatDoor
