/- tree's blank; how elements lie. -/
import Derived.Test.YtanncakdlflopaaGreatDoorTreePlain
import Derived.Test.YtanncakdlflopaaGreatDoorMarkAp
namespace Go.Proofs.YtanncakdlflopaaGreatDoor
open Go.RowKit
set_option linter.unusedVariables false
set_option linter.unusedSimpArgs false
set_option maxRecDepth 100000

def blkS : List UInt8 := [32, 9, 10, 13]
theorem blk_contains (b : UInt8) : blkS.contains b = blkB b := by
  have h : ∀ n : Fin 256, blkS.contains (UInt8.ofNat n.val) = blkB (UInt8.ofNat n.val) := by decide +kernel
  have := h ⟨b.toNat, b.toNat_lt⟩
  simpa using this
theorem trim_blank (l : List UInt8) : (Lib.trimS l blkS == []) = l.all blkB := by
  cases h : l.all blkB with
  | true =>
    have ha : ∀ x ∈ l, blkS.contains x = true := fun x hx => by
      rw [blk_contains]
      exact List.all_eq_true.1 h x hx
    have : Lib.trimS l blkS = [] := by
      unfold Lib.trimS Lib.trimRightS
      rw [drop_all (fun x hx => ha x (by simpa using hx))]
      rfl
    rw [this]; rfl
  | false =>
    obtain ⟨x, hx, hn⟩ : ∃ x ∈ l, blkS.contains x = false := by
      rw [List.all_eq_false] at h
      obtain ⟨x, hx, hb⟩ := h
      exact ⟨x, hx, by rw [blk_contains]; simpa using hb⟩
    have : x ∈ Lib.trimS l blkS := by
      unfold Lib.trimS Lib.trimLeftS Lib.trimRightS
      exact drop_keeps hn (List.mem_reverse.2 (drop_keeps hn (List.mem_reverse.2 hx)))
    cases ht : Lib.trimS l blkS with
    | nil => rw [ht] at this; simp at this
    | cons a r => rfl
/-- An element and where its attributes lie. -/
structure ElM where
  d : ElD
  p : Option Addr
  c : Nat
def ElM.cs (m : ElM) : List Value := [.string m.d.n, .int .i64 m.d.up, .slice m.p m.d.l.length m.c, .string m.d.t]
theorem ElM.cs_len (m : ElM) : m.cs.length = 4 := rfl
def ElM.res (m : ElM) : Res := .row m.p m.c 44 2 m.d.l.length (m.d.l.flatMap AtD.cs)
def elD (ms : List ElM) : List ElD := ms.map ElM.d
def elC (ms : List ElM) : List Value := ms.flatMap ElM.cs
def elR (ms : List ElM) : List Res := ms.map ElM.res
theorem elC_len (ms : List ElM) : (elC ms).length = ms.length * 4 := flat_len ElM.cs 4 ElM.cs_len ms
theorem elC_one (ms : List ElM) : ∀ u ∈ elC ms, u.oneCell' = true := by
  intro u hu
  obtain ⟨x, -, hx⟩ := List.mem_flatMap.1 hu
  simp only [ElM.cs, List.mem_cons, List.not_mem_nil, or_false] at hx
  rcases hx with rfl | rfl | rfl | rfl <;> rfl
/-- Elements as they lie in a world. -/
structure ElIn (w : World) (p : Option Addr) (ms : List ElM) : Prop where
  row : Sl w p (elC ms)
  at_ : ∀ m ∈ ms, Sl w m.p (m.d.l.flatMap AtD.cs) ∧ m.d.l.length ≤ m.c
theorem ElIn.mem {w0 W : World} {L : List Res} {p : Option Addr} {ms : List ElM} (h : ElIn w0 p ms) (hM : Mem w0 W L) : ElIn W p ms :=
  ⟨hM.sl h.row, fun m hm => ⟨hM.sl (h.at_ m hm).1, (h.at_ m hm).2⟩⟩
end Go.Proofs.YtanncakdlflopaaGreatDoor
