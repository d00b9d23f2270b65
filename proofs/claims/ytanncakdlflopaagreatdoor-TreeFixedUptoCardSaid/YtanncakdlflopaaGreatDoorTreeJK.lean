/- The reference's grown: a tree of pieces. (short) The reference's DocRead; the walk over TreeReads. (short) -/
import Derived.Test.YtanncakdlflopaaGreatDoorTreeHI
namespace Go.Proofs.YtanncakdlflopaaGreatDoor
open Go.RowKit
set_option linter.unusedVariables false
set_option linter.unusedSimpArgs false
set_option maxRecDepth 100000

section
variable {P : Program} {ops : Array Oper} {Q : Exit → Act → World → Prop} {a : Act} {W W' w0 : World} {rest : List Oper} {L : List Res}
variable {dst : Option Tmp} {ty0 : TypeId} {pos : String} {after : Array Edge} {gd : Option (Nat × Bool)}
end
/-- What grown answers. -/
def grownF (l : List EvD) : Option (List ElD) := match growF l ⟨[], [], []⟩ with
 | none => none
 | some g => match clearF g.ts g.has with
  | none => none
  | some t => if g.ts.length = 0 ∨ g.st ≠ [] then none else some t
theorem sz_next {B : Nat} {g g2 : GrD} {e : EvD} {i : Nat} (hB : B = 300000 * i) (h : grow1 g e = some g2) (he : okE 300000 e) (hg : ∀ x ∈ g.ts, x.n.size ≤ 300000 ∧ x.t.size ≤ B ∧ ∀ a ∈ x.l, a.1.size ≤ 300000 ∧ a.2.size ≤ 300000) :
  ∀ x ∈ g2.ts, x.n.size ≤ 300000 ∧ x.t.size ≤ 300000 * (i + 1) ∧ ∀ a ∈ x.l, a.1.size ≤ 300000 ∧ a.2.size ≤ 300000 := by
 rw [Nat.mul_add, Nat.mul_one, ← hB]
 exact grow_sz h he hg

end Go.Proofs.YtanncakdlflopaaGreatDoor

namespace Go.Proofs.YtanncakdlflopaaGreatDoor
open Go.RowKit
set_option linter.unusedVariables false
set_option linter.unusedSimpArgs false
set_option maxRecDepth 100000

theorem treeR_grown {S : ByteArray} {l : List EvD} {c : Int} (h : markF S = (some l, c)) : treeR S = match grownF l with
  | none => (none, 5)
  | some t => if checkT t = 0 then (some t, 0) else (none, checkT t) := by
 unfold treeR grownF
 rw [h]
 dsimp only
 cases growF l ⟨[], [], []⟩ with
 | none => rfl
 | some g =>
  dsimp only
  by_cases h0 : g.ts.length = 0 ∨ g.st ≠ []
  ·rw [if_pos h0]
   cases clearF g.ts g.has with
   | none => rfl
   | some t => dsimp only; rw [if_pos h0]
  ·rw [if_neg h0]
   cases clearF g.ts g.has with
   | none => rfl
   | some t => dsimp only; rw [if_neg h0]
theorem mark_short {S : ByteArray} {l : List EvD} {c : Int} (h : markF S = (some l, c)) : ∀ e ∈ l, okE 300000 e ∧ e.l.length ≤ 16 := fun e he => ⟨(markF_ok h).2.2 e he, (markF_zero h).2 e he⟩
theorem pieceF_two {S : ByteArray} {i j : Nat} {l : List EvD} (h : pieceF S i = some (l, j)) : l.length ≤ 2 := by
 unfold pieceF at h
 split at h
 ·cases hn : noteF S (i + 4) with
  | none => rw [hn] at h; cases h
  | some k => rw [hn] at h; simp only [Option.map_some, Option.some.injEq, Prod.mk.injEq] at h; rw [← h.1]; simp
 split at h
 ·cases hn : endF S (i + 2) with
  | none => rw [hn] at h; cases h
  | some x => rw [hn] at h; simp only [Option.map_some, Option.some.injEq, Prod.mk.injEq] at h; rw [← h.1]; simp
 split at h
 ·unfold openF at h
  split at h
  ·cases h
  split at h
  ·cases h
  simp only [Option.some.injEq, Prod.mk.injEq] at h
  rw [← h.1]
  unfold openL
  split <;> simp
 ·cases hn : dataF S i with
  | none => rw [hn] at h; cases h
  | some x => rw [hn] at h; simp only [Option.map_some, Option.some.injEq, Prod.mk.injEq] at h; rw [← h.1]; simp
theorem docG_len {S : ByteArray} : ∀ {f i : Nat} {out l : List EvD}, i ≤ S.size → docG S f i out = some l → l.length ≤ out.length + 2 * (S.size - i)
 | 0, i, out, l, _, h => by cases h
 | f + 1, i, out, l, hi, h => by
  unfold docG at h
  split at h
  ·cases h; omega
  rename_i hne
  split at h
  ·cases h
  rename_i l2 j hp
  have h1 := pieceF_le (by omega) hp
  have h2 := pieceF_two hp
  have h3 := docG_len h1.2 h
  rw [List.length_append] at h3
  omega
theorem markF_len {S : ByteArray} {l : List EvD} {c : Int} (h : markF S = (some l, c)) : l.length ≤ 600000 := by
 have hs := (markF_ok h).2.1
 unfold markF at h
 split at h
 ·cases h
 split at h
 ·cases h
 split at h
 ·cases h
 rename_i l2 hb
 split at h
 ·cases h
 split at h
 ·cases h
 simp only [Prod.mk.injEq, Option.some.injEq] at h
 obtain ⟨rfl, -⟩ := h
 unfold bodyF at hb
 split at hb
 ·cases hb
 ·rename_i i hi
  have := docG_len (pro_le hi) hb
  simp at this
  omega
/-- Sizes of what was grown. -/
theorem szs_of {t : List ElD} (h : ∀ x ∈ t, x.n.size ≤ 300000 ∧ x.t.size ≤ 1099511627776 ∧ ∀ a ∈ x.l, a.1.size ≤ 300000 ∧ a.2.size ≤ 300000) : ∀ x ∈ t, szOk x := fun x hx => ⟨by have := h x hx; omega, (h x hx).2.1, fun a ha => by have := (h x hx).2.2 a ha; omega⟩
theorem growF_sz : ∀ (l : List EvD) {g g2 : GrD} {i : Nat}, growF l g = some g2 → (∀ e ∈ l, okE 300000 e) → (∀ x ∈ g.ts, x.n.size ≤ 300000 ∧ x.t.size ≤ 300000 * i ∧ ∀ a ∈ x.l, a.1.size ≤ 300000 ∧ a.2.size ≤ 300000) →
  ∀ x ∈ g2.ts, x.n.size ≤ 300000 ∧ x.t.size ≤ 300000 * (i + l.length) ∧ ∀ a ∈ x.l, a.1.size ≤ 300000 ∧ a.2.size ≤ 300000
 | [], g, g2, i, h, hl, hg => by cases h; simpa using hg
 | e :: l, g, g2, i, h, hl, hg => by
  rw [growF] at h
  cases h1 : grow1 g e with
  | none => rw [h1] at h; cases h
  | some g1 =>
   rw [h1] at h
   have := growF_sz l (i := i + 1) h (fun e he => hl e (by simp [he])) (sz_next rfl h1 (hl e (by simp)) hg)
   intro x hx
   have h2 := this x hx
   rw [List.length_cons, show i + (l.length + 1) = i + 1 + l.length by omega]
   exact h2
theorem clearF_sz {Q : ElD → Prop} (hQ : ∀ e : ElD, Q e → Q ⟨e.n, e.up, e.l, ⟨#[]⟩⟩) : ∀ {l : List ElD} {hs : List Bool} {t : List ElD}, clearF l hs = some t → (∀ x ∈ l, Q x) → ∀ x ∈ t, Q x
 | [], hs, t, h, hl => by cases h; simp
 | e :: r, [], t, h, hl => by
  rw [clearF] at h
  cases h1 : clearF r [] with
  | none => rw [h1] at h; cases h
  | some t1 =>
   rw [h1] at h
   simp only [Option.map_some, Option.some.injEq] at h
   rw [← h]
   have := clearF_sz hQ h1 (fun x hx => hl x (by simp [hx]))
   intro x hx
   rcases List.mem_cons.1 hx with rfl | hx
   ·exact hl x (by simp)
   ·exact this x hx
 | e :: r, b :: hs, t, h, hl => by
  rw [clearF] at h
  cases h1 : clearF r hs with
  | none => rw [h1] at h; cases b <;> simp at h
  | some t1 =>
   rw [h1] at h
   have := clearF_sz hQ h1 (fun x hx => hl x (by simp [hx]))
   cases b with
   | false =>
    simp only [Bool.false_eq_true, if_false, Option.map_some, Option.some.injEq] at h
    rw [← h]
    intro x hx
    rcases List.mem_cons.1 hx with rfl | hx
    ·exact hl x (by simp)
    ·exact this x hx
   | true =>
    rw [if_pos rfl] at h
    split at h
    ·simp only [Option.map_some, Option.some.injEq] at h
     rw [← h]
     intro x hx
     rcases List.mem_cons.1 hx with rfl | hx
     ·exact hQ e (hl e (by simp))
     ·exact this x hx
    ·cases h
theorem grownF_sz {l : List EvD} {t : List ElD} (h : grownF l = some t) (hl : ∀ e ∈ l, okE 300000 e) (hn : l.length ≤ 3000000) : ∀ x ∈ t, szOk x := by
 unfold grownF at h
 cases h1 : growF l ⟨[], [], []⟩ with
 | none => rw [h1] at h; cases h
 | some g =>
  rw [h1] at h
  dsimp only at h
  cases h2 : clearF g.ts g.has with
  | none => rw [h2] at h; cases h
  | some t1 =>
   rw [h2] at h
   dsimp only at h
   split at h
   ·cases h
   ·cases h
    refine szs_of (clearF_sz (Q := fun x => x.n.size ≤ 300000 ∧ x.t.size ≤ 1099511627776 ∧ ∀ a ∈ x.l, a.1.size ≤ 300000 ∧ a.2.size ≤ 300000) (fun e he => ⟨he.1, Nat.zero_le _, he.2.2⟩) h2 (fun x hx => ?_))
    have := growF_sz l (i := 0) h1 hl (by simp) x hx
    exact ⟨this.1, by omega, this.2.2⟩

theorem grow1_l {g g2 : GrD} {e : EvD} (h : grow1 g e = some g2) (he : e.l.length ≤ 16) (hg : ∀ x ∈ g.ts, x.l.length ≤ 16) : ∀ x ∈ g2.ts, x.l.length ≤ 16 := by
 unfold grow1 at h
 split at h
 ·split at h
  ·split at h
   ·cases h
    intro x hx
    rcases List.mem_append.1 hx with hx | hx
    ·exact hg x hx
    ·simp at hx; rw [hx]; exact he
   ·cases h
  ·cases h
   intro x hx
   rcases List.mem_append.1 hx with hx | hx
   ·exact hg x hx
   ·simp at hx; rw [hx]; exact he
 split at h
 ·split at h
  ·cases h
  ·split at h
   ·cases h; exact hg
   ·cases h
 ·split at h
  ·split at h
   ·cases h; exact hg
   ·cases h
  ·cases h
   intro x hx
   unfold addText at hx
   split at hx
   ·rename_i y hy
    rcases List.mem_or_eq_of_mem_set hx with hx | rfl
    ·exact hg x hx
    ·exact hg y (List.mem_of_getElem? hy)
   ·exact hg x hx
theorem growF_l : ∀ (l : List EvD) {g g2 : GrD}, growF l g = some g2 → (∀ e ∈ l, e.l.length ≤ 16) → (∀ x ∈ g.ts, x.l.length ≤ 16) → ∀ x ∈ g2.ts, x.l.length ≤ 16
 | [], g, g2, h, _, hg => by cases h; exact hg
 | e :: l, g, g2, h, hl, hg => by
  rw [growF] at h
  cases h1 : grow1 g e with
  | none => rw [h1] at h; cases h
  | some g1 =>
   rw [h1] at h
   exact growF_l l h (fun e he => hl e (by simp [he])) (grow1_l h1 (hl e (by simp)) hg)
theorem grownF_l {l : List EvD} {t : List ElD} (h : grownF l = some t) (hl : ∀ e ∈ l, e.l.length ≤ 16) : ∀ x ∈ t, x.l.length ≤ 16 := by
 unfold grownF at h
 cases h1 : growF l ⟨[], [], []⟩ with
 | none => rw [h1] at h; cases h
 | some g =>
  rw [h1] at h
  dsimp only at h
  cases h2 : clearF g.ts g.has with
  | none => rw [h2] at h; cases h
  | some t1 =>
   rw [h2] at h
   dsimp only at h
   split at h
   ·cases h
   ·cases h
    exact clearF_sz (Q := fun x => x.l.length ≤ 16) (fun e he => he) h2 (growF_l l h1 hl (by simp))
theorem treeR_some {S : ByteArray} {t : List ElD} {c : Int} (h : treeR S = (some t, c)) : checkT t = 0 ∧ (∀ x ∈ t, szOk x) ∧ ∀ x ∈ t, x.l.length ≤ 16 := by
 obtain ⟨⟨o, c0⟩, hm⟩ : ∃ x, markF S = x := ⟨_, rfl⟩
 cases o with
 | none =>
  unfold treeR at h
  rw [hm] at h
  cases h
 | some l =>
  rw [treeR_grown hm] at h
  cases hg : grownF l with
  | none => rw [hg] at h; cases h
  | some t1 =>
   rw [hg] at h
   dsimp only at h
   split at h
   ·rename_i hc
    simp only [Prod.mk.injEq, Option.some.injEq] at h
    obtain ⟨rfl, -⟩ := h
    exact ⟨hc, grownF_sz hg (fun e he => (mark_short hm e he).1) (by have := markF_len hm; omega), grownF_l hg (fun e he => (mark_short hm e he).2)⟩
   ·cases h

end Go.Proofs.YtanncakdlflopaaGreatDoor
