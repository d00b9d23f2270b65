/- What is written of a tree is read as that tree: the pieces. No program in sight. What is written of a tree is read as that tree. No program in sight. -/
import Derived.Test.YtanncakdlflopaaGreatDoorTreeWA
import Derived.Test.YtanncakdlflopaaGreatDoorMarkRS
namespace Go.Proofs.YtanncakdlflopaaGreatDoor
open Go.RowKit
set_option linter.unusedVariables false
set_option linter.unusedSimpArgs false
set_option maxRecDepth 100000

section
variable {S : ByteArray}
/-- Characters up to a tag or the end. -/
theorem data_upto {t : ByteArray} {X : List UInt8} {i : Nat} (ht : (chars t.data.toList).isSome = true) (hne : t.data.toList ≠ []) (hX : ∀ b ∈ X.head?, b = 60) (h : S.data.toList.drop i = escT false t.data.toList ++ X) : pieceF S i = some ([evData t], i + (escT false t.data.toList).length) := by
 have h60 : ∀ b ∈ escT false t.data.toList, b ≠ 60 := by
  rw [escT_map]
  intro b hb e
  obtain ⟨c, _, hc⟩ := List.mem_flatMap.1 hb
  rw [e] at hc
  exact (escN c).2.2 hc
 have e := spE_of (p := notLt) h (fun b hb => by unfold notLt; simpa using h60 b hb) (by intro b hb; rw [hX b hb]; rfl)
 obtain ⟨b, r, hb⟩ : ∃ b r, escT false t.data.toList = b :: r := by
  cases hq : escT false t.data.toList with
  | cons b r => exact ⟨b, r, rfl⟩
  | nil =>
   exfalso
   have := esc_back false t.data.toList
   rw [plain_esc, hq, unes_nil] at this
   exact hne (Option.some.inj this).symm
 have hb1 := h60 b (by rw [hb]; simp)
 have h' : S.data.toList.drop i = b :: (r ++ X) := by rw [h, hb]; rfl
 unfold pieceF
 rw [if_neg (by rw [atP_no h' (fun e => hb1 e.symm)]; decide), if_neg (by rw [atP_no h' (fun e => hb1 e.symm)]; decide), if_neg (by rw [atP_no h' (fun e => hb1 e.symm)]; decide)]
 unfold dataF
 rw [e, ext_of h, unesc_esc ht]
 rfl
theorem esc_blank : ∀ {t : List UInt8}, (∀ b ∈ t, b = 10 ∨ b = 32) → escT false t = t := by
 intro t
 rw [escT_map]
 induction t with
 | nil => intro _; rfl
 | cons b t ih =>
  intro h
  rw [List.flatMap_cons, ih (fun c hc => h c (by simp [hc]))]
  rcases h b (by simp) with rfl | rfl <;> rfl
theorem padL_mem {n : Nat} {b : UInt8} (h : b ∈ padL n) : b = 32 := by
 unfold padL at h
 obtain ⟨x, hx, hb⟩ := List.mem_flatten.1 h
 rw [(List.mem_replicate.1 hx).2] at hb
 simpa using hb
/-- The blanks between two tags. -/
def lnB (n : Nat) : ByteArray := ⟨(10 :: padL n).toArray⟩
theorem lnB_list (n : Nat) : (lnB n).data.toList = 10 :: padL n := rfl
theorem ln_mem {n : Nat} : ∀ b ∈ 10 :: padL n, b = 10 ∨ b = 32 := by
 intro b hb
 rcases List.mem_cons.1 hb with h | h
 ·exact .inl h
 ·exact .inr (padL_mem h)
theorem ln_txt (n : Nat) : Txt (10 :: padL n) := Txt.ascii (fun b hb => by rcases ln_mem b hb with rfl | rfl <;> decide)
theorem lnB_blank (n : Nat) : blankB (lnB n) = true := by
 unfold blankB
 rw [lnB_list, List.all_eq_true]
 intro b hb
 rcases ln_mem b hb with rfl | rfl <;> rfl
theorem ln_spelled {n : Nat} {X : List UInt8} {i : Nat} (hX : ∀ b ∈ X.head?, b = 60) (h : S.data.toList.drop i = 10 :: (padL n ++ X)) : pieceF S i = some ([evData (lnB n)], i + (10 :: padL n).length) := by
 have e : escT false (lnB n).data.toList = 10 :: padL n := by rw [lnB_list]; exact esc_blank ln_mem
 have := data_upto (S := S) (t := lnB n) (X := X) (i := i) (by rw [← textB_chars]; exact Txt.ok (ln_txt n)) (by rw [lnB_list]; simp) hX (by rw [e]; exact h)
 rwa [e] at this

/-- Attributes up to an open's end. -/
theorem attr_spelled {a1 a2 : ByteArray} {X : List UInt8} {k : Nat} (hn : nameM a1 = true) (hv : (chars a2.data.toList).isSome = true) (h : S.data.toList.drop k = a1.data.toList ++ 61 :: 34 :: (escT true a2.data.toList ++ 34 :: X)) :
  attrF S k = some ((a1, a2), k + (a1.data.toList.length + (escT true a2.data.toList).length + 3)) := by
 have hqe : (34 : UInt8) ∉ escT true a2.data.toList := by
  rw [escT_map]
  intro hm
  obtain ⟨c, hc, hcm⟩ := List.mem_flatMap.1 hm
  exact (escN c).1 hcm
 obtain ⟨f1, f2⟩ := name_at hn h (by intro b hb; cases hb; decide +kernel)
 unfold attrF
 rw [f2, if_neg (by rw [hn]; decide), f1]
 have h5 := drop_app h
 have f3 := blk_at (B := []) (by simp) h5 (by intro b hb; cases hb; rfl)
 rw [List.length_nil, Nat.add_zero] at f3
 rw [f3, if_neg (by rw [atP_of (t := [61]) h5]; decide)]
 have h7 := drop_one h5
 have f4 := blk_at (B := []) (by simp) h7 (by intro b hb; cases hb; rfl)
 rw [List.length_nil, Nat.add_zero] at f4
 have f5 : quoF S (k + a1.data.toList.length + 1) = some 34 := by
  unfold quoF
  rw [if_pos (atP_of (t := [34]) h7)]
 rw [f4, f5]
 dsimp only
 have h9 := drop_one h7
 have f6 : fndL [34] (escT true a2.data.toList ++ 34 :: X) = some (escT true a2.data.toList).length := by
  have := fnd_of (c := 34) (t := []) (X := X) hqe
  rwa [List.append_assoc] at this
 rw [h9, f6]
 dsimp only
 rw [ext_of h9, unesc_esc hv]
 simp only [Option.some.injEq, Prod.mk.injEq, true_and]
 omega
theorem attrs_spelled {c : Bool} {X : List UInt8} : ∀ {l : List AtD} {f k : Nat} {acc : List AtD}, (∀ a ∈ l, nameM a.1 = true ∧ (chars a.2.data.toList).isSome = true) → l.length < f → S.data.toList.drop k = l.flatMap attL ++ (if c then 47 :: 62 :: X else 62 :: X) →
  attrsF S f k acc = some (acc ++ l, c, k + ((l.flatMap attL).length + (if c then 2 else 1)))
 | [], f, k, acc, _, hf, h => by
  obtain ⟨f, rfl⟩ : ∃ g, f = g + 1 := ⟨f - 1, by simp at hf; omega⟩
  rw [List.flatMap_nil, List.nil_append] at h
  cases c with
  | false =>
   simp only [Bool.false_eq_true, if_false] at h ⊢
   have e := blk_at (S := S) (B := []) (by simp) h (by intro b hb; cases hb; rfl)
   rw [List.length_nil, Nat.add_zero] at e
   rw [attrsF, e, if_pos (atP_of (t := [62]) h)]
   simp
  | true =>
   simp only [if_true] at h ⊢
   have e := blk_at (S := S) (B := []) (by simp) h (by intro b hb; cases hb; rfl)
   rw [List.length_nil, Nat.add_zero] at e
   rw [attrsF, e, if_neg (by rw [atP_no h (by decide)]; decide), if_pos (atP_of (t := [47, 62]) h)]
   simp
 | a :: l, f, k, acc, hok, hf, h => by
  obtain ⟨f, rfl⟩ : ∃ g, f = g + 1 := ⟨f - 1, by simp at hf; omega⟩
  rw [List.length_cons] at hf
  obtain ⟨a1, a2⟩ := a
  obtain ⟨hn, hv⟩ := hok (a1, a2) (by simp)
  dsimp only at hn hv
  obtain ⟨⟨x, r, hx⟩, hins⟩ := name_has hn
  have hx1 := insN (hins x (by rw [hx]; simp))
  rw [List.flatMap_cons] at h
  have h0 : S.data.toList.drop k = [32] ++ (a1.data.toList ++ 61 :: 34 :: (escT true a2.data.toList ++ 34 :: (l.flatMap attL ++ (if c then 47 :: 62 :: X else 62 :: X)))) := by
   rw [h]; unfold attL; simp
  have e := blk_at (S := S) (B := [32]) (by intro b hb; simp at hb; rw [hb]; rfl) h0 (by rw [hx]; intro b hb; cases hb; exact hx1.2.2.2.2.2.2.1)
  have h1 : S.data.toList.drop (k + 1) = a1.data.toList ++ 61 :: 34 :: (escT true a2.data.toList ++ 34 :: (l.flatMap attL ++ (if c then 47 :: 62 :: X else 62 :: X))) := drop_app (a := [32]) h0
  rw [show k + [(32 : UInt8)].length = k + 1 from rfl] at e
  have h1' := h1
  rw [hx, List.cons_append] at h1'
  have ha := attr_spelled hn hv h1
  have h2 : S.data.toList.drop (k + 1 + (a1.data.toList.length + (escT true a2.data.toList).length + 3)) = l.flatMap attL ++ (if c then 47 :: 62 :: X else 62 :: X) := by
   have := drop_one (drop_app (drop_one (drop_one (drop_app h1))))
   rw [← this]
   congr 1
   omega
  have ih := attrs_spelled (l := l) (f := f) (acc := acc ++ [(a1, a2)]) (fun b hb => hok b (by simp [hb])) (by omega) h2
  rw [attrsF, e, if_neg (by rw [atP_no h1' (fun e => hx1.2.1 e.symm)]; decide), if_neg (by rw [atP_no h1' (fun e => hx1.2.2.1 e.symm)]; decide), if_neg (by omega), ha]
  dsimp only
  rw [ih]
  simp only [List.append_assoc, List.cons_append, List.nil_append, Option.some.injEq, Prod.mk.injEq, true_and, List.flatMap_cons, List.length_append]
  have : (attL (a1, a2)).length = a1.data.toList.length + (escT true a2.data.toList).length + 4 := by
   unfold attL
   simp only [List.length_cons, List.length_append, List.length_nil]
   omega
  omega
theorem open_head {e : ElD} {c : Bool} {X : List UInt8} {i : Nat} (hn : nameM e.n = true) (hok : ∀ a ∈ e.l, nameM a.1 = true ∧ (chars a.2.data.toList).isSome = true) (h : S.data.toList.drop i = headL e ++ (if c then 47 :: 62 :: X else 62 :: X)) :
  pieceF S i = some (openL e.n e.l c, i + ((headL e).length + (if c then 2 else 1))) := by
 obtain ⟨⟨x, r, hx⟩, hins⟩ := name_has hn
 have hx1 := insN (hins x (by rw [hx]; simp))
 have hh : S.data.toList.drop i = 60 :: (e.n.data.toList ++ (e.l.flatMap attL ++ (if c then 47 :: 62 :: X else 62 :: X))) := by rw [h]; unfold headL; simp
 have h0 : S.data.toList.drop i = 60 :: x :: (r ++ (e.l.flatMap attL ++ (if c then 47 :: 62 :: X else 62 :: X))) := by
  conv at hh => rhs; arg 2; arg 1; rw [hx]
  exact hh
 unfold pieceF
 rw [if_neg (by rw [atP_no2 h0 (fun e => hx1.2.2.2.2.1 e.symm)]; decide), if_neg (by rw [atP_no2 h0 (fun e => hx1.2.2.1 e.symm)]; decide), if_pos (atP_of (t := [60]) hh)]
 have h1 := drop_one hh
 obtain ⟨e1, e2⟩ := name_at hn h1 (by
  intro b hb
  cases hq : e.l with
  | nil => rw [hq] at hb; cases c <;> (cases hb; decide +kernel)
  | cons a l => rw [hq] at hb; cases hb; decide +kernel)
 unfold openF
 rw [e2, if_neg (by rw [hn]; decide)]
 have h2 := drop_app h1
 rw [← e1] at h2
 have hlen : e.l.length ≤ (e.l.flatMap attL).length := by
  generalize e.l = l
  induction l with
  | nil => simp
  | cons a l ih =>
   have : 1 ≤ (attL a).length := by unfold attL; rw [List.length_cons]; omega
   rw [List.flatMap_cons, List.length_append, List.length_cons]
   omega
 have hsz := congrArg List.length h2
 rw [List.length_drop, size_list, List.length_append] at hsz
 rw [attrs_spelled hok (by omega) h2]
 simp only [List.nil_append, Option.some.injEq, Prod.mk.injEq, true_and]
 rw [e1]
 have : (headL e).length = 1 + e.n.data.toList.length + (e.l.flatMap attL).length := by
  unfold headL
  simp only [List.length_cons, List.length_append]
  omega
 omega
theorem end_tag {n : ByteArray} {X : List UInt8} {i : Nat} (hn : nameM n = true) (h : S.data.toList.drop i = 60 :: 47 :: (n.data.toList ++ 62 :: X)) : pieceF S i = some ([evClose n], i + (n.data.toList.length + 3)) := by
 have := end_spelled (B := []) hn (by simp) (X := X) h
 simpa using this
end

/-- From a place on the same as from another, with these events ahead. -/
def Rd (S : ByteArray) (i j : Nat) (l : List EvD) : Prop := i ≤ j ∧ j ≤ S.size ∧ (∀ e ∈ l, e.l.length ≤ 16 ∧ dupA e.l = false) ∧ ∀ out, docG S (S.size + 1) i out = docG S (S.size + 1) j (out ++ l)
theorem growF_app : ∀ {a b : List EvD} {g g1 : GrD}, growF a g = some g1 → growF (a ++ b) g = growF b g1
 | [], b, g, g1, h => by cases h; rfl
 | e :: a, b, g, g1, h => by
  rw [growF] at h
  rw [List.cons_append, growF]
  cases hg : grow1 g e with
  | none => rw [hg] at h; cases h
  | some g2 => rw [hg] at h; exact growF_app h
/-- Read from a place to another, a tree grows to another. -/
def Stp (S : ByteArray) (i : Nat) (g : GrD) (j : Nat) (g' : GrD) : Prop := ∃ l, Rd S i j l ∧ growF l g = some g'
theorem Stp.trans {S : ByteArray} {i j k : Nat} {g g1 g2 : GrD} (h1 : Stp S i g j g1) (h2 : Stp S j g1 k g2) : Stp S i g k g2 := by
 obtain ⟨a, ⟨a1, a2, a3, a4⟩, a5⟩ := h1
 obtain ⟨b, ⟨b1, b2, b3, b4⟩, b5⟩ := h2
 refine ⟨a ++ b, ⟨by omega, b2, ?_, fun out => by rw [a4, b4, List.append_assoc]⟩, by rw [growF_app a5, b5]⟩
 intro e he
 rcases List.mem_append.1 he with h | h
 ·exact a3 e h
 ·exact b3 e h
theorem Stp.refl {S : ByteArray} {i : Nat} {g : GrD} (h : i ≤ S.size) : Stp S i g i g := ⟨[], ⟨Nat.le_refl _, h, by simp, fun out => by rw [List.append_nil]⟩, rfl⟩
theorem Stp.one {S : ByteArray} {i j : Nat} {l : List EvD} {b : UInt8} {X Y : List UInt8} {g g' : GrD} (h : S.data.toList.drop i = b :: X) (hp : pieceF S i = some (l, j)) (hl : ∀ e ∈ l, e.l.length ≤ 16 ∧ dupA e.l = false) (hg : growF l g = some g') (hY : S.data.toList.drop j = Y) : ∃ j, S.data.toList.drop j = Y ∧ Stp S i g j g' := by
 have hi := drop_lt h
 rw [size_list] at hi
 have := pieceF_le hi hp
 refine ⟨j, hY, l, ⟨by omega, this.2, hl, fun out => ?_⟩, hg⟩
 rw [show docG S (S.size + 1) i out = docG S S.size j (out ++ l) from by rw [docG, if_neg (by omega), hp]]
 exact docG_le this.2 (by omega) (by omega)
theorem stp_ln {S : ByteArray} {n i : Nat} {X : List UInt8} {g g' : GrD} (hX : ∀ b ∈ X.head?, b = 60) (h : S.data.toList.drop i = 10 :: (padL n ++ X)) (hg : grow1 g (evData (lnB n)) = some g') : ∃ j, S.data.toList.drop j = X ∧ Stp S i g j g' :=
 Stp.one h (ln_spelled hX h) (by intro e he; simp at he; rw [he]; exact ⟨by simp [evData], rfl⟩) (by rw [growF, hg]; rfl) (drop_app (a := 10 :: padL n) h)
theorem stp_end {S : ByteArray} {n : ByteArray} {i : Nat} {X : List UInt8} {g g' : GrD} (hn : nameM n = true) (h : S.data.toList.drop i = 60 :: 47 :: (n.data.toList ++ 62 :: X)) (hg : grow1 g (evClose n) = some g') : ∃ j, S.data.toList.drop j = X ∧ Stp S i g j g' :=
 Stp.one h (end_tag hn h) (by intro e he; simp at he; rw [he]; exact ⟨by simp [evClose], rfl⟩) (by rw [growF, hg]; rfl) (by
  have : S.data.toList.drop (i + (60 :: 47 :: (n.data.toList ++ [62])).length) = X := drop_app (by rw [h]; simp)
  rw [← this]; congr 1; simp)
theorem stp_open {S : ByteArray} {e : ElD} {c : Bool} {i : Nat} {X : List UInt8} {g g' : GrD} (hr : rightB e = true) (h : S.data.toList.drop i = headL e ++ (if c then 47 :: 62 :: X else 62 :: X)) (hg : growF (openL e.n e.l c) g = some g') : ∃ j, S.data.toList.drop j = X ∧ Stp S i g j g' := by
 unfold rightB at hr
 simp only [Bool.and_eq_true, decide_eq_true_eq, List.all_eq_true, Bool.not_eq_true'] at hr
 obtain ⟨⟨⟨⟨h1, h2⟩, h3⟩, h4⟩, h5⟩ := hr
 have hp := open_head h1 (fun a ha => by have := h4 a ha; unfold atOk at this; rw [Bool.and_eq_true, textB_chars] at this; exact this) h
 refine Stp.one (b := 60) (X := e.n.data.toList ++ e.l.flatMap attL ++ (if c then 47 :: 62 :: X else 62 :: X)) (by rw [h]; rfl) hp ?_ hg ?_
 ·intro x hx
  unfold openL at hx
  rcases List.mem_cons.1 hx with rfl | hx
  ·exact ⟨h3, h5⟩
  ·split at hx
   ·simp at hx; rw [hx]; exact ⟨by simp [evClose], rfl⟩
   ·simp at hx
 ·have := drop_app h
  cases c with
  | false => rw [show i + ((headL e).length + (if false = true then 2 else 1)) = i + (headL e).length + 1 from rfl]; exact drop_one this
  | true => rw [show i + ((headL e).length + (if true = true then 2 else 1)) = i + (headL e).length + 1 + 1 from rfl]; exact drop_one (drop_one this)
theorem stp_text {S : ByteArray} {t : ByteArray} {i : Nat} {X : List UInt8} {g g' : GrD} (ht : textB t = true) (hne : t.data.toList ≠ []) (hX : ∀ b ∈ X.head?, b = 60) (h : S.data.toList.drop i = escT false t.data.toList ++ X) (hg : grow1 g (evData t) = some g') : ∃ j, S.data.toList.drop j = X ∧ Stp S i g j g' := by
 rw [textB_chars] at ht
 have hp := data_upto ht hne hX h
 obtain ⟨b, Y, hb⟩ : ∃ b Y, S.data.toList.drop i = b :: Y := by
  cases hq : S.data.toList.drop i with
  | cons b X => exact ⟨b, X, rfl⟩
  | nil =>
   exfalso
   rw [hq] at h
   have hh := (List.append_eq_nil_iff.1 h.symm).1
   have := esc_back false t.data.toList
   rw [plain_esc, hh, unes_nil] at this
   exact hne (Option.some.inj this).symm
 exact Stp.one hb hp (by intro e he; simp at he; rw [he]; exact ⟨by simp [evData], rfl⟩) (by rw [growF, hg]; rfl) (drop_app h)
end Go.Proofs.YtanncakdlflopaaGreatDoor

namespace Go.Proofs.YtanncakdlflopaaGreatDoor
open Go.RowKit
set_option linter.unusedVariables false
set_option linter.unusedSimpArgs false
set_option maxRecDepth 100000

/-- A tree as it is read, up to an element; st: what is open. -/
structure Gi (l : List ElD) (i : Nat) (st : List Nat) (g : GrD) : Prop where
 len : g.ts.length = i
 ts : ∀ (k : Nat) (e : ElD), k < i → l[k]? = some e → ∃ t, g.ts[k]? = some ⟨e.n, e.up, e.l, t⟩ ∧ (hasK l k = false → t = e.t) ∧ (hasK l k = true → blankB t = true)
 hl : g.has.length = i
 has : ∀ k, k < i → g.has[k]? = some (hasK (l.take i) k)
 st : g.st = st
theorem blank_app (a b : ByteArray) : blankB (a ++ b) = (blankB a && blankB b) := by
 unfold blankB
 rw [ByteArray.data_append, Array.toList_append, List.all_append]
theorem ba_nil (t : ByteArray) : (⟨#[]⟩ : ByteArray) ++ t = t := by
 apply ByteArray.ext
 rw [ByteArray.data_append]
 simp
theorem grow_blank {g : GrD} (h : g.st = []) (n : Nat) : grow1 g (evData (lnB n)) = some g := by
 obtain ⟨ts, has, st⟩ := g
 dsimp only at h
 subst h
 show (if blankB (lnB n) then some (⟨ts, has, []⟩ : GrD) else none) = _
 rw [lnB_blank]; rfl
theorem Gi.add {l : List ElD} {i k n : Nat} {q : List Nat} {g : GrD} (h : Gi l i (k :: q) g) (hk : hasK l k = true) (hki : k < i) (hil : i ≤ l.length) : ∃ g', grow1 g (evData (lnB n)) = some g' ∧ Gi l i (k :: q) g' := by
 obtain ⟨ts, has, st⟩ := g
 obtain ⟨h1, h2, h3, h4, h5⟩ := h
 dsimp only at h1 h2 h3 h4 h5
 subst h5
 obtain ⟨e, he⟩ : ∃ e, l[k]? = some e := ⟨_, List.getElem?_eq_getElem (by omega)⟩
 obtain ⟨t, ht, -, hb⟩ := h2 k e hki he
 have ea : addText ts k (lnB n) = ts.set k ⟨e.n, e.up, e.l, t ++ lnB n⟩ := by unfold addText; rw [ht]
 refine ⟨⟨addText ts k (lnB n), has, k :: q⟩, rfl, ?_, ?_, h3, h4, rfl⟩
 ·show (addText ts k (lnB n)).length = i
  rw [ea, List.length_set, h1]
 ·intro k2 e2 hk2 he2
  show ∃ t, (addText ts k (lnB n))[k2]? = some ⟨e2.n, e2.up, e2.l, t⟩ ∧ (hasK l k2 = false → t = e2.t) ∧ (hasK l k2 = true → blankB t = true)
  rw [ea]
  by_cases hkk : k = k2
  ·subst hkk
   obtain rfl : e = e2 := Option.some.inj (he.symm.trans he2)
   refine ⟨t ++ lnB n, by rw [List.getElem?_set_self (by omega)], (fun h => by rw [hk] at h; cases h), fun _ => ?_⟩
   rw [blank_app, hb hk, lnB_blank]; rfl
  ·rw [List.getElem?_set_ne hkk]
   exact h2 k2 e2 hk2 he2
theorem Gi.close {l : List ElD} {i k : Nat} {q : List Nat} {g : GrD} (h : Gi l i (k :: q) g) (hki : k < i) (hil : i ≤ l.length) : ∃ g', grow1 g (evClose (nameL l k)) = some g' ∧ Gi l i q g' := by
 obtain ⟨ts, has, st⟩ := g
 obtain ⟨h1, h2, h3, h4, h5⟩ := h
 dsimp only at h1 h2 h3 h4 h5
 subst h5
 obtain ⟨e, he⟩ : ∃ e, l[k]? = some e := ⟨_, List.getElem?_eq_getElem (by omega)⟩
 obtain ⟨t, ht, -, -⟩ := h2 k e hki he
 have hn : nameL l k = e.n := by unfold nameL; rw [he]
 have e1 : nameAt ts k e.n = true := by unfold nameAt; rw [ht]; exact beq_self_eq_true _
 refine ⟨⟨ts, has, q⟩, ?_, h1, h2, h3, h4, rfl⟩
 rw [hn]
 show (if nameAt ts k e.n then some (⟨ts, has, q⟩ : GrD) else none) = _
 rw [if_pos e1]

/-- The flags when another element comes. -/
def hsN (g : GrD) : List Bool := (match g.st with
 | [] => g.has
 | k :: _ => g.has.set k true) ++ [false]
def opT (g : GrD) (e : ElD) (t : ByteArray) : GrD := ⟨g.ts ++ [⟨e.n, e.up, e.l, t⟩], hsN g, g.ts.length :: g.st⟩
def UpOk (g : GrD) (e : ElD) : Prop := (g.st = [] ∧ e.up = -1 ∧ g.ts.length = 0) ∨ ∃ k q, g.st = k :: q ∧ e.up = ((k : Nat) : Int)
theorem grow_open {g : GrD} {e : ElD} (h : UpOk g e) : grow1 g (evOpen e.n e.l) = some (opT g e ⟨#[]⟩) := by
 obtain ⟨ts, has, st⟩ := g
 rcases h with ⟨h1, h2, h3⟩ | ⟨k, q, h1, h2⟩
 ·dsimp only at h1 h3
  subst h1
  show (if ts.length = 0 then some (⟨ts ++ [⟨e.n, -1, e.l, ⟨#[]⟩⟩], has ++ [false], ts.length :: []⟩ : GrD) else none) = _
  rw [if_pos h3]
  unfold opT hsN
  rw [h2]
 ·dsimp only at h1
  subst h1
  show some (⟨ts ++ [⟨e.n, (k : Int), e.l, ⟨#[]⟩⟩], has.set k true ++ [false], ts.length :: k :: q⟩ : GrD) = _
  unfold opT hsN
  rw [h2]
theorem at_end {α : Type} (l : List α) (x : α) : (l ++ [x])[l.length]? = some x := by simp
theorem grow_text {g : GrD} {e : ElD} (t : ByteArray) : grow1 (opT g e ⟨#[]⟩) (evData t) = some (opT g e t) := by
 show some (⟨addText (g.ts ++ [⟨e.n, e.up, e.l, ⟨#[]⟩⟩]) g.ts.length t, hsN g, g.ts.length :: g.st⟩ : GrD) = _
 unfold addText
 rw [at_end]
 dsimp only
 rw [ba_nil, List.set_append_right _ _ (Nat.le_refl _), Nat.sub_self]
 rfl
theorem grow_shut {g : GrD} {e : ElD} (t : ByteArray) : grow1 (opT g e t) (evClose e.n) = some ⟨(opT g e t).ts, hsN g, g.st⟩ := by
 show (if nameAt (g.ts ++ [⟨e.n, e.up, e.l, t⟩]) g.ts.length e.n then some (⟨(opT g e t).ts, hsN g, g.st⟩ : GrD) else none) = _
 have e1 : nameAt (g.ts ++ [⟨e.n, e.up, e.l, t⟩]) g.ts.length e.n = true := by unfold nameAt; rw [at_end]; exact beq_self_eq_true _
 rw [if_pos e1]
theorem has_take {l : List ElD} {i : Nat} {e : ElD} (he : l[i]? = some e) (k : Nat) : hasK (l.take (i + 1)) k = (hasK (l.take i) k || e.up == (k : Int)) := by
 unfold hasK
 rw [List.take_add_one, he]
 simp
theorem Gi.push {l : List ElD} {i : Nat} {st : List Nat} {g : GrD} {e : ElD} {t : ByteArray} (h : Gi l i st g) (he : l[i]? = some e) (hlt : ∀ (j : Nat) (x : ElD), l[j]? = some x → x.up < (j : Int)) (hu : UpOk g e) (h1 : hasK l i = false → t = e.t) (h2 : hasK l i = true → blankB t = true) (st' : List Nat) :
  Gi l (i + 1) st' ⟨(opT g e t).ts, hsN g, st'⟩ := by
 obtain ⟨ts, has, st0⟩ := g
 obtain ⟨g1, g2, g3, g4, g5⟩ := h
 dsimp only at g1 g2 g3 g4 g5
 subst g5
 have hsl : (hsN ⟨ts, has, st0⟩).length = i + 1 := by
  unfold hsN
  cases st0 with
  | nil => rw [List.length_append]; dsimp only; rw [g3]; rfl
  | cons k q => rw [List.length_append]; dsimp only; rw [List.length_set, g3]; rfl
 refine ⟨by show (ts ++ [_]).length = _; rw [List.length_append, g1]; rfl, ?_, hsl, ?_, rfl⟩
 ·intro k x hk hx
  show ∃ t', (ts ++ [(⟨e.n, e.up, e.l, t⟩ : ElD)])[k]? = some ⟨x.n, x.up, x.l, t'⟩ ∧ (hasK l k = false → t' = x.t) ∧ (hasK l k = true → blankB t' = true)
  by_cases hki : k < i
  ·rw [List.getElem?_append_left (by omega)]
   exact g2 k x hki hx
  ·obtain rfl : k = i := by omega
   obtain rfl : e = x := Option.some.inj (he.symm.trans hx)
   refine ⟨t, by rw [← g1]; exact at_end _ _, h1, h2⟩
 ·intro k hk
  show (hsN ⟨ts, has, st0⟩)[k]? = _
  rw [has_take he]
  by_cases hki : k < i
  ·have hk0 := g4 k hki
   have hle : ∀ X : List Bool, X.length = i → (X ++ [false])[k]? = X[k]? := fun X hX => List.getElem?_append_left (by omega)
   unfold hsN
   rcases hu with ⟨u1, u2, u3⟩ | ⟨k0, q, u1, u2⟩
   ·dsimp only at u1 u3
    exact absurd u3 (by omega)
   ·dsimp only at u1
    subst u1
    dsimp only
    rw [hle _ (by rw [List.length_set, g3])]
    by_cases hkk : k0 = k
    ·subst hkk
     rw [List.getElem?_set_self (by omega), u2]
     simp
    ·rw [List.getElem?_set_ne hkk, hk0, u2]
     have : ((k0 : Int) == (k : Int)) = false := by
      have h3 : ¬ (k0 : Int) = (k : Int) := by omega
      simpa using h3
     rw [this, Bool.or_false]
  ·obtain rfl : k = i := by omega
   have e0 : hasK (l.take k) k = false := by
    unfold hasK
    rw [List.any_eq_false]
    intro x hx
    obtain ⟨j, hj⟩ := List.getElem?_of_mem hx
    rw [List.getElem?_take] at hj
    split at hj
    ·have := hlt j x hj
     have h3 : x.up ≠ (k : Int) := by omega
     simpa using h3
    ·cases hj
   have e1 : (e.up == (k : Int)) = false := by
    have := hlt k e he
    have h3 : e.up ≠ (k : Int) := by omega
    simpa using h3
   rw [e0, e1]
   unfold hsN
   rw [List.getElem?_append_right]
   ·cases st0 with
    | nil => dsimp only; rw [g3, Nat.sub_self]; rfl
    | cons k0 q => dsimp only; rw [List.length_set, g3, Nat.sub_self]; rfl
   ·cases st0 with
    | nil => dsimp only; omega
    | cons k0 q => dsimp only; rw [List.length_set]; omega

section
variable {S : ByteArray} {l : List ElD}
theorem elem_step {i p : Nat} {e : ElD} {X : List UInt8} {g : GrD} {st : List Nat} (h : S.data.toList.drop p = headL e ++ (tailL l i e ++ X)) (hr : rightB e = true) (hG : Gi l i st g) (he : l[i]? = some e) (hlt : ∀ (j : Nat) (x : ElD), l[j]? = some x → x.up < (j : Int)) (hu : UpOk g e) :
  ∃ p' g', S.data.toList.drop p' = 10 :: X ∧ Gi l (i + 1) (if hasK l i then i :: st else st) g' ∧ Stp S p g p' g' := by
 have htx : nameM e.n = true ∧ textB e.t = true := by
  unfold rightB at hr
  simp only [Bool.and_eq_true] at hr
  exact hr.1.1.1
 have hgl := hG.len
 have hst := hG.st
 cases hk : hasK l i with
 | true =>
  have e1 : tailL l i e = [62, 10] := by unfold tailL; rw [if_pos hk]
  rw [e1] at h
  obtain ⟨p', hp, hs⟩ := stp_open (c := false) (X := 10 :: X) (g := g) (g' := opT g e ⟨#[]⟩) hr (by rw [h]; rfl) (by unfold openL; rw [growF, grow_open hu]; rfl)
  refine ⟨p', _, hp, ?_, hs⟩
  have := hG.push he hlt hu (t := ⟨#[]⟩) (fun h => by rw [hk] at h; cases h) (fun _ => rfl) (i :: st)
  rw [if_pos rfl]
  have e2 : opT g e ⟨#[]⟩ = ⟨(opT g e ⟨#[]⟩).ts, hsN g, i :: st⟩ := by unfold opT; rw [hgl, hst]
  rw [e2]
  exact this
 | false =>
  rw [if_neg (by decide)]
  by_cases ht : e.t.data.toList = []
  ·have e1 : tailL l i e = [47, 62, 10] := by unfold tailL; rw [if_neg (by rw [hk]; decide), if_pos ht]
   rw [e1] at h
   obtain ⟨p', hp, hs⟩ := stp_open (c := true) (X := 10 :: X) (g := g) (g' := ⟨(opT g e ⟨#[]⟩).ts, hsN g, g.st⟩) hr (by rw [h]; rfl) (by
    show growF [evOpen e.n e.l, evClose e.n] g = _
    rw [growF, grow_open hu]
    show growF [evClose e.n] (opT g e ⟨#[]⟩) = _
    rw [growF, grow_shut]; rfl)
   have := hG.push he hlt hu (t := ⟨#[]⟩) (fun _ => (ba_eq ht).symm) (fun h => by rw [hk] at h; cases h) st
   refine ⟨p', _, hp, ?_, hs⟩
   rw [hst]
   exact this
  ·have e1 : tailL l i e = 62 :: (escT false e.t.data.toList ++ endL e.n) := by unfold tailL; rw [if_neg (by rw [hk]; decide), if_neg ht]
   rw [e1] at h
   obtain ⟨p1, hp1, hs1⟩ := stp_open (c := false) (X := escT false e.t.data.toList ++ (60 :: 47 :: (e.n.data.toList ++ 62 :: 10 :: X))) (g := g) (g' := opT g e ⟨#[]⟩) hr (by rw [h]; unfold endL; simp) (by unfold openL; rw [growF, grow_open hu]; rfl)
   obtain ⟨p2, hp2, hs2⟩ := stp_text htx.2 ht (by intro b hb; cases hb; rfl) hp1 (grow_text (g := g) (e := e) e.t)
   obtain ⟨p3, hp3, hs3⟩ := stp_end htx.1 hp2 (grow_shut (g := g) (e := e) e.t)
   have := hG.push he hlt hu (t := e.t) (fun _ => rfl) (fun h => by rw [hk] at h; cases h) st
   refine ⟨p3, _, hp3, ?_, (hs1.trans hs2).trans hs3⟩
   rw [hst]
   exact this
theorem closes_step (hnm : ∀ (k : Nat) (e : ElD), l[k]? = some e → nameM e.n = true) {i : Nat} (hil : i ≤ l.length) {X : List UInt8} {b : List Nat} : ∀ {a : List Nat} {p : Nat} {g : GrD}, S.data.toList.drop p = 10 :: (closesL l b.length a ++ X) → p ≤ S.size → (∀ k ∈ a, k < i) → Gi l i ((a ++ b).filter (hasK l)) g →
  ∃ p' g', S.data.toList.drop p' = 10 :: X ∧ Gi l i (b.filter (hasK l)) g' ∧ Stp S p g p' g'
 | [], p, g, h, hp, ha, hG => ⟨p, g, h, hG, .refl hp⟩
 | k :: a, p, g, h, hp, ha, hG => by
  rw [List.cons_append, List.filter_cons] at hG
  rw [closesL] at h
  have hki := ha k (by simp)
  cases hk : hasK l k with
  | false =>
   rw [if_neg (by rw [hk]; decide)] at hG
   rw [closeL, if_neg (by rw [hk]; decide), List.nil_append] at h
   exact closes_step hnm hil h hp (fun x hx => ha x (by simp [hx])) hG
  | true =>
   rw [if_pos hk] at hG
   rw [closeL, if_pos hk] at h
   obtain ⟨e, he⟩ : ∃ e, l[k]? = some e := ⟨_, List.getElem?_eq_getElem (by omega)⟩
   have hn : nameM (nameL l k) = true := by unfold nameL; rw [he]; exact hnm k e he
   obtain ⟨g1, hg1, hG1⟩ := hG.add (n := b.length + a.length) hk hki hil
   obtain ⟨g2, hg2, hG2⟩ := hG1.close hki hil
   obtain ⟨p1, hp1, hs1⟩ := stp_ln (S := S) (n := b.length + a.length) (X := 60 :: 47 :: ((nameL l k).data.toList ++ 62 :: 10 :: (closesL l b.length a ++ X))) (by intro b hb; cases hb; rfl) (by rw [h]; unfold endL; simp) hg1
   obtain ⟨p2, hp2, hs2⟩ := stp_end hn hp1 hg2
   obtain ⟨p3, g3, hp3, hG3, hs3⟩ := closes_step hnm hil hp2 (hs2.choose_spec.1.2.1) (fun x hx => ha x (by simp [hx])) hG2
   exact ⟨p3, g3, hp3, hG3, (hs1.trans hs2).trans hs3⟩
/-- A parent has no text. -/
theorem chk_text : ∀ {r : List ElD} {i : Nat} {o : List Nat} {m : Nat}, chkF l r i o m = 0 → ∀ (j : Nat) (e : ElD), r[j]? = some e → 0 < i + j → ∃ k : Nat, (k : Int) = e.up ∧ noText l k = true
 | [], i, o, m, h => by intro j e he; simp at he
 | e0 :: r, i, o, m, h => by
  rw [chkF] at h
  split at h
  ·cases h
  by_cases hi : i = 0
  ·subst hi
   rw [if_pos rfl] at h
   split at h
   ·have ih := chk_text h
    intro j e he hj
    cases j with
    | zero => omega
    | succ j => exact ih j e (by simpa using he) (by omega)
   ·cases h
  ·rw [if_neg hi] at h
   cases hd : o.dropWhile (fun k : Nat => !((k : Int) == e0.up)) with
   | nil => rw [hd] at h; cases h
   | cons k q =>
    rw [hd] at h
    dsimp only at h
    have hku : (k : Int) = e0.up := by
     have hne : o.dropWhile (fun k : Nat => !((k : Int) == e0.up)) ≠ [] := by rw [hd]; simp
     have := List.head_dropWhile_not (fun k : Nat => !((k : Int) == e0.up)) hne
     simpa [hd] using this
    split at h
    ·rename_i hnt
     have ih := chk_text h
     intro j e he hj
     cases j with
     | zero => cases he; exact ⟨k, hku, hnt⟩
     | succ j => exact ih j e (by simpa using he) (by omega)
    ·cases h
theorem main_step (hnm : ∀ (k : Nat) (e : ElD), l[k]? = some e → nameM e.n = true) (hlt : ∀ (j : Nat) (x : ElD), l[j]? = some x → x.up < (j : Int)) : ∀ {r : List ElD} {i : Nat} {o : List Nat} {m p : Nat} {g : GrD}, l.drop i = r → i ≤ l.length → S.data.toList.drop p = 10 :: seqW l r i o → p ≤ S.size → chkF l r i o m = 0 → (∀ k ∈ o, k < i) → Gi l i (o.filter (hasK l)) g →
  ∃ g', Gi l l.length [] g' ∧ Stp S p g S.size g'
 | [], i, o, m, p, g, hd, hi, h, hp, hc, ho, hG => by
  obtain rfl : i = l.length := by
   have := congrArg List.length hd
   rw [List.length_drop, List.length_nil] at this
   omega
  rw [seqW] at h
  obtain ⟨p1, g1, hp1, hG1, hs1⟩ := closes_step hnm (Nat.le_refl _) (b := []) (X := []) (by rw [List.append_nil]; exact h) hp ho (by rw [List.append_nil]; exact hG)
  obtain ⟨p2, hp2, hs2⟩ := stp_ln (S := S) (n := 0) (X := []) (g' := g1) (by intro b hb; cases hb) (by rw [hp1]; rfl) (grow_blank hG1.st 0)
  obtain rfl : p2 = S.size := by
   have h1 := hs2.choose_spec.1.2.1
   have := congrArg List.length hp2
   rw [List.length_drop, size_list, List.length_nil] at this
   omega
  exact ⟨g1, hG1, hs1.trans hs2⟩
 | e :: r, i, o, m, p, g, hd, hi, h, hp, hc, ho, hG => by
  have hil : i < l.length := by
   have := congrArg List.length hd
   rw [List.length_drop, List.length_cons] at this
   omega
  have he : l[i]? = some e := by
   rw [List.drop_eq_getElem_cons hil] at hd
   rw [List.getElem?_eq_getElem hil, (List.cons.inj hd).1]
  have hd2 : l.drop (i + 1) = r := by
   rw [List.drop_eq_getElem_cons hil] at hd
   exact (List.cons.inj hd).2
  have hkin : ∀ k : Nat, e.up = (k : Int) → hasK l k = true := by
   intro k hk
   unfold hasK
   rw [List.any_eq_true]
   exact ⟨e, List.mem_of_getElem? he, by simpa using hk⟩
  rw [seqW] at h
  obtain ⟨p1, g1, hp1, hG1, hs1⟩ := closes_step hnm hi (b := o.dropWhile (notUp e)) (a := o.takeWhile (notUp e)) h hp (fun k hk => ho k ((List.takeWhile_prefix _).subset hk)) (by rw [List.takeWhile_append_dropWhile]; exact hG)
  rw [chkF] at hc
  split at hc
  ·cases hc
  rename_i hr
  have hr : rightB e = true := by simpa using hr
  have hhead : ∀ b ∈ (headL e ++ (tailL l i e ++ seqW l r (i + 1) (i :: o.dropWhile (notUp e)))).head?, b = 60 := by intro b hb; cases hb; rfl
  by_cases hi0 : i = 0
  ·subst hi0
   obtain rfl : o = [] := by
    cases o with
    | nil => rfl
    | cons k q => exact absurd (ho k (by simp)) (by omega)
   rw [if_pos rfl] at hc
   split at hc
   ·rename_i hup
    have hu : UpOk g1 e := .inl ⟨hG1.st, hup, hG1.len⟩
    obtain ⟨p2, hp2, hs2⟩ := stp_ln (S := S) (n := 0) (g' := g1) hhead hp1 (grow_blank hG1.st 0)
    obtain ⟨p3, g3, hp3, hG3, hs3⟩ := elem_step hp2 hr hG1 he hlt hu
    obtain ⟨g4, hG4, hs4⟩ := main_step hnm hlt hd2 (by omega) hp3 hs3.choose_spec.1.2.1 hc (by intro k hk; simp at hk; omega) (by
     rw [List.filter_cons]; exact hG3)
    exact ⟨g4, hG4, ((hs1.trans hs2).trans hs3).trans hs4⟩
   ·cases hc
  ·rw [if_neg hi0] at hc
   have ed : o.dropWhile (fun k : Nat => !((k : Int) == e.up)) = o.dropWhile (notUp e) := rfl
   rw [ed] at hc
   cases hdw : o.dropWhile (notUp e) with
   | nil => rw [hdw] at hc; cases hc
   | cons k q =>
    rw [hdw] at hc hp1 hG1 hhead
    dsimp only at hc
    have hku : e.up = (k : Int) := by
     have hne : o.dropWhile (notUp e) ≠ [] := by rw [hdw]; simp
     have := List.head_dropWhile_not (notUp e) hne
     have e2 : (o.dropWhile (notUp e)).head hne = k := by simp [hdw]
     rw [e2] at this
     unfold notUp at this
     simpa using (by simpa using this : (k : Int) = e.up).symm
    have hsub : ∀ x ∈ k :: q, x < i := fun x hx => ho x ((List.dropWhile_suffix (notUp e)).subset (by rw [hdw]; exact hx))
    split at hc
    ·have hkk := hkin k hku
     rw [List.filter_cons, if_pos hkk] at hG1
     obtain ⟨g2, hg2, hG2⟩ := hG1.add (n := (k :: q).length) hkk (hsub k (by simp)) hi
     obtain ⟨p2, hp2, hs2⟩ := stp_ln (S := S) hhead hp1 hg2
     have hu : UpOk g2 e := .inr ⟨k, _, hG2.st, hku⟩
     obtain ⟨p3, g3, hp3, hG3, hs3⟩ := elem_step hp2 hr hG2 he hlt hu
     obtain ⟨g4, hG4, hs4⟩ := main_step hnm hlt hd2 (by omega) hp3 hs3.choose_spec.1.2.1 hc (by
      intro x hx
      rcases List.mem_cons.1 hx with rfl | hx
      ·omega
      ·have := hsub x hx; omega) (by
      rw [List.filter_cons, List.filter_cons, if_pos hkk]; exact hG3)
     exact ⟨g4, hG4, ((hs1.trans hs2).trans hs3).trans hs4⟩
    ·cases hc
end
theorem clear_of : ∀ {ts ls : List ElD} {hs : List Bool}, ts.length = ls.length → hs.length = ls.length → (∀ (k : Nat) (e : ElD), ls[k]? = some e → ∃ t h, ts[k]? = some ⟨e.n, e.up, e.l, t⟩ ∧ hs[k]? = some h ∧ (h = false → t = e.t) ∧ (h = true → blankB t = true ∧ e.t = ⟨#[]⟩)) → clearF ts hs = some ls
 | [], [], [], _, _, _ => rfl
 | x :: ts, y :: ls, h :: hs, h1, h2, h3 => by
  obtain ⟨t, b, e1, e2, e3, e4⟩ := h3 0 y rfl
  cases e1
  cases e2
  have ih := clear_of (ts := ts) (ls := ls) (hs := hs) (by simpa using h1) (by simpa using h2) (fun k e he => h3 (k + 1) e he)
  rw [clearF, ih]
  cases h with
  | true =>
   obtain ⟨e5, e6⟩ := e4 rfl
   rw [if_pos rfl]
   dsimp only
   rw [e5, if_pos rfl, ← e6]
   rfl
  | false =>
   rw [if_neg (by decide)]
   obtain rfl := e3 rfl
   rfl
theorem docL_txt {l : List ElD} (hr : ∀ (j : Nat) (e : ElD), l[j]? = some e → rightB e = true) : Txt (docL l) := by
 have h0 : Txt [] := Txt.ascii (by simp)
 have a1 : ∀ b : UInt8, b = 60 ∨ b = 62 ∨ b = 32 ∨ b = 61 ∨ b = 47 ∨ b = 34 ∨ b = 10 → b.toNat < 128 ∧ charB b.toNat = true := by
  rintro b (rfl | rfl | rfl | rfl | rfl | rfl | rfl) <;> decide
 have hnt : ∀ n : ByteArray, nameM n = true → Txt n.data.toList := fun n h => Txt.ascii (fun b hb => (insN ((name_has h).2 b hb)).2.2.2.2.2.2.2)
 have hp : ∀ n, Txt (padL n) := fun n => Txt.ascii (fun b hb => by rw [padL_mem hb]; decide)
 have he : ∀ n : ByteArray, nameM n = true → Txt (endL n) := fun n h => .cons (a1 _ (by simp)) (.cons (a1 _ (by simp)) ((hnt n h).app (.cons (a1 _ (by simp)) (.cons (a1 _ (by simp)) h0))))
 have hn0 : ∀ (j : Nat) (e : ElD), l[j]? = some e → nameM e.n = true ∧ textB e.t = true ∧ ∀ a ∈ e.l, nameM a.1 = true ∧ textB a.2 = true := by
  intro j e h
  have hq := hr j e h
  unfold rightB at hq
  simp only [Bool.and_eq_true, decide_eq_true_eq, List.all_eq_true] at hq
  exact ⟨hq.1.1.1.1, hq.1.1.1.2, fun a ha => by have := hq.1.2 a ha; unfold atOk at this; simpa using this⟩
 have hcl : ∀ n k, Txt (closeL l n k) := by
  intro n k
  unfold closeL nameL
  split
  ·refine (hp n).app ?_
   split
   ·rename_i e h1
    exact he _ (hn0 k e h1).1
   ·exact .cons (a1 _ (by simp)) (.cons (a1 _ (by simp)) (h0.app (.cons (a1 _ (by simp)) (.cons (a1 _ (by simp)) h0))))
  ·exact h0
 have hcs : ∀ n o, Txt (closesL l n o) := by
  intro n o
  induction o with
  | nil => exact h0
  | cons k q ih => exact (hcl _ _).app ih
 have hat : ∀ al : List AtD, (∀ a ∈ al, nameM a.1 = true ∧ textB a.2 = true) → Txt (al.flatMap attL) := by
  intro al
  induction al with
  | nil => intro _; exact h0
  | cons a al ih =>
   intro h
   obtain ⟨b1, b2⟩ := h a (by simp)
   rw [textB_chars] at b2
   rw [List.flatMap_cons]
   exact Txt.app (.cons (a1 _ (by simp)) ((hnt _ b1).app (.cons (a1 _ (by simp)) (.cons (a1 _ (by simp)) ((Txt.esc b2).app (.cons (a1 _ (by simp)) h0)))))) (ih (fun b hb => h b (by simp [hb])))
 have hhd : ∀ (j : Nat) (e : ElD), l[j]? = some e → Txt (headL e) := fun j e h => .cons (a1 _ (by simp)) ((hnt _ (hn0 j e h).1).app (hat _ (hn0 j e h).2.2))
 have htl : ∀ (i j : Nat) (e : ElD), l[j]? = some e → Txt (tailL l i e) := by
  intro i j e h
  unfold tailL
  split
  ·exact .cons (a1 _ (by simp)) (.cons (a1 _ (by simp)) h0)
  split
  ·exact .cons (a1 _ (by simp)) (.cons (a1 _ (by simp)) (.cons (a1 _ (by simp)) h0))
  ·have h2 := (hn0 j e h).2.1
   rw [textB_chars] at h2
   exact .cons (a1 _ (by simp)) ((Txt.esc h2).app (he _ (hn0 j e h).1))
 have hsq : ∀ (r : List ElD) (i : Nat) (o : List Nat), (∀ e ∈ r, ∃ j : Nat, l[j]? = some e) → Txt (seqW l r i o) := by
  intro r
  induction r with
  | nil => intro i o _; exact hcs 0 o
  | cons e r ih =>
   intro i o h
   obtain ⟨j, hj⟩ := h e (by simp)
   exact (hcs _ _).app ((hp _).app ((hhd j e hj).app ((htl i j e hj).app (ih _ _ (fun x hx => h x (by simp [hx]))))))
 exact Txt.app (Txt.ascii (by decide)) (hsq l 0 [] (fun e h => List.getElem?_of_mem h))
/-- What is written is read as the same. -/
theorem read_back {l : List ElD} (hc : checkT l = 0) (hs : (docL l).length ≤ 300000) : treeR ⟨(docL l).toArray⟩ = (some l, 0) := by
 obtain ⟨S, hS⟩ : ∃ S : ByteArray, S = ⟨(docL l).toArray⟩ := ⟨_, rfl⟩
 have hl : S.data.toList = docL l := by rw [hS]
 have hsz : S.size ≤ 300000 := by rw [← size_list, hl]; exact hs
 rw [← hS]
 clear hS
 have hall := checkT_all hc
 obtain ⟨hn0, -, hch⟩ := checkT_parts hc
 have hnm : ∀ (k : Nat) (e : ElD), l[k]? = some e → nameM e.n = true := by
  intro k e he
  have hq := (hall k e he).1
  unfold rightB at hq
  simp only [Bool.and_eq_true] at hq
  exact hq.1.1.1.1
 have hlt : ∀ (j : Nat) (x : ElD), l[j]? = some x → x.up < (j : Int) := by
  intro j x hx
  obtain ⟨-, h1, h2⟩ := hall j x hx
  by_cases hj : j = 0
  ·rw [h1 hj]; omega
  ·exact (h2 (by omega)).2
 have hd : S.data.toList.drop 38 = 10 :: seqW l (l.drop 0) 0 [] := by rw [hl]; rfl
 have h38 : 38 ≤ S.size := by
  have := drop_lt hd
  rw [size_list] at this
  omega
 obtain ⟨g, hG, evs, ⟨-, -, r1, r2⟩, hg⟩ := main_step (S := S) hnm hlt rfl (by omega) hd h38 hch (by intro k hk; cases hk) (g := ⟨[], [], []⟩) ⟨rfl, fun k e hk => absurd hk (by omega), rfl, fun k hk => absurd hk (by omega), rfl⟩
 have hpro : prologF S = some 38 := by
  have e0 : S.data.toList.drop 0 = [60, 63, 120, 109, 108] ++ (32 :: ([118, 101, 114, 115, 105, 111, 110, 61, 34, 49, 46, 48, 34, 32, 101, 110, 99, 111, 100, 105, 110, 103, 61, 34, 85, 84, 70, 45, 56, 34] ++ [63, 62] ++ (10 :: seqW l l 0 []))) := by rw [hl]; rfl
  have e5 : S.data.toList.drop 5 = [32] ++ ([118, 101, 114, 115, 105, 111, 110, 61, 34, 49, 46, 48, 34, 32, 101, 110, 99, 111, 100, 105, 110, 103, 61, 34, 85, 84, 70, 45, 56, 34] ++ [63, 62] ++ (10 :: seqW l l 0 [])) := drop_app e0
  have b5 : blkE S 5 = 6 := blk_at (B := [32]) (by intro b hb; simp at hb; rw [hb]; rfl) e5 (by intro b hb; cases hb; rfl)
  have e6 : S.data.toList.drop 6 = [118, 101, 114, 115, 105, 111, 110, 61, 34, 49, 46, 48, 34, 32, 101, 110, 99, 111, 100, 105, 110, 103, 61, 34, 85, 84, 70, 45, 56, 34] ++ [63, 62] ++ (10 :: seqW l l 0 []) := drop_app e5
  unfold prologF
  rw [if_neg (by rw [atP_of e0]; decide), b5, if_neg (by decide), e6, fnd_of (by decide)]
  rfl
 have hb : bodyF S = some evs := by
  unfold bodyF
  rw [hpro]
  dsimp only
  rw [r2, docG, if_pos rfl]
  rfl
 have ht : textB S = true := by
  apply Txt.ok
  rw [hl]
  exact docL_txt (fun j e he => (hall j e he).1)
 have hm : markF S = (some evs, 0) := by
  have h1 : longB evs = false := by
   unfold longB
   rw [List.any_eq_false]
   intro e he
   have := (r1 e he).1
   simp only [decide_eq_true_eq]
   omega
  have h2 : dupB evs = false := by
   unfold dupB
   rw [List.any_eq_false]
   intro e he
   rw [(r1 e he).2]
   decide
  unfold markF
  rw [if_neg (by omega), if_neg (by rw [ht]; decide), hb]
  dsimp only
  rw [h1, h2]
  rfl
 have hcl : clearF g.ts g.has = some l := by
  refine clear_of hG.len hG.hl (fun k e he => ?_)
  have hk : k < l.length := (List.getElem?_eq_some_iff.1 he).1
  obtain ⟨t, t1, t2, t3⟩ := hG.ts k e hk he
  have hh := hG.has k hk
  rw [List.take_length] at hh
  refine ⟨t, hasK l k, t1, hh, t2, fun h => ⟨t3 h, ?_⟩⟩
  unfold hasK at h
  rw [List.any_eq_true] at h
  obtain ⟨x, hx, hxu⟩ := h
  have hxu : x.up = (k : Int) := by simpa using hxu
  obtain ⟨j, hj⟩ := List.getElem?_of_mem hx
  have hj0 : 0 < j := by
   rcases Nat.eq_zero_or_pos j with h | h
   ·have := (hall j x hj).2.1 h; omega
   ·exact h
  obtain ⟨k2, hk2, hnt⟩ := chk_text hch j x (by simpa using hj) (by omega)
  obtain rfl : k2 = k := by omega
  unfold noText at hnt
  rw [he] at hnt
  exact ba_eq (by simpa using hnt)
 unfold treeR
 rw [hm]
 dsimp only
 rw [hg]
 dsimp only
 rw [if_neg (by
  rw [hG.len, hG.st]
  rintro (h | h)
  ·omega
  ·exact h rfl), hcl]
 dsimp only
 rw [if_pos hc]
end Go.Proofs.YtanncakdlflopaaGreatDoor
