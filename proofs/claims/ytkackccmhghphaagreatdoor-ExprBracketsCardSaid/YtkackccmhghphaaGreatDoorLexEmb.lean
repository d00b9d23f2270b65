/- A text within a text: its tokens are the same, at other places; in plain Lean. -/
import Derived.Test.YtkackccmhghphaaGreatDoorLexChain
namespace Go.Proofs.YtkackccmhghphaaGreatDoor
open Go.RowKit
set_option linter.unusedVariables false

def stpB (b : UInt8) : Bool := blankB b || b == 41
/-- The text s lies in u from d on, and behind it u ends, or a blank or a closing bracket stands. -/
structure Emb (u : ByteArray) (d : Nat) (s : ByteArray) : Prop where
 at_ : ∀ j b, s.data.toList[j]? = some b → u.data.toList[d + j]? = some b
 end_ : ∀ b, u.data.toList[d + s.size]? = some b → stpB b = true
theorem stp_is {b : UInt8} (h : stpB b = true) : b = 32 ∨ b = 9 ∨ b = 10 ∨ b = 13 ∨ b = 41 := by
 unfold stpB blankB at h
 simpa [or_assoc] using h
theorem stp_dg {b : UInt8} (h : stpB b = true) : dg b = false := by rcases stp_is h with rfl | rfl | rfl | rfl | rfl <;> decide
theorem stp_wd {b : UInt8} (h : stpB b = true) : wdB b = false := by rcases stp_is h with rfl | rfl | rfl | rfl | rfl <;> decide
theorem stp_sgn {a b : UInt8} (h : stpB b = true) : sgn2 a b = false := by
 unfold sgn2
 rcases stp_is h with rfl | rfl | rfl | rfl | rfl <;> simp
theorem stp_46 {b : UInt8} (h : stpB b = true) : b ≠ 46 := by rcases stp_is h with rfl | rfl | rfl | rfl | rfl <;> decide
section
variable {u s : ByteArray} {d : Nat}
theorem Emb.st (h : Emb u d s) {i : Nat} {b : UInt8} (hb : s.data.toList[i]? = some b) : u.data.toList[d + i]? = some b := h.at_ i b hb
theorem Emb.le (h : Emb u d s) (h0 : 0 < s.size) : d + s.size ≤ u.size := by
 have hl : s.data.toList.length = s.size := by simp
 have hu : u.data.toList.length = u.size := by simp
 obtain ⟨b, hb⟩ : ∃ b, s.data.toList[s.size - 1]? = some b := ⟨_, List.getElem?_eq_getElem (by omega)⟩
 have := (List.getElem?_eq_some_iff.1 (h.at_ _ b hb)).1
 omega
theorem spanE_emb {p : UInt8 → Bool} (h : Emb u d s) (hp : ∀ b, stpB b = true → p b = false) : ∀ (n i : Nat), s.size - i = n → i ≤ s.size → spanE p u.data.toList (d + i) = d + spanE p s.data.toList i
 | n, i, hn, hi => by
  have hl : s.data.toList.length = s.size := by simp
  by_cases hlt : i < s.size
  ·obtain ⟨b, hb⟩ : ∃ b, s.data.toList[i]? = some b := ⟨_, List.getElem?_eq_getElem (by omega)⟩
   cases hpb : p b with
   | true =>
    rw [spanE_yes hb hpb, spanE_yes (h.at_ i b hb) hpb, Nat.add_assoc]
    exact spanE_emb h hp (s.size - (i + 1)) (i + 1) rfl hlt
   | false => rw [spanE_no hb hpb, spanE_no (h.at_ i b hb) hpb]
  ·have hie : i = s.size := by omega
   subst hie
   rw [spanE_end (l := s.data.toList) (by omega)]
   cases hb : u.data.toList[d + s.size]? with
   | none => exact spanE_end (List.getElem?_eq_none_iff.1 hb)
   | some b => exact spanE_no hb (hp b (h.end_ b hb))
termination_by n => n
decreasing_by omega
theorem take_emb (h : Emb u d s) {i m : Nat} (him : i + m ≤ s.size) : (u.data.toList.drop (d + i)).take m = (s.data.toList.drop i).take m := by
 have hl : s.data.toList.length = s.size := by simp
 apply List.ext_getElem?
 intro j
 by_cases hj : j < m
 ·rw [List.getElem?_take_of_lt hj, List.getElem?_take_of_lt hj, List.getElem?_drop, List.getElem?_drop]
  obtain ⟨b, hb⟩ : ∃ b, s.data.toList[i + j]? = some b := ⟨_, List.getElem?_eq_getElem (by omega)⟩
  rw [hb, Nat.add_assoc, h.at_ _ b hb]
 ·rw [List.getElem?_eq_none (by rw [List.length_take]; omega), List.getElem?_eq_none (by rw [List.length_take]; omega)]
theorem ext_emb (h : Emb u d s) {i k : Nat} (hk : k ≤ s.size) : u.extract (d + i) (d + k) = s.extract i k := by
 have he : (u.extract (d + i) (d + k)).data.toList = (s.extract i k).data.toList := by
  rw [ext_list, ext_list, show d + k - (d + i) = k - i by omega]
  by_cases hik : i ≤ k
  ·exact take_emb h (by omega)
  ·rw [show k - i = 0 by omega, List.take_zero, List.take_zero]
 rcases hA : u.extract (d + i) (d + k) with ⟨⟨a⟩⟩
 rcases hB : s.extract i k with ⟨⟨b⟩⟩
 rw [hA, hB] at he
 simp at he
 rw [he]
theorem next_emb (h : Emb u d s) {k : Nat} (hk : k ≤ s.size) {P : UInt8 → Prop} (hP : ∀ b, stpB b = true → ¬ P b) : (∃ b, u.data.toList[d + k]? = some b ∧ P b) ↔ (∃ b, s.data.toList[k]? = some b ∧ P b) := by
 have hl : s.data.toList.length = s.size := by simp
 constructor
 ·rintro ⟨b, hb, hp⟩
  by_cases hlt : k < s.size
  ·obtain ⟨c, hc⟩ : ∃ c, s.data.toList[k]? = some c := ⟨_, List.getElem?_eq_getElem (by omega)⟩
   have := h.at_ k c hc
   rw [hb] at this
   cases this
   exact ⟨b, hc, hp⟩
  ·have hke : k = s.size := by omega
   subst hke
   exact absurd hp (hP b (h.end_ b hb))
 ·rintro ⟨b, hb, hp⟩
  exact ⟨b, h.at_ k b hb, hp⟩
theorem numE_emb (h : Emb u d s) {i : Nat} (hi : i ≤ s.size) : numE u.data.toList (d + i) = d + numE s.data.toList i := by
 have hl : s.data.toList.length = s.size := by simp
 have hsp := spanE_emb (p := dg) h (fun b hb => stp_dg hb) _ i rfl hi
 have hle := spanE_le (p := dg) (l := s.data.toList) (i := i) (by omega)
 unfold numE
 simp only
 rw [hsp]
 generalize spanE dg s.data.toList i = k at hle ⊢
 have h1 := next_emb h (k := k) (by omega) (P := fun b => b = 46) (fun b hb => stp_46 hb)
 have h1' : (u.data.toList[d + k]? = Option.some 46) ↔ (s.data.toList[k]? = Option.some 46) := by simpa using h1
 by_cases h46 : s.data.toList[k]? = Option.some 46
 ·have hks : k < s.size := by rw [← hl]; exact (List.getElem?_eq_some_iff.1 h46).1
  have h2 := next_emb h (k := k + 1) (by omega) (P := fun b => dg b = true) (fun b hb => by rw [stp_dg hb]; simp)
  have h2' : (u.data.toList[d + k + 1]?.map dg = Option.some true) ↔ (s.data.toList[k + 1]?.map dg = Option.some true) := by
   rw [Option.map_eq_some_iff, Option.map_eq_some_iff]
   exact h2
  by_cases hd2 : s.data.toList[k + 1]?.map dg = Option.some true
  ·rw [if_pos ⟨h1'.2 h46, h2'.2 hd2⟩, if_pos ⟨h46, hd2⟩]
   exact spanE_emb (p := dg) h (fun b hb => stp_dg hb) _ (k + 1) rfl (by omega)
  ·rw [if_neg (fun x => hd2 (h2'.1 x.2)), if_neg (fun x => hd2 x.2)]
 ·rw [if_neg (fun x => h46 (h1'.1 x.1)), if_neg (fun x => h46 x.1)]
theorem numD_emb (h : Emb u d s) {i : Nat} (hi : i ≤ s.size) : numD u.data.toList (d + i) = numD s.data.toList i := by
 have hl : s.data.toList.length = s.size := by simp
 have hsp := spanE_emb (p := dg) h (fun b hb => stp_dg hb) _ i rfl hi
 have hle := spanE_le (p := dg) (l := s.data.toList) (i := i) (by omega)
 unfold spanE at hsp hle
 unfold numD
 rw [show spanL dg (u.data.toList.drop (d + i)) = spanL dg (s.data.toList.drop i) by omega]
 exact take_emb h (by omega)
theorem numE_le {l : List UInt8} {i : Nat} (hi : i ≤ l.length) : spanE dg l i ≤ numE l i ∧ numE l i ≤ l.length := by
 have hle := spanE_le (p := dg) (l := l) (i := i) hi
 unfold numE
 simp only
 split
 ·rename_i h46
  have hk := (List.getElem?_eq_some_iff.1 h46.1).1
  have h3 := spanE_le (p := dg) (l := l) (i := spanE dg l i + 1) (by omega)
  omega
 ·omega
theorem numF_emb (h : Emb u d s) {i : Nat} (hi : i ≤ s.size) : numF u.data.toList (d + i) = numF s.data.toList i := by
 have hl : s.data.toList.length = s.size := by simp
 have hsp := spanE_emb (p := dg) h (fun b hb => stp_dg hb) _ i rfl hi
 have hle := numE_le (l := s.data.toList) (i := i) (by omega)
 unfold numF
 rw [numE_emb h hi, hsp]
 by_cases he : numE s.data.toList i = spanE dg s.data.toList i
 ·rw [if_pos (by omega), if_pos he]
 ·rw [if_neg (by omega), if_neg he, show d + numE s.data.toList i - (d + spanE dg s.data.toList i + 1) = numE s.data.toList i - (spanE dg s.data.toList i + 1) by omega, Nat.add_assoc]
  exact take_emb h (by omega)
theorem quoE_up {l : List UInt8} : ∀ (f g k e : Nat), quoE l f k = Option.some e → f ≤ g → quoE l g k = Option.some e
 | f + 1, g + 1, k, e, h, hg => by
  unfold quoE at h ⊢
  cases hk : l[k]? with
  | none => rw [hk] at h; cases h
  | some b =>
   rw [hk] at h
   simp only at h ⊢
   split at h
   ·rename_i h92; rw [if_pos h92]; exact quoE_up f g _ e h (by omega)
   ·rename_i h92
    rw [if_neg h92]
    split at h
    ·rename_i h34; rw [if_pos h34]; exact h
    ·rename_i h34; rw [if_neg h34]; exact quoE_up f g _ e h (by omega)
theorem quoE_emb (h : Emb u d s) : ∀ (f k e : Nat), quoE s.data.toList f k = Option.some e → quoE u.data.toList f (d + k) = Option.some (d + e)
 | f + 1, k, e, hq => by
  unfold quoE at hq ⊢
  cases hk : s.data.toList[k]? with
  | none => rw [hk] at hq; cases hq
  | some b =>
   rw [hk] at hq
   rw [h.at_ k b hk]
   simp only at hq ⊢
   split at hq
   ·rename_i h92; rw [if_pos h92]; exact quoE_emb h f _ e hq
   ·rename_i h92
    rw [if_neg h92]
    split at hq
    ·rename_i h34; rw [if_pos h34]; cases hq; rfl
    ·rename_i h34; rw [if_neg h34]; exact quoE_emb h f _ e hq
theorem textF_emb (h : Emb u d s) {i k : Nat} {t : ByteArray} (ht : textF s i = Option.some (t, k)) : textF u (d + i) = Option.some (t, d + k) := by
 have hl : s.data.toList.length = s.size := by simp
 unfold textF at ht ⊢
 split at ht
 ·rename_i h34
  rw [if_pos (h.at_ i 34 h34)]
  cases hq : quoE s.data.toList (s.size + 1) (i + 1) with
  | none => rw [hq] at ht; cases ht
  | some e =>
   rw [hq] at ht
   have hel := quoE_le _ _ _ hq
   have hul := h.le (by omega)
   have hq2 := quoE_up _ (u.size + 1) _ _ (quoE_emb h _ _ _ hq) (by omega)
   rw [← Nat.add_assoc] at hq2
   rw [hq2]
   simp only at ht ⊢
   rw [ext_emb h (by omega)]
   split at ht
   ·rename_i h0; cases ht; rw [if_pos h0]
   ·cases ht
 ·cases ht
theorem signN_emb (h : Emb u d s) {i : Nat} {c : UInt8} (hc : s.data.toList[i]? = Option.some c) : signN u.data.toList (d + i) = signN s.data.toList i := by
 have hl : s.data.toList.length = s.size := by simp
 have hi : i < s.size := by rw [← hl]; exact (List.getElem?_eq_some_iff.1 hc).1
 unfold signN
 rw [hc, h.at_ i c hc]
 cases hn : s.data.toList[i + 1]? with
 | some b => rw [Nat.add_assoc, h.at_ _ b hn]
 | none =>
  have hie : i + 1 = s.size := by have := List.getElem?_eq_none_iff.1 hn; omega
  cases hu : u.data.toList[d + i + 1]? with
  | none => rfl
  | some b =>
   have hb := h.end_ b (by rw [← hie, ← Nat.add_assoc]; exact hu)
   simp only
   rw [stp_sgn hb]
   simp
/-- A token at another place. -/
def shiftT (d : Nat) (t : TokD) : TokD := { t with at_ := d + t.at_ }
theorem oneF_emb (h : Emb u d s) {i : Nat} {c : UInt8} (hc : s.data.toList[i]? = Option.some c) (h5 : (oneF s i).2.2 ≠ 5) : oneF u (d + i) = (shiftT d (oneF s i).1, d + (oneF s i).2.1, (oneF s i).2.2) := by
 have hl : s.data.toList.length = s.size := by simp
 have hi : i < s.size := by rw [← hl]; exact (List.getElem?_eq_some_iff.1 hc).1
 revert h5
 unfold oneF
 rw [hc, h.at_ i c hc]
 simp only
 by_cases hd : dg c = true
 ·rw [if_pos hd, if_pos hd]
  intro _
  rw [numD_emb h (by omega), numF_emb h (by omega), numE_emb h (by omega)]
  rfl
 ·rw [if_neg hd, if_neg hd]
  by_cases h34 : c = 34
  ·rw [if_pos h34, if_pos h34]
   cases hx : textF s i with
   | none => intro h; exact absurd rfl h
   | some x =>
    obtain ⟨t, k⟩ := x
    intro _
    rw [textF_emb h hx]
    rfl
  ·rw [if_neg h34, if_neg h34]
   by_cases h64 : c = 64
   ·rw [if_pos h64, if_pos h64]
    cases hx : textF s (i + 1) with
    | none => intro h; exact absurd rfl h
    | some x =>
     obtain ⟨t, k⟩ := x
     intro _
     have h2 := textF_emb h hx
     rw [← Nat.add_assoc] at h2
     rw [h2]
     rfl
   ·rw [if_neg h64, if_neg h64]
    by_cases hlt : lt1 c = true
    ·rw [if_pos hlt, if_pos hlt]
     have hsp := spanE_emb (p := wdB) h (fun b hb => stp_wd hb) _ i rfl (by omega)
     have hle := spanE_le (p := wdB) (l := s.data.toList) (i := i) (by omega)
     rw [hsp, ext_emb h (by omega), show d + spanE wdB s.data.toList i - (d + i) = spanE wdB s.data.toList i - i by omega]
     split
     ·intro h; exact absurd rfl h
     ·intro _; rfl
    ·rw [if_neg hlt, if_neg hlt, signN_emb h hc]
     have hsg := signN_le (l := s.data.toList) (i := i) (by omega)
     split
     ·intro h; exact absurd rfl h
     ·intro _
      rw [Nat.add_assoc, ext_emb h (by omega)]
      rfl
theorem LG_emb (h : Emb u d s) : ∀ (n i : Nat), s.size - i = n → i ≤ s.size → ∀ (acc0 : List TokD) (o r : Bool) (ts : List TokD) (o' r' : Bool), LG s i acc0 o r = Option.some (ts, o', r') → ∃ new, ts = acc0 ++ new ∧ ∀ acc, LG u (d + i) acc o r = LG u (d + s.size) (acc ++ new.map (shiftT d)) o' r'
 | n, i, hn, hi, acc0, o, r, ts, o', r', hg => by
  have hl : s.data.toList.length = s.size := by simp
  by_cases hlt : i < s.size
  ·obtain ⟨c, hc⟩ : ∃ c, s.data.toList[i]? = Option.some c := ⟨_, List.getElem?_eq_getElem (by omega)⟩
   cases hbl : blankB c with
   | true =>
    rw [LG_blank hc hbl] at hg
    obtain ⟨new, h1, h2⟩ := LG_emb h (s.size - (i + 1)) (i + 1) rfl hlt acc0 o r ts o' r' hg
    exact ⟨new, h1, fun acc => by rw [LG_blank (h.at_ i c hc) hbl, Nat.add_assoc]; exact h2 acc⟩
   | false =>
    by_cases h5 : (oneF s i).2.2 = 5
    ·rw [LG_err hc hbl h5] at hg; cases hg
    ·have hk := oneF_le hc h5
     have ho := oneF_emb h hc h5
     rw [LG_tok hc hbl h5] at hg
     obtain ⟨new, h1, h2⟩ := LG_emb h (s.size - (oneF s i).2.1) (oneF s i).2.1 rfl hk.2 _ _ _ ts o' r' hg
     refine ⟨(oneF s i).1 :: new, by rw [h1]; simp, fun acc => ?_⟩
     rw [LG_tok (h.at_ i c hc) hbl (by rw [ho]; exact h5), ho]
     simp only
     rw [h2]
     simp
  ·have hie : i = s.size := by omega
   subst hie
   rw [LG_end (Nat.le_refl _)] at hg
   cases hg
   exact ⟨[], by simp, fun acc => by simp⟩
termination_by n => n
decreasing_by
 ·omega
 ·omega
end
theorem chars_app {a b : List UInt8} (ha : (chars a).isSome = true) (hb : (chars b).isSome = true) : (chars (a ++ b)).isSome = true := by
 cases h1 : chars a with
 | none => rw [h1] at ha; cases ha
 | some x =>
  cases h2 : chars b with
  | none => rw [h2] at hb; cases hb
  | some y =>
   obtain ⟨e1, f1⟩ := chars_bytes _ a x (Nat.le_refl _) h1
   obtain ⟨e2, f2⟩ := chars_bytes _ b y (Nat.le_refl _) h2
   rw [e1, e2, ← List.flatMap_append, chars_of _ (fun c hc => by
    rcases List.mem_append.1 hc with hc | hc
    ·exact f1 c hc
    ·exact f2 c hc)]
   rfl
theorem lexF_ok {s : ByteArray} {ts : List TokD} (h : lexF s = (ts, 0)) : s.size ≤ 1000 ∧ textB s = true ∧ LG s 0 [] false false = some (ts, false, false) := by
 by_cases hl : 1000 < s.size
 ·unfold lexF at h; rw [if_pos hl] at h; cases h
 ·cases ht : textB s with
  | false => unfold lexF at h; rw [if_neg hl, if_pos ht] at h; cases h
  | true =>
   refine ⟨by omega, rfl, ?_⟩
   rw [lexF_rd hl ht] at h
   generalize LG s 0 [] false false = r at h ⊢
   cases r with
   | none => cases h
   | some x =>
    obtain ⟨ts', o, f⟩ := x
    unfold RdV at h
    simp only at h
    cases o with
    | true => cases h
    | false =>
     cases f with
     | true => cases h
     | false => cases h; rfl
end Go.Proofs.YtkackccmhghphaaGreatDoor
