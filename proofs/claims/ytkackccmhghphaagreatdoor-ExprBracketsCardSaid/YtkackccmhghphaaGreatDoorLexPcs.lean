/- Texts put together out of pieces: the tokens of the whole are those of the pieces; in plain Lean. -/
import Derived.Test.YtkackccmhghphaaGreatDoorLexEmb
import Derived.Test.YtkackccmhghphaaGreatDoorExprEmb
namespace Go.Proofs.YtkackccmhghphaaGreatDoor
open Go.RowKit
set_option linter.unusedVariables false

/-- A piece of a text: a text with its tokens, an opening bracket, a blank. -/
inductive Pc where
 | txt (s : ByteArray) (ts : List TokD)
 | opn
 | blk
def Pc.bs : Pc → List UInt8
 | .txt s _ => s.data.toList
 | .opn => [40]
 | .blk => [32]
def Pc.ts : Pc → List TokD
 | .txt _ ts => ts
 | .opn => [⟨6, ⟨#[40]⟩, 0, 0, 0, 0⟩]
 | .blk => []
def stopO (o : Option UInt8) : Bool := match o with
 | some b => stpB b
 | none => true
def pcsOk : List Pc → Prop
 | [] => True
 | .txt s ts :: r => lexF s = (ts, 0) ∧ stopO (r.flatMap Pc.bs).head? = true ∧ pcsOk r
 | _ :: r => pcsOk r
theorem get_drop {α : Type} {l m : List α} {d : Nat} (h : l.drop d = m) (j : Nat) : l[d + j]? = m[j]? := by rw [← h, List.getElem?_drop]
theorem LG_pcs {u : ByteArray} : ∀ (l : List Pc) (d : Nat) (acc : List TokD), pcsOk l → u.data.toList.drop d = l.flatMap Pc.bs → ∃ new, new.map noAt = (l.flatMap Pc.ts).map noAt ∧ LG u d acc false false = some (acc ++ new, false, false)
 | [], d, acc, hok, hu => by
  have hl : u.data.toList.length = u.size := by simp
  have : u.size ≤ d := by
   have := congrArg List.length hu
   rw [List.length_drop] at this
   simp at this
   omega
  exact ⟨[], rfl, by rw [LG_end this, List.append_nil]⟩
 | .blk :: r, d, acc, hok, hu => by
  have hu1 : u.data.toList.drop d = 32 :: r.flatMap Pc.bs := hu
  have h0 : u.data.toList[d]? = some 32 := by have := get_drop hu1 0; simpa using this
  obtain ⟨new, h1, h2⟩ := LG_pcs r (d + 1) acc hok (by rw [← List.drop_drop, hu1]; rfl)
  exact ⟨new, h1, by rw [LG_blank h0 (by decide)]; exact h2⟩
 | .opn :: r, d, acc, hok, hu => by
  have hl : u.data.toList.length = u.size := by simp
  have hu1 : u.data.toList.drop d = 40 :: r.flatMap Pc.bs := hu
  have h0 : u.data.toList[d]? = some 40 := by have := get_drop hu1 0; simpa using this
  have hd : d < u.size := by rw [← hl]; exact (List.getElem?_eq_some_iff.1 h0).1
  have hsg : signN u.data.toList d = 1 := by
   unfold signN
   rw [h0]
   cases u.data.toList[d + 1]? with
   | none => rfl
   | some b =>
    simp only
    rw [show sgn2 40 b = false by unfold sgn2; simp]
    rfl
  have hone : oneF u d = (⟨6, u.extract d (d + 1), 0, 0, 0, d⟩, d + 1, 0) := by
   unfold oneF
   rw [h0]
   simp only
   rw [if_neg (by decide), if_neg (by decide), if_neg (by decide), if_neg (by decide), hsg, if_neg (by decide)]
  have htx : u.extract d (d + 1) = ⟨#[40]⟩ := by
   have he : (u.extract d (d + 1)).data.toList = [40] := by
    rw [ext_list, show d + 1 - d = 1 by omega, hu1]
    rfl
   rcases hA : u.extract d (d + 1) with ⟨⟨a⟩⟩
   rw [hA] at he
   simp at he
   rw [he]
  obtain ⟨new, h1, h2⟩ := LG_pcs r (d + 1) (acc ++ [⟨6, ⟨#[40]⟩, 0, 0, 0, d⟩]) hok (by rw [← List.drop_drop, hu1]; rfl)
  refine ⟨⟨6, ⟨#[40]⟩, 0, 0, 0, d⟩ :: new, ?_, ?_⟩
  ·rw [List.map_cons, List.flatMap_cons, List.map_append, h1]
   rfl
  ·rw [LG_tok h0 (by decide) (by rw [hone]; show ¬ (0 : Int) = 5; decide), hone, htx]
   show LG u (d + 1) (acc ++ [_]) (false || decide ((0 : Int) = 3)) (false || decide ((0 : Int) = 17)) = _
   rw [show (false || decide ((0 : Int) = 3)) = false from rfl, show (false || decide ((0 : Int) = 17)) = false from rfl, h2, List.append_assoc]
   rfl
 | .txt s ts :: r, d, acc, hok, hu => by
  have hsl : s.data.toList.length = s.size := by simp
  obtain ⟨hs, hst, hok'⟩ := hok
  have hu1 : u.data.toList.drop d = s.data.toList ++ r.flatMap Pc.bs := hu
  have hE : Emb u d s := by
   refine ⟨fun j x hx => ?_, fun x hx => ?_⟩
   ·rw [get_drop hu1 j, List.getElem?_append_left (List.getElem?_eq_some_iff.1 hx).1]
    exact hx
   ·rw [get_drop hu1 s.size, List.getElem?_append_right (by omega), hsl, Nat.sub_self, ← List.head?_eq_getElem?] at hx
    rw [hx] at hst
    exact hst
  obtain ⟨-, -, ga⟩ := lexF_ok hs
  obtain ⟨na, e1, f1⟩ := LG_emb hE _ 0 rfl (Nat.zero_le _) [] false false ts false false ga
  rw [List.nil_append] at e1
  subst e1
  obtain ⟨new, h1, h2⟩ := LG_pcs r (d + s.size) (acc ++ ts.map (shiftT d)) hok' (by rw [← List.drop_drop, hu1, ← hsl, List.drop_left])
  refine ⟨ts.map (shiftT d) ++ new, ?_, ?_⟩
  ·rw [List.map_append, List.flatMap_cons, List.map_append, h1, List.map_map]
   congr 1
  ·have g1 := f1 acc
   rw [Nat.add_zero] at g1
   rw [g1, h2, List.append_assoc]
theorem chars_one {b : UInt8} (h : b = 40 ∨ b = 32) : (chars [b]).isSome = true := by
 rcases h with rfl | rfl <;> kernel_rfl
theorem chars_pcs : ∀ (l : List Pc), pcsOk l → (chars (l.flatMap Pc.bs)).isSome = true
 | [], _ => rfl
 | .blk :: r, h => chars_app (a := [32]) (chars_one (.inr rfl)) (chars_pcs r h)
 | .opn :: r, h => chars_app (a := [40]) (chars_one (.inl rfl)) (chars_pcs r h)
 | .txt s ts :: r, h => by
  obtain ⟨hs, -, hr⟩ := h
  obtain ⟨-, ht, -⟩ := lexF_ok hs
  rw [textB_chars] at ht
  exact chars_app ht (chars_pcs r hr)
/-- THE LAW: but for their places, the tokens of the whole are those of the pieces. -/
theorem lexF_pcs {u : ByteArray} {l : List Pc} (hu : u.data.toList = l.flatMap Pc.bs) (hs : u.size ≤ 1000) (hok : pcsOk l) : ∃ ts, lexF u = (ts, 0) ∧ ts.map noAt = (l.flatMap Pc.ts).map noAt := by
 obtain ⟨new, h1, h2⟩ := LG_pcs (u := u) l 0 [] hok (by rw [List.drop_zero]; exact hu)
 refine ⟨new, ?_, h1⟩
 have htu : textB u = true := by
  rw [textB_chars, hu]
  exact chars_pcs l hok
 rw [lexF_rd (by omega) htu, h2]
 rfl
end Go.Proofs.YtkackccmhghphaaGreatDoor
