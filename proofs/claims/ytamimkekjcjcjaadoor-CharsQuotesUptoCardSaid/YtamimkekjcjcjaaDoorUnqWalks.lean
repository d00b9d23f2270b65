/- The walks over Unquote, of the package and of the reference. -/
import Derived.Test.YtamimkekjcjcjaaDoorQuoteWalks
import Derived.ScopeJumps
import Derived.WalkMore
import Derived.Outline
namespace Go.Proofs.YtamimkekjcjcjaaDoor
open Go.RowKit
set_option linter.unusedVariables false
set_option maxRecDepth 100000

/-- What stands between the quotes; none: it isn't quoted. -/
def qform (l : List UInt8) : Option (List UInt8) := if 2 ≤ l.length ∧ l[0]? = some 34 ∧ l[l.length - 1]? = some 34 then some ((l.drop 1).take (l.length - 2)) else none
/-- What Unquote answers. -/
def unquoteV (s : ByteArray) : Value := match chars s.data.toList with
  | some _ => match (qform s.data.toList).bind unq with
    | some r => .tuple #[.string ⟨r.toArray⟩, .int .i64 0]
    | none => .tuple #[.string ⟨#[]⟩, .int .i64 5]
  | none => .tuple #[.string ⟨#[]⟩, .int .i64 2]
theorem unquoteV_no {s : ByteArray} (h : chars s.data.toList = none) : unquoteV s = .tuple #[.string ⟨#[]⟩, .int .i64 2] := by unfold unquoteV; rw [h]
theorem unquoteV_form {s : ByteArray} {cs : List Nat} (h : chars s.data.toList = some cs) (h2 : qform s.data.toList = none) : unquoteV s = .tuple #[.string ⟨#[]⟩, .int .i64 5] := by unfold unquoteV; rw [h, h2]; rfl
theorem unquoteV_bad {s : ByteArray} {cs : List Nat} {l : List UInt8} (h : chars s.data.toList = some cs) (h2 : qform s.data.toList = some l) (h3 : unq l = none) : unquoteV s = .tuple #[.string ⟨#[]⟩, .int .i64 5] := by
  unfold unquoteV; rw [h, h2]; show (match unq l with | some r => _ | none => _) = _; rw [h3]
theorem unquoteV_ok {s : ByteArray} {cs : List Nat} {l r : List UInt8} (h : chars s.data.toList = some cs) (h2 : qform s.data.toList = some l) (h3 : unq l = some r) : unquoteV s = .tuple #[.string ⟨r.toArray⟩, .int .i64 0] := by
  unfold unquoteV; rw [h, h2]; show (match unq l with | some r => _ | none => _) = _; rw [h3]

/-- How far the reader has come. -/
def UQ (t : List UInt8) (i : Nat) (done : List UInt8) : Prop := done.length ≤ i ∧ i ≤ t.length ∧ unq t = (unq (t.drop i)).map (done ++ ·)
theorem UQ.start (t : List UInt8) : UQ t 0 [] := ⟨by simp, by omega, by simp⟩
theorem drop_at {t : List UInt8} {i : Nat} {c : UInt8} (h : t[i]? = some c) : t.drop i = c :: t.drop (i + 1) := by
  obtain ⟨h1, h2⟩ := List.getElem?_eq_some_iff.1 h
  rw [List.drop_eq_getElem_cons h1, h2]
theorem UQ.stop {t done : List UInt8} {i : Nat} {c : UInt8} (h : UQ t i done) (hc : t[i]? = some c) (hs : stopB c = true) : unq t = none := by
  rw [h.2.2, drop_at hc, unq_stop hs]; rfl
theorem UQ.plain {t done : List UInt8} {i : Nat} {c : UInt8} (h : UQ t i done) (hc : t[i]? = some c) (hs : stopB c = false) (hn : c ≠ 92) : UQ t (i + 1) (done ++ [c]) := by
  refine ⟨by have := h.1; simp; omega, (List.getElem?_eq_some_iff.1 hc).1, ?_⟩
  rw [h.2.2, drop_at hc, unq_plain hs hn, Option.map_map]
  exact congrArg (fun f => Option.map f _) (funext fun l => by simp)
theorem UQ.last {t done : List UInt8} {i : Nat} (h : UQ t i done) (hc : t[i]? = some 92) (he : i + 1 = t.length) : unq t = none := by
  rw [h.2.2, drop_at hc, List.drop_of_length_le (by omega), unq_end]; rfl
theorem UQ.bad {t done : List UInt8} {i : Nat} {d : UInt8} (h : UQ t i done) (hc : t[i]? = some 92) (hd : t[i + 1]? = some d) (he : escD d = none) : unq t = none := by
  rw [h.2.2, drop_at hc, drop_at hd, unq_esc_none he]; rfl
theorem UQ.esc {t done : List UInt8} {i : Nat} {d b : UInt8} (h : UQ t i done) (hc : t[i]? = some 92) (hd : t[i + 1]? = some d) (he : escD d = some b) : UQ t (i + 2) (done ++ [b]) := by
  refine ⟨by have := h.1; simp; omega, (List.getElem?_eq_some_iff.1 hd).1, ?_⟩
  rw [h.2.2, drop_at hc, drop_at hd, unq_esc he, Option.map_map]
  exact congrArg (fun f => Option.map f _) (funext fun l => by simp)
theorem UQ.done {t done : List UInt8} {i : Nat} (h : UQ t i done) (he : t.length ≤ i) : unq t = some done := by
  rw [h.2.2, List.drop_of_length_le he, unq_nil]; simp

/-- The forms that Unquote refuses. -/
theorem qform_short {s : ByteArray} (h : s.size < 2) : qform s.data.toList = none := if_neg (fun x => by have := x.1; rw [size_list] at this; omega)
theorem qform_head {s : ByteArray} (h : 0 < s.size) (hc : s[0].toNat ≠ 34) : qform s.data.toList = none := if_neg (fun x => by
  have := x.2.1
  rw [b_at h] at this
  simp only [Option.some.injEq] at this
  exact hc (by rw [this]; rfl))
theorem qform_tail {s : ByteArray} (h : s.size - 1 < s.size) (hc : s[s.size - 1].toNat ≠ 34) : qform s.data.toList = none := if_neg (fun x => by
  have := x.2.2
  rw [size_list, b_at h] at this
  simp only [Option.some.injEq] at this
  exact hc (by rw [this]; rfl))
theorem qform_in {s : ByteArray} (h2 : 2 ≤ s.size) (hc : s[0].toNat = 34) (hd : s[s.size - 1].toNat = 34) : qform s.data.toList = some (s.extract 1 (s.size - 1)).data.toList := by
  have e : (s.extract 1 (s.size - 1)).data.toList = (s.data.toList.drop 1).take (s.data.toList.length - 2) := by
    rw [ByteArray.data_extract, Array.toList_extract, size_list]
    rfl
  rw [e]
  refine if_pos ⟨by rw [size_list]; exact h2, ?_, ?_⟩
  · rw [b_at (by omega)]; congr 1; exact UInt8.toNat_inj.1 hc
  · rw [size_list, b_at (by omega)]; congr 1; exact UInt8.toNat_inj.1 hd

theorem runq_short (s : ByteArray) (w : World) (hs : s.size ≤ 1099511627776) {cs : List Nat} (hc : chars s.data.toList = some cs) (h : s.size < 2) :
    Calls Tryd.prog 18 #[.string s] w fun e w' => e = .returned (.tuple #[.string ⟨#[]⟩, .int .i64 5]) ∧ Below w.heap.size w w' := by
  have HC := Lib.hid (rValid_any s w hs)
  have HT := Lib.hid (text_of_some hc)
  clear hc
  go_enter Tryd.func18, Tryd.ntmps18
  go_wp2_with fail
  refine HC.out.mono ?_
  rintro e w1 ⟨rfl, hb⟩
  rw [HT.out]
  go_wp2
  go_ret2
  exact ⟨rfl, hb⟩
theorem runq_head (s : ByteArray) (w : World) (hs : s.size ≤ 1099511627776) {cs : List Nat} (hc : chars s.data.toList = some cs) (h : 2 ≤ s.size) (h0 : s[0].toNat ≠ 34) :
    Calls Tryd.prog 18 #[.string s] w fun e w' => e = .returned (.tuple #[.string ⟨#[]⟩, .int .i64 5]) ∧ Below w.heap.size w w' := by
  have HC := Lib.hid (rValid_any s w hs)
  have HT := Lib.hid (text_of_some hc)
  have b0 : ((s[0].toNat : Int) != 34) = true := by rw [bne_iff_ne]; omega
  have d0 : decide ((s.size : Int) < 2) = false := decide_eq_false (by omega)
  have hp : 0 < s.size := by omega
  clear hc h0
  go_enter Tryd.func18, Tryd.ntmps18
  go_wp2_with fail
  refine HC.out.mono ?_
  rintro e w1 ⟨rfl, hb⟩
  rw [HT.out]
  go_wp2
  go_ret2
  exact ⟨rfl, hb⟩
theorem runq_tail (s : ByteArray) (w : World) (hs : s.size ≤ 1099511627776) {cs : List Nat} (hc : chars s.data.toList = some cs) (h : 2 ≤ s.size) (h0 : s[0].toNat = 34) (h1 : s[s.size - 1].toNat ≠ 34) :
    Calls Tryd.prog 18 #[.string s] w fun e w' => e = .returned (.tuple #[.string ⟨#[]⟩, .int .i64 5]) ∧ Below w.heap.size w w' := by
  have HC := Lib.hid (rValid_any s w hs)
  have HT := Lib.hid (text_of_some hc)
  have b0 : ((s[0].toNat : Int) != 34) = false := by rw [h0]; rfl
  have b1 : ((s[s.size - 1].toNat : Int) != 34) = true := by rw [bne_iff_ne]; omega
  have d0 : decide ((s.size : Int) < 2) = false := decide_eq_false (by omega)
  have hp : 0 < s.size := by omega
  have e1 : ((s.size : Int) - 1).toNat = s.size - 1 := by omega
  have e2 : 0 ≤ (s.size : Int) - 1 := by omega
  clear hc h0 h1
  go_enter Tryd.func18, Tryd.ntmps18
  go_wp2_with fail
  refine HC.out.mono ?_
  rintro e w1 ⟨rfl, hb⟩
  rw [HT.out]
  go_wp2
  go_ret2
  exact ⟨rfl, hb⟩
end Go.Proofs.YtamimkekjcjcjaaDoor
