/- Is an element right by itself: both sides; blank, both sides. (short) -/
import Derived.Test.YtanncakdlflopaaGreatDoorTreeA
namespace Go.Proofs.YtanncakdlflopaaGreatDoor
open Go.RowKit
set_option linter.unusedVariables false
set_option linter.unusedSimpArgs false
set_option maxRecDepth 100000

theorem tblank_any (s : ByteArray) (w : World) (hs : s.size ≤ 1099511627776) :
    Calls Tryz.prog 24 #[.string s] w fun e w' => e = .returned (.bool (blankB s)) ∧ Below w.heap.size w w' := by
  have HM := Lib.hid (Mem.start w)
  obtain ⟨T, hT⟩ : ∃ T : ByteArray, (⟨(Lib.trimS s.data.toList blkS).toArray⟩ : ByteArray) = T := ⟨_, rfl⟩
  have hTe : T.toList.isEmpty = blankB s := by
    have := trim_blank s.data.toList
    rw [← hT, Lib.toList_data]
    refine Eq.trans ?_ this
    show (Lib.trimS s.data.toList blkS).isEmpty = _
    cases Lib.trimS s.data.toList blkS <;> rfl
  have hTr : ∀ W, Calls Tryz.prog 43 #[.string s, .string ⟨#[32, 9, 10, 13]⟩] W fun e w' => e = .returned (.string T) ∧ Below W.heap.size W w' := fun W => by
    have := Any.strings_Trim_laid Tryz.lays160 (by kernel_rfl) s ⟨blkS.toArray⟩ W (by omega) (by decide) (ascii_of_all (by decide))
    rw [show (⟨blkS.toArray⟩ : ByteArray).data.toList = blkS from rfl, hT] at this
    exact this
  have HTr := Lib.hid hTr
  have HTe := Lib.hid hTe
  clear hTr hT hTe
  go_enter Tryz.func24, Tryz.ntmps24
  go_wp2_with (first | (go_at_call 43; (with_reducible refine cB HM (HTr.out _) ?_); clear HM; intro W1 HM))
  go_ret
  exact ⟨by rw [← HTe.out]; rfl, HM.out.below⟩
theorem rtblank_any (s : ByteArray) (w : World) (hs : s.size ≤ 1099511627776) :
    Calls Tryz.prog 40 #[.string s] w fun e w' => e = .returned (.bool (blankB s)) ∧ w = w' := by
  go_enter Tryz.func40, Tryz.ntmps40
  go_wp2_with fail
  go_loopw [3] (fun iv wr => ∃ i : Nat, iv = .int .i64 i ∧ i ≤ s.size ∧ Hid ((s.data.toList.take i).all blkB = true) ∧ w = wr) (fun iv _ => s.size - (intOf iv).toNat)
  case atStart => exact ⟨0, rfl, by omega, Lib.hid rfl, rfl⟩
  case round =>
    obtain ⟨i, rfl, hi, HB, rfl⟩ := hrel
    by_cases hlt : i < s.size
    · have HAt := Lib.hid (at_byte3 hlt)
      have HBk := Lib.hid (fun W => rblank_any s[i] W)
      have d1 : decide ((i : Int) < s.size) = true := decide_eq_true (by omega)
      generalize s[i] = x at *
      cases hx : blkB x with
      | false =>
        have HF := Lib.hid (show blankB s = false by
          unfold blankB
          rw [List.all_eq_false]
          exact ⟨x, List.mem_of_getElem? HAt.out, by rw [hx]; decide⟩)
        rw [hx] at HBk
        clear hx
        as_aux_lemma =>
        go_wp2_with (first | ((with_reducible refine iat 12 ?_); (refine six rfl rfl rfl HAt.out ?_)) | (go_at_call 53; with_reducible refine cQ (HBk.out _) ?_))
        go_ret
        exact ⟨by rw [HF.out]; rfl, rfl⟩
      | true =>
        have HB2 := Lib.hid (show (s.data.toList.take (i + 1)).all blkB = true by rw [List.take_add_one, HAt.out, List.all_append, HB.out]; simp [hx])
        rw [hx] at HBk
        clear hx
        as_aux_lemma =>
        go_wp2_with (first | ((with_reducible refine iat 12 ?_); (refine six rfl rfl rfl HAt.out ?_)) | (go_at_call 53; with_reducible refine cQ (HBk.out _) ?_))
        go_roundw
        case rel => exact ⟨i + 1, by go_num, by omega, HB2, trivial⟩
        case measure => simp [intOf]; omega
    · have d1 : decide ((i : Int) < s.size) = false := decide_eq_false (by omega)
      have HF := Lib.hid (show blankB s = true by have := HB.out; rwa [List.take_of_length_le (by rw [size_list]; omega)] at this)
      as_aux_lemma =>
      go_wp2_with fail
      go_ret
      exact ⟨by rw [HF.out]; rfl, rfl⟩

theorem dupA_take {l : List AtD} {k : Nat} (h : dupA (l.take k) = true) : dupA l = true := by
  unfold dupA at *
  simp only [Bool.not_eq_true', decide_eq_false_iff_not] at *
  intro hn
  apply h
  exact hn.sublist ((List.take_sublist k l).map _)
theorem right_name {n t : ByteArray} {up : Int} {l : List AtD} (h : nameM n = false) : rightB ⟨n, up, l, t⟩ = false := by unfold rightB; rw [h]; rfl
theorem right_text {n t : ByteArray} {up : Int} {l : List AtD} (h : textB t = false) : rightB ⟨n, up, l, t⟩ = false := by unfold rightB; rw [h, Bool.and_false]; rfl
theorem right_many {n t : ByteArray} {up : Int} {l : List AtD} (h : 16 < l.length) : rightB ⟨n, up, l, t⟩ = false := by unfold rightB; rw [decide_eq_false (show ¬ l.length ≤ 16 by omega), Bool.and_false]; rfl
theorem right_at {n t : ByteArray} {up : Int} {l : List AtD} {i : Nat} {a : AtD} (ha : l[i]? = some a) (h : atOk a = false) : rightB ⟨n, up, l, t⟩ = false := by
  have : l.all atOk = false := by rw [List.all_eq_false]; exact ⟨a, List.mem_of_getElem? ha, by rw [h]; decide⟩
  unfold rightB; rw [this, Bool.and_false]; rfl
theorem right_dup {n t : ByteArray} {up : Int} {l : List AtD} {i j : Nat} {a b : AtD} (ha : l[i]? = some a) (hb : l[j]? = some b) (hj : j < i) (h : (a.1.toList == b.1.toList) = true) : rightB ⟨n, up, l, t⟩ = false := by
  have h1 : dupA (l.take (i + 1)) = true := by
    rw [dupA_next ha, Bool.or_eq_true]
    right
    rw [List.any_eq_true]
    exact ⟨b, List.mem_of_getElem? (by rw [List.getElem?_take, if_pos hj]; exact hb), h⟩
  unfold rightB; rw [dupA_take h1]; simp
theorem right_yes {n t : ByteArray} {up : Int} {l : List AtD} (h1 : nameM n = true) (h2 : textB t = true) (h3 : ¬ 16 < l.length) (h4 : l.all atOk = true) (h5 : dupA l = false) : rightB ⟨n, up, l, t⟩ = true := by
  unfold rightB; rw [h1, h2, decide_eq_true (show l.length ≤ 16 by omega), h4, h5]; rfl
theorem all_next {l : List AtD} {k : Nat} {b : AtD} (h : l[k]? = some b) (h1 : (l.take k).all atOk = true) (hb : atOk b = true) : (l.take (k + 1)).all atOk = true := by
  rw [List.take_add_one, h, List.all_append, h1]; simp [hb]
/-- Sizes of an element's texts. -/
def szOk (e : ElD) : Prop := e.n.size ≤ 1099511627776 ∧ e.t.size ≤ 1099511627776 ∧ ∀ a ∈ e.l, a.1.size ≤ 1099511627776 ∧ a.2.size ≤ 1099511627776
end Go.Proofs.YtanncakdlflopaaGreatDoor
