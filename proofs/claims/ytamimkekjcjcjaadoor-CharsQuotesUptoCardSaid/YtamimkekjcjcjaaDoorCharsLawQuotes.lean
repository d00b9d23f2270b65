/- Unquote whole, of both, and the walk over tarifflaw04.CharsQuotes. -/
import Derived.Test.YtamimkekjcjcjaaDoorUnqWalks3
import Derived.Test.YtamimkekjcjcjaaDoorCharsWalk3
namespace Go.Proofs.YtamimkekjcjcjaaDoor
open Go.RowKit
set_option linter.unusedVariables false
set_option maxRecDepth 100000

theorem unq_short (s : ByteArray) (w : World) (hT : U8 w) (hs : s.size ≤ 1099511627776) {cs : List Nat} (hc : chars s.data.toList = some cs) (h : s.size < 2) :
    Calls Tryd.prog 17 #[.string s] w fun e w' => e = .returned (.tuple #[.string ⟨#[]⟩, .int .i64 5]) ∧ Below w.heap.size w w' := by
  have HC := Lib.hid (valid_any s w (by omega) hT)
  have HT := Lib.hid (text_of_some hc)
  clear hc
  go_enter Tryd.func17, Tryd.ntmps17
  go_wp2
  go_step3
  go_wp2_with fail
  refine HC.out.mono ?_
  rintro e w1 ⟨rfl, hb⟩
  rw [HT.out]
  go_wp2
  try rw [Exit.noGoto_ret]
  go_ret2
  exact ⟨rfl, hb⟩

theorem unq_head (s : ByteArray) (w : World) (hT : U8 w) (hs : s.size ≤ 1099511627776) {cs : List Nat} (hc : chars s.data.toList = some cs) (h : 2 ≤ s.size) (h0 : s[0].toNat ≠ 34) :
    Calls Tryd.prog 17 #[.string s] w fun e w' => e = .returned (.tuple #[.string ⟨#[]⟩, .int .i64 5]) ∧ Below w.heap.size w w' := by
  have HC := Lib.hid (valid_any s w (by omega) hT)
  have HT := Lib.hid (text_of_some hc)
  have b0 : ((s[0].toNat : Int) != 34) = true := by rw [bne_iff_ne]; omega
  have d0 : decide ((s.size : Int) < 2) = false := decide_eq_false (by omega)
  have hp : 0 < s.size := by omega
  clear hc h0
  go_enter Tryd.func17, Tryd.ntmps17
  go_wp2
  go_step3
  go_wp2_with fail
  refine HC.out.mono ?_
  rintro e w1 ⟨rfl, hb⟩
  rw [HT.out]
  go_wp2
  try rw [Exit.noGoto_ret]
  go_ret2
  exact ⟨rfl, hb⟩

theorem unq_tail (s : ByteArray) (w : World) (hT : U8 w) (hs : s.size ≤ 1099511627776) {cs : List Nat} (hc : chars s.data.toList = some cs) (h : 2 ≤ s.size) (h0 : s[0].toNat = 34) (h1 : s[s.size - 1].toNat ≠ 34) :
    Calls Tryd.prog 17 #[.string s] w fun e w' => e = .returned (.tuple #[.string ⟨#[]⟩, .int .i64 5]) ∧ Below w.heap.size w w' := by
  have HC := Lib.hid (valid_any s w (by omega) hT)
  have HT := Lib.hid (text_of_some hc)
  have b0 : ((s[0].toNat : Int) != 34) = false := by rw [h0]; rfl
  have b1 : ((s[s.size - 1].toNat : Int) != 34) = true := by rw [bne_iff_ne]; omega
  have d0 : decide ((s.size : Int) < 2) = false := decide_eq_false (by omega)
  have hp : 0 < s.size := by omega
  have e1 : ((s.size : Int) - 1).toNat = s.size - 1 := by omega
  have e2 : 0 ≤ (s.size : Int) - 1 := by omega
  clear hc h0 h1
  go_enter Tryd.func17, Tryd.ntmps17
  go_wp2
  go_step3
  go_wp2_with fail
  refine HC.out.mono ?_
  rintro e w1 ⟨rfl, hb⟩
  rw [HT.out]
  go_wp2
  try rw [Exit.noGoto_ret]
  go_ret2
  exact ⟨rfl, hb⟩

theorem unquoteV_in {s : ByteArray} {cs : List Nat} {l : List UInt8} (h : chars s.data.toList = some cs) (h2 : qform s.data.toList = some l) : unquoteV s = unqV l := by
  cases h3 : unq l with
  | none => rw [unquoteV_bad h h2 h3, unqV_none h3]
  | some r => rw [unquoteV_ok h h2 h3, unqV_some h3]

theorem unquote_any (s : ByteArray) (w : World) (hT : U8 w) (hs : s.size ≤ 1099511627776) :
    Calls Tryd.prog 17 #[.string s] w fun e w' => e = .returned (unquoteV s) ∧ Below w.heap.size w w' := by
  cases hc : chars s.data.toList with
  | none =>
    have HC := Lib.hid (valid_any s w (by omega) hT)
    have HT := Lib.hid (text_of_none hc)
    have HV := Lib.hid (unquoteV_no hc)
    clear hc
    go_enter Tryd.func17, Tryd.ntmps17
    go_wp2
    go_step3
    go_wp2_with fail
    refine HC.out.mono ?_
    rintro e w1 ⟨rfl, hb⟩
    rw [HT.out]
    go_wp2
    try rw [Exit.noGoto_ret]
    go_ret2
    exact ⟨(congrArg Ending.returned HV.out).symm, hb⟩
  | some cs =>
    by_cases h2 : s.size < 2
    · exact (unq_short s w hT hs hc h2).mono fun e w' ⟨he, hw⟩ => ⟨by rw [he, unquoteV_form hc (qform_short h2)], hw⟩
    by_cases h0 : s[0].toNat = 34
    · by_cases h1 : s[s.size - 1].toNat = 34
      · exact (unq_in s w hT hs hc (by omega) h0 h1).mono fun e w' ⟨he, hw⟩ => ⟨by rw [he, unquoteV_in hc (qform_in (by omega) h0 h1)], hw⟩
      · exact (unq_tail s w hT hs hc (by omega) h0 h1).mono fun e w' ⟨he, hw⟩ => ⟨by rw [he, unquoteV_form hc (qform_tail (by omega) h1)], hw⟩
    · exact (unq_head s w hT hs hc (by omega) h0).mono fun e w' ⟨he, hw⟩ => ⟨by rw [he, unquoteV_form hc (qform_head (by omega) h0)], hw⟩

theorem runquote_any (s : ByteArray) (w : World) (hs : s.size ≤ 1099511627776) :
    Calls Tryd.prog 18 #[.string s] w fun e w' => e = .returned (unquoteV s) ∧ Below w.heap.size w w' := by
  cases hc : chars s.data.toList with
  | none =>
    have HC := Lib.hid (rValid_any s w hs)
    have HT := Lib.hid (text_of_none hc)
    have HV := Lib.hid (unquoteV_no hc)
    clear hc
    go_enter Tryd.func18, Tryd.ntmps18
    go_wp2_with fail
    refine HC.out.mono ?_
    rintro e w1 ⟨rfl, hb⟩
    rw [HT.out]
    go_wp2
    go_ret2
    exact ⟨(congrArg Ending.returned HV.out).symm, hb⟩
  | some cs =>
    by_cases h2 : s.size < 2
    · exact (runq_short s w hs hc h2).mono fun e w' ⟨he, hw⟩ => ⟨by rw [he, unquoteV_form hc (qform_short h2)], hw⟩
    by_cases h0 : s[0].toNat = 34
    · by_cases h1 : s[s.size - 1].toNat = 34
      · exact (runq_in s w hs hc (by omega) h0 h1).mono fun e w' ⟨he, hw⟩ => ⟨by rw [he, unquoteV_in hc (qform_in (by omega) h0 h1)], hw⟩
      · exact (runq_tail s w hs hc (by omega) h0 h1).mono fun e w' ⟨he, hw⟩ => ⟨by rw [he, unquoteV_form hc (qform_tail (by omega) h1)], hw⟩
    · exact (runq_head s w hs hc (by omega) h0).mono fun e w' ⟨he, hw⟩ => ⟨by rw [he, unquoteV_form hc (qform_head (by omega) h0)], hw⟩

theorem unquoteV_shape (s : ByteArray) : ∃ a b, unquoteV s = .tuple #[.string a, .int .i64 b] := by
  unfold unquoteV
  split
  · split <;> exact ⟨_, _, rfl⟩
  · exact ⟨_, _, rfl⟩
/-- What was quoted is read back. -/
theorem quote_back {s : ByteArray} {cs : List Nat} (h : chars s.data.toList = some cs) : unquoteV ⟨(quotedL s.data.toList).toArray⟩ = .tuple #[.string s, .int .i64 0] := by
  obtain ⟨h1, h2, _⟩ := chars_len h
  have hq : chars (⟨(quotedL s.data.toList).toArray⟩ : ByteArray).data.toList = some (34 :: (cs.flatMap qcL ++ [34])) := by
    show chars ((quotedL s.data.toList).toArray.toList) = _
    rw [List.toList_toArray, h1]
    exact quoted_chars h2
  have hf : qform (⟨(quotedL s.data.toList).toArray⟩ : ByteArray).data.toList = some (replL quoL s.data.toList) := by
    show qform ((quotedL s.data.toList).toArray.toList) = _
    rw [List.toList_toArray]
    unfold qform quotedL
    rw [if_pos ⟨by simp, by simp, by simp⟩]
    simp
  rw [unquoteV_ok hq hf (unq_back s.data.toList)]

set_option maxHeartbeats 2000000 in
theorem charsQuotes_walk (s t : ByteArray) (w : World) (hT : U8 w) (hs : s.size ≤ 1073741824) (ht : t.size ≤ 1073741824) :
    Calls Tryd.prog 5 #[.string s, .string t] w fun e w' => e = .returned (.bool true) ∧ Below w.heap.size w w' := by
  have HT := Lib.hid hT
  obtain ⟨ta, tb, htv⟩ := unquoteV_shape t
  have HTV := Lib.hid htv
  clear hT htv
  cases hc : chars s.data.toList with
  | none =>
    have HQ := Lib.hid (quoteV_none hc)
    clear hc
    go_enter Tryd.func5, Tryd.ntmps5
    go_wp2_with fail
    refine (known_any _ HT.out).mono ?_
    rintro e w1 ⟨rfl, hb⟩
    have HB := Lib.hid hb
    clear hb
    go_wp2_with fail
    refine (rquote_any s w1 (by omega)).mono ?_
    rintro e w2 ⟨rfl, hb⟩
    rw [HQ.out]
    have HB2 := Lib.hid (HB.out.trans (hb.mono HB.out.size))
    clear hb HB
    go_wp2_with fail
    refine (quote_any s w2 (HT.out.below HB2.out) (by omega)).mono ?_
    rintro e w3 ⟨rfl, hb⟩
    rw [HQ.out]
    have HB3 := Lib.hid (HB2.out.trans (hb.mono HB2.out.size))
    clear hb HB2
    go_wp2_with fail
    refine (runquote_any t w3 (by omega)).mono ?_
    rintro e w4 ⟨rfl, hb⟩
    rw [HTV.out]
    have HB4 := Lib.hid (HB3.out.trans (hb.mono HB3.out.size))
    clear hb HB3
    go_wp2_with fail
    refine (unquote_any t w4 (HT.out.below HB4.out) (by omega)).mono ?_
    rintro e w5 ⟨rfl, hb⟩
    rw [HTV.out]
    have HB5 := Lib.hid (HB4.out.trans (hb.mono HB4.out.size))
    clear hb HB4
    go_wp2
    go_ret
    exact ⟨rfl, HB5.out⟩
  | some cs =>
    have HQ := Lib.hid (quoteV_some hc)
    have HBack := Lib.hid (quote_back hc)
    obtain ⟨q, hq⟩ : ∃ q : ByteArray, q = ⟨(quotedL s.data.toList).toArray⟩ := ⟨_, rfl⟩
    have hqs : q.size ≤ 1099511627776 := by
      rw [hq, mk_size]
      have := quo_len s.data.toList
      rw [size_list] at this
      unfold quotedL
      simp
      omega
    rw [← hq] at HQ HBack
    clear hc hq
    go_enter Tryd.func5, Tryd.ntmps5
    go_wp2_with fail
    refine (known_any _ HT.out).mono ?_
    rintro e w1 ⟨rfl, hb⟩
    have HB := Lib.hid hb
    clear hb
    go_wp2_with fail
    refine (rquote_any s w1 (by omega)).mono ?_
    rintro e w2 ⟨rfl, hb⟩
    rw [HQ.out]
    have HB2 := Lib.hid (HB.out.trans (hb.mono HB.out.size))
    clear hb HB
    go_wp2_with fail
    refine (quote_any s w2 (HT.out.below HB2.out) (by omega)).mono ?_
    rintro e w3 ⟨rfl, hb⟩
    rw [HQ.out]
    have HB3 := Lib.hid (HB2.out.trans (hb.mono HB2.out.size))
    clear hb HB2
    go_wp2_with fail
    refine (unquote_any q w3 (HT.out.below HB3.out) hqs).mono ?_
    rintro e w4 ⟨rfl, hb⟩
    rw [HBack.out]
    have HB4 := Lib.hid (HB3.out.trans (hb.mono HB3.out.size))
    clear hb HB3
    go_wp2_with fail
    refine (runquote_any t w4 (by omega)).mono ?_
    rintro e w5 ⟨rfl, hb⟩
    rw [HTV.out]
    have HB5 := Lib.hid (HB4.out.trans (hb.mono HB4.out.size))
    clear hb HB4
    go_wp2_with fail
    refine (unquote_any t w5 (HT.out.below HB5.out) (by omega)).mono ?_
    rintro e w6 ⟨rfl, hb⟩
    rw [HTV.out]
    have HB6 := Lib.hid (HB5.out.trans (hb.mono HB5.out.size))
    clear hb HB5
    go_wp2
    go_ret
    exact ⟨rfl, HB6.out⟩
end Go.Proofs.YtamimkekjcjcjaaDoor
