/- The walk over tarifflaw04.CharsCuts. -/
import Derived.Test.YtamimkekjcjcjaaDoorCharsKnown
import Derived.Test.YtamimkekjcjcjaaDoorCharsWalk3
namespace Go.Proofs.YtamimkekjcjcjaaDoor
open Go.RowKit
set_option linter.unusedVariables false
set_option maxRecDepth 100000

theorem quote_no (s : ByteArray) (w : World) (hT : U8 w) (hs : s.size ≤ 1099511627776) (h : textB s = false) :
    Calls Tryd.prog 13 #[.string s] w fun e w' => e = .returned (.tuple #[.string ⟨#[]⟩, .int .i64 2]) ∧ Below w.heap.size w w' := by
  have HC := Lib.hid (valid_any s w (by omega) hT)
  have HT := Lib.hid h
  clear h
  go_enter Tryd.func13, Tryd.ntmps13
  go_wp2_with fail
  refine HC.out.mono ?_
  rintro e w1 ⟨rfl, hb⟩
  rw [HT.out]
  go_wp2
  go_ret2
  exact ⟨rfl, hb⟩
theorem escape_no (s : ByteArray) (b : Bool) (w : World) (hT : U8 w) (hs : s.size ≤ 1099511627776) (h : textB s = false) :
    Calls Tryd.prog 14 #[.string s, .bool b] w fun e w' => e = .returned (.tuple #[.string ⟨#[]⟩, .int .i64 2]) ∧ Below w.heap.size w w' := by
  have HC := Lib.hid (valid_any s w (by omega) hT)
  have HT := Lib.hid h
  clear h
  go_enter Tryd.func14, Tryd.ntmps14
  go_wp2_with fail
  refine HC.out.mono ?_
  rintro e w1 ⟨rfl, hb⟩
  rw [HT.out]
  go_wp2
  go_ret2
  exact ⟨rfl, hb⟩

set_option maxHeartbeats 1000000 in
theorem cuts_no (s : ByteArray) (x : Int) (w : World) (hT : U8 w) (hs : s.size ≤ 1099511627776) (h : textB s = false) :
    Calls Tryd.prog 4 #[.string s, .int .i64 x] w fun e w' => e = .returned (.bool true) ∧ Below w.heap.size w w' := by
  have HT := Lib.hid hT
  have HX := Lib.hid h
  have hn : chars s.data.toList = none := by
    rw [textB_chars] at h
    cases hc : chars s.data.toList with
    | none => rfl
    | some _ => rw [hc] at h; cases h
  have HCV := Lib.hid (countV_none hn)
  clear hT h hn
  go_enter Tryd.func4, Tryd.ntmps4
  go_wp2_with fail
  refine (known_any _ HT.out).mono ?_
  rintro e w1 ⟨rfl, hb⟩
  have HB := Lib.hid hb
  clear hb
  go_wp2_with fail
  refine (count_any s w1 hs (HT.out.below HB.out)).mono ?_
  rintro e w2 ⟨rfl, hb⟩
  rw [HCV.out]
  have HB2 := Lib.hid (HB.out.trans (hb.mono HB.out.size))
  clear hb HB
  go_wp2_with fail
  refine (valid_any s w2 (by omega) (HT.out.below HB2.out)).mono ?_
  rintro e w3 ⟨rfl, hb⟩
  rw [HX.out]
  have HB3 := Lib.hid (HB2.out.trans (hb.mono HB2.out.size))
  clear hb HB2
  go_wp2_with fail
  refine (quote_no s w3 (HT.out.below HB3.out) hs HX.out).mono ?_
  rintro e w4 ⟨rfl, hb⟩
  have HB4 := Lib.hid (HB3.out.trans (hb.mono HB3.out.size))
  clear hb HB3
  go_wp2_with fail
  refine (escape_no s true w4 (HT.out.below HB4.out) hs HX.out).mono ?_
  rintro e w5 ⟨rfl, hb⟩
  have HB5 := Lib.hid (HB4.out.trans (hb.mono HB4.out.size))
  clear hb HB4
  go_wp2
  go_ret
  exact ⟨rfl, HB5.out⟩

theorem cut_mod (x : Int) (L : Nat) (hL : L ≤ 1099511627776) : ∃ q : Nat, wrap64 ((IntKind.u64.wrap x).tmod ((L : Int) + 1)) = (q : Int) ∧ q ≤ L := by
  rw [IntKind.wrap_u64]
  have h0 : 0 ≤ x % 18446744073709551616 := Int.emod_nonneg _ (by decide)
  rw [Int.tmod_eq_emod_of_nonneg h0]
  have h1 := Int.emod_nonneg (x % 18446744073709551616) (b := (L : Int) + 1) (by omega)
  have h2 := Int.emod_lt_of_pos (x % 18446744073709551616) (b := (L : Int) + 1) (by omega)
  refine ⟨((x % 18446744073709551616) % ((L : Int) + 1)).toNat, ?_, by omega⟩
  rw [IntWalk.wrap64_in _ (by omega)]
  omega
theorem part_at {s : ByteArray} {cs : List Nat} (h : chars s.data.toList = some cs) {a b : Int} {f m : Nat} (ha : a = (f : Int) + 1 ∨ a < 0 ∧ (cs.length : Int) + a = (f : Int)) (hb : 0 ≤ b) (hf : f ≤ cs.length) (hm : m = min b.toNat (cs.length - f)) :
    partV s a b = .tuple #[.string ⟨(((cs.drop f).take m).flatMap encL).toArray⟩, .int .i64 0] := by
  refine partV_in (by omega) h ?_ hf hm
  split <;> omega
theorem chars_back {cs : List Nat} (h : ∀ c ∈ cs, charB c = true) : chars (⟨(cs.flatMap encL).toArray⟩ : ByteArray).data.toList = some cs := by
  show chars ((cs.flatMap encL).toArray.toList) = _
  simpa using chars_of cs h

set_option maxHeartbeats 2000000 in
theorem cuts_yes (s : ByteArray) (x : Int) (w : World) (hT : U8 w) (hs : s.size ≤ 1099511627776) (hx : -9223372036854775808 ≤ x ∧ x ≤ 9223372036854775807) {cs : List Nat} (h : chars s.data.toList = some cs) (hpos : 0 < cs.length) :
    Calls Tryd.prog 4 #[.string s, .int .i64 x] w fun e w' => e = .returned (.bool true) ∧ Below w.heap.size w w' := by
  have HT := Lib.hid hT
  have HX := Lib.hid (text_of_some h)
  have HCV := Lib.hid (countV_some h)
  have hl := (chars_len h).2.2
  have Hc := Lib.hid h
  clear hT h
  go_enter Tryd.func4, Tryd.ntmps4
  go_wp2_with fail
  refine (known_any _ HT.out).mono ?_
  rintro e w1 ⟨rfl, hb⟩
  have HB := Lib.hid hb
  clear hb
  go_wp2_with fail
  refine (count_any s w1 hs (HT.out.below HB.out)).mono ?_
  rintro e w2 ⟨rfl, hb⟩
  rw [HCV.out]
  have HB2 := Lib.hid (HB.out.trans (hb.mono HB.out.size))
  clear hb HB
  go_wp2_with fail
  refine (valid_any s w2 (by omega) (HT.out.below HB2.out)).mono ?_
  rintro e w3 ⟨rfl, hb⟩
  rw [HX.out]
  have HB3 := Lib.hid (HB2.out.trans (hb.mono HB2.out.size))
  have hne : ¬ cs = [] := fun e => by subst e; simp at hpos
  clear hb HB2
  go_wp2_with fail
  obtain ⟨q, hq, hqL⟩ := cut_mod x cs.length (by omega)
  rw [hq]
  have hall := (chars_len Hc.out).2.1
  obtain ⟨A, hA⟩ : ∃ A : ByteArray, A = ⟨((cs.take q).flatMap encL).toArray⟩ := ⟨_, rfl⟩
  obtain ⟨B, hB⟩ : ∃ B : ByteArray, B = ⟨((cs.drop q).flatMap encL).toArray⟩ := ⟨_, rfl⟩
  have hcA : chars A.data.toList = some (cs.take q) := by rw [hA]; exact chars_back (fun c hc => hall c (List.mem_of_mem_take hc))
  have hcB : chars B.data.toList = some (cs.drop q) := by rw [hB]; exact chars_back (fun c hc => hall c (List.mem_of_mem_drop hc))
  have hAB : A ++ B = s := by
    have h1 : (A ++ B).data.toList = s.data.toList := by
      rw [ByteArray.data_append, Array.toList_append, hA, hB, (chars_len Hc.out).1]
      simp only
      rw [← List.flatMap_append, List.take_append_drop]
    rw [ba_eq h1]
  have HPa := Lib.hid (show partV s 1 (q : Int) = .tuple #[.string A, .int .i64 0] by
    rw [part_at Hc.out (f := 0) (m := q) (.inl (by omega)) (by omega) (by omega) (by omega), List.drop_zero, hA])
  have HPb := Lib.hid (show partV s ((q : Int) + 1) (cs.length : Int) = .tuple #[.string B, .int .i64 0] by
    rw [part_at Hc.out (f := q) (m := cs.length - q) (.inl rfl) (by omega) hqL (by omega), List.take_of_length_le (by simp), hB])
  have HCa := Lib.hid (show countV A = .tuple #[.int .i64 q, .int .i64 0] by rw [countV_some hcA, List.length_take, Nat.min_eq_left hqL])
  have HCb := Lib.hid (show countV B = .tuple #[.int .i64 ((cs.length : Int) - (q : Int)), .int .i64 0] by
    rw [countV_some hcB, List.length_drop]
    congr 5
    omega)
  have HTa := Lib.hid (text_of_some hcA)
  have HTb := Lib.hid (text_of_some hcB)
  have hsA : A.size ≤ s.size := by rw [← hAB, ByteArray.size_append]; omega
  have hsB : B.size ≤ s.size := by rw [← hAB, ByteArray.size_append]; omega
  have hsum : A.size + B.size ≤ 1099511627776 := by rw [← ByteArray.size_append, hAB]; exact hs
  have HAB := Lib.hid hAB
  clear hA hB hcA hcB hAB hall hq
  refine (part_any s 1 q w3 hs (HT.out.below HB3.out) (by omega) (by omega)).mono ?_
  rintro e w4 ⟨rfl, hb⟩
  rw [HPa.out]
  have HB4 := Lib.hid (HB3.out.trans (hb.mono HB3.out.size))
  clear hb HB3
  go_wp2_with fail
  refine (part_any s ((q : Int) + 1) cs.length w4 hs (HT.out.below HB4.out) (by omega) (by omega)).mono ?_
  rintro e w5 ⟨rfl, hb⟩
  rw [HPb.out]
  have HB5 := Lib.hid (HB4.out.trans (hb.mono HB4.out.size))
  clear hb HB4
  go_wp2_with fail
  refine (count_any A w5 (by omega) (HT.out.below HB5.out)).mono ?_
  rintro e w6 ⟨rfl, hb⟩
  rw [HCa.out]
  have HB6 := Lib.hid (HB5.out.trans (hb.mono HB5.out.size))
  clear hb HB5
  go_wp2_with fail
  refine (count_any B w6 (by omega) (HT.out.below HB6.out)).mono ?_
  rintro e w7 ⟨rfl, hb⟩
  rw [HCb.out]
  have HB7 := Lib.hid (HB6.out.trans (hb.mono HB6.out.size))
  clear hb HB6
  have hadd := fun W => run_string_add_sum (P := Tryd.prog) W A B (by omega)
  have hAB := HAB.out
  go_wp2_with fail
  refine (valid_any A w7 (by omega) (HT.out.below HB7.out)).mono ?_
  rintro e w8 ⟨rfl, hb⟩
  rw [HTa.out]
  have HB8 := Lib.hid (HB7.out.trans (hb.mono HB7.out.size))
  clear hb HB7
  go_wp2_with fail
  refine (valid_any B w8 (by omega) (HT.out.below HB8.out)).mono ?_
  rintro e w9 ⟨rfl, hb⟩
  rw [HTb.out]
  have HB9 := Lib.hid (HB8.out.trans (hb.mono HB8.out.size))
  clear hb HB8 hAB hadd
  by_cases hq0 : q = 0
  · subst hq0
    go_wp2
    go_ret
    exact ⟨rfl, HB9.out⟩
  · have bq : ((q : Int) == 0) = false := beq_eq_false_iff_ne.2 (by omega)
    have HPc := Lib.hid (show partV s (-(q : Int)) (cs.length : Int) = .tuple #[.string ⟨(((cs.drop (cs.length - q)).take q).flatMap encL).toArray⟩, .int .i64 0] from
      part_at Hc.out (f := cs.length - q) (m := q) (.inr (by omega)) (by omega) (by omega) (by omega))
    have HPd := Lib.hid (show partV s ((cs.length : Int) - (q : Int) + 1) (cs.length : Int) = .tuple #[.string ⟨(((cs.drop (cs.length - q)).take q).flatMap encL).toArray⟩, .int .i64 0] from
      part_at Hc.out (f := cs.length - q) (m := q) (.inl (by omega)) (by omega) (by omega) (by omega))
    generalize (⟨(((cs.drop (cs.length - q)).take q).flatMap encL).toArray⟩ : ByteArray) = D at HPc HPd
    clear hq0
    go_wp2_with fail
    refine (part_any s (-(q : Int)) cs.length w9 hs (HT.out.below HB9.out) (by omega) (by omega)).mono ?_
    rintro e w10 ⟨rfl, hb⟩
    rw [HPc.out]
    have HB10 := Lib.hid (HB9.out.trans (hb.mono HB9.out.size))
    clear hb HB9
    go_wp2_with fail
    refine (part_any s ((cs.length : Int) - (q : Int) + 1) cs.length w10 hs (HT.out.below HB10.out) (by omega) (by omega)).mono ?_
    rintro e w11 ⟨rfl, hb⟩
    rw [HPd.out]
    have HB11 := Lib.hid (HB10.out.trans (hb.mono HB10.out.size))
    clear hb HB10
    go_wp2
    go_ret
    exact ⟨rfl, HB11.out⟩

set_option maxHeartbeats 2000000 in
/-- The empty text. -/
theorem cuts_empty (x : Int) (w : World) (hT : U8 w) (hx : -9223372036854775808 ≤ x ∧ x ≤ 9223372036854775807) :
    Calls Tryd.prog 4 #[.string ⟨#[]⟩, .int .i64 x] w fun e w' => e = .returned (.bool true) ∧ Below w.heap.size w w' := by
  have HT := Lib.hid hT
  have h : chars (⟨#[]⟩ : ByteArray).data.toList = some [] := rfl
  have HX := Lib.hid (text_of_some h)
  have HCV := Lib.hid (countV_some h)
  obtain ⟨q, hq, hqL⟩ := cut_mod x 0 (by omega)
  obtain rfl : q = 0 := by omega
  have HPa := Lib.hid (show partV ⟨#[]⟩ 1 0 = .tuple #[.string ⟨#[]⟩, .int .i64 0] from part_at h (f := 0) (m := 0) (.inl (by omega)) (by omega) (by simp) (by simp))
  have Hq := Lib.hid hq
  clear hT h hq
  go_enter Tryd.func4, Tryd.ntmps4
  go_wp2_with fail
  refine (known_any _ HT.out).mono ?_
  rintro e w1 ⟨rfl, hb⟩
  have HB := Lib.hid hb
  clear hb
  go_wp2_with fail
  refine (count_any ⟨#[]⟩ w1 (by decide) (HT.out.below HB.out)).mono ?_
  rintro e w2 ⟨rfl, hb⟩
  rw [HCV.out]
  have HB2 := Lib.hid (HB.out.trans (hb.mono HB.out.size))
  clear hb HB
  go_wp2_with fail
  refine (valid_any ⟨#[]⟩ w2 (by decide) (HT.out.below HB2.out)).mono ?_
  rintro e w3 ⟨rfl, hb⟩
  rw [HX.out]
  have HB3 := Lib.hid (HB2.out.trans (hb.mono HB2.out.size))
  clear hb HB2
  go_wp2_with fail
  refine (part_any ⟨#[]⟩ 1 0 w3 (by decide) (HT.out.below HB3.out) (by omega) (by omega)).mono ?_
  rintro e w4 ⟨rfl, hb⟩
  rw [HPa.out]
  have HB4 := Lib.hid (HB3.out.trans (hb.mono HB3.out.size))
  clear hb HB3
  go_wp2_with fail
  refine (part_any ⟨#[]⟩ 1 0 w4 (by decide) (HT.out.below HB4.out) (by omega) (by omega)).mono ?_
  rintro e w5 ⟨rfl, hb⟩
  rw [HPa.out]
  have HB5 := Lib.hid (HB4.out.trans (hb.mono HB4.out.size))
  clear hb HB4
  go_wp2_with fail
  refine (count_any ⟨#[]⟩ w5 (by decide) (HT.out.below HB5.out)).mono ?_
  rintro e w6 ⟨rfl, hb⟩
  rw [HCV.out]
  have HB6 := Lib.hid (HB5.out.trans (hb.mono HB5.out.size))
  clear hb HB5
  go_wp2_with fail
  refine (count_any ⟨#[]⟩ w6 (by decide) (HT.out.below HB6.out)).mono ?_
  rintro e w7 ⟨rfl, hb⟩
  rw [HCV.out]
  have HB7 := Lib.hid (HB6.out.trans (hb.mono HB6.out.size))
  clear hb HB6
  have hadd := fun W => run_string_add_sum (P := Tryd.prog) W ⟨#[]⟩ ⟨#[]⟩ (by decide)
  have hAB : (⟨#[]⟩ : ByteArray) ++ ⟨#[]⟩ = ⟨#[]⟩ := rfl
  go_wp2_with fail
  refine (valid_any ⟨#[]⟩ w7 (by decide) (HT.out.below HB7.out)).mono ?_
  rintro e w8 ⟨rfl, hb⟩
  rw [HX.out]
  have HB8 := Lib.hid (HB7.out.trans (hb.mono HB7.out.size))
  clear hb HB7 hadd hAB
  go_wp2_with fail
  refine (valid_any ⟨#[]⟩ w8 (by decide) (HT.out.below HB8.out)).mono ?_
  rintro e w9 ⟨rfl, hb⟩
  rw [HX.out]
  have HB9 := Lib.hid (HB8.out.trans (hb.mono HB8.out.size))
  clear hb HB8
  go_wp2
  go_ret
  exact ⟨rfl, HB9.out⟩

theorem charsCuts_walk (s : ByteArray) (x : Int) (w : World) (hT : U8 w) (hs : s.size ≤ 1099511627776) (hx : -9223372036854775808 ≤ x ∧ x ≤ 9223372036854775807) :
    Calls Tryd.prog 4 #[.string s, .int .i64 x] w fun e w' => e = .returned (.bool true) ∧ Below w.heap.size w w' := by
  cases hc : chars s.data.toList with
  | none => exact cuts_no s x w hT hs (text_of_none hc)
  | some cs =>
    by_cases h0 : 0 < cs.length
    · exact cuts_yes s x w hT hs hx hc h0
    · have hcs : cs = [] := List.eq_nil_of_length_eq_zero (by omega)
      subst hcs
      have h1 := (chars_len hc).1
      obtain rfl : s = ⟨#[]⟩ := ba_eq h1
      exact cuts_empty x w hT hx
end Go.Proofs.YtamimkekjcjcjaaDoor
