/- The walk over tarifflaw04.CharsEscapes. -/
import Derived.Test.YtfnodoepeiknhaaGreatDoorEscWalk
import Derived.Test.YtfnodoepeiknhaaGreatDoorEscRefE
namespace Go.Proofs.YtfnodoepeiknhaaGreatDoor
open Go.RowKit
set_option linter.unusedVariables false
set_option maxRecDepth 100000

theorem chars_parts {s : ByteArray} {cs : List Nat} (h : chars s.data.toList = some cs) : s.data.toList = cs.flatMap encL ∧ (∀ c ∈ cs, charB c = true) ∧ cs.length ≤ s.size := by
  obtain ⟨h1, h2⟩ := chars_bytes _ _ cs (Nat.le_refl _) h
  refine ⟨h1, h2, ?_⟩
  rw [← size_list s, h1]
  clear h h1
  induction cs with
  | nil => simp
  | cons c cs ih =>
    have := (encL_len (charB_lt (h2 c (by simp)))).1
    have := ih (fun c hc => h2 c (by simp [hc]))
    rw [List.flatMap_cons, List.length_append, List.length_cons]
    omega
theorem unescV_shape (at_ : Bool) (s : ByteArray) : ∃ a b, unescV at_ s = .tuple #[.string a, .int .i64 b] := by
  unfold unescV
  split
  · exact ⟨_, _, rfl⟩
  · split <;> exact ⟨_, _, rfl⟩
/-- What was escaped is read back. -/
theorem escape_back {at_ : Bool} {s : ByteArray} {cs : List Nat} (h : chars s.data.toList = some cs) : unescV at_ ⟨(escT at_ s.data.toList).toArray⟩ = .tuple #[.string s, .int .i64 0] := by
  obtain ⟨h1, h2, _⟩ := chars_parts h
  obtain ⟨ds, hd⟩ := escT_text at_ h1 h2
  have h3 := unescV_ok (at_ := at_) (s := ⟨(escT at_ s.data.toList).toArray⟩) (cs := ds) (r := s.data.toList) (by show chars ((escT at_ s.data.toList).toArray.toList) = _; rw [List.toList_toArray]; exact hd) (by show unes (plainL at_ ((escT at_ s.data.toList).toArray.toList)) = _; rw [List.toList_toArray]; exact esc_back at_ _)
  rw [h3]

set_option maxHeartbeats 4000000 in
theorem charsEscapes_walk (s t : ByteArray) (at_ : Bool) (w : World) (hT : U8 w) (hE : ErrsAt w) (hs : s.size ≤ 1048576) (ht : t.size ≤ 1048576) :
    Calls Tryz.prog 3 #[.string s, .string t, .bool at_] w fun e w' => e = .returned (.bool true) ∧ Below w.heap.size w w' := by
  have HT := Lib.hid hT
  have HE := Lib.hid hE
  obtain ⟨ta, tb, htv⟩ := unescV_shape at_ t
  have HTV := Lib.hid htv
  clear hT htv hE
  cases hc : chars s.data.toList with
  | none =>
    have HQ := Lib.hid (escV_none (at_ := at_) hc)
    clear hc
    go_enter Tryz.func3, Tryz.ntmps3
    go_wp2_with fail
    refine (known_any _ HT.out).mono ?_
    rintro e w1 ⟨rfl, hb⟩
    have HB := Lib.hid hb
    clear hb
    go_wp2_with fail
    refine (rescape_any s at_ w1 (by omega)).mono ?_
    rintro e w2 ⟨rfl, hb⟩
    rw [HQ.out]
    have HB2 := Lib.hid (HB.out.trans (hb.mono HB.out.size))
    clear hb HB
    go_wp2_with fail
    refine (escape_any s at_ w2 (HT.out.below HB2.out) (by omega)).mono ?_
    rintro e w3 ⟨rfl, hb⟩
    rw [HQ.out]
    have HB3 := Lib.hid (HB2.out.trans (hb.mono HB2.out.size))
    clear hb HB2
    go_wp2_with fail
    refine (runescape_any t at_ w3 (by omega)).mono ?_
    rintro e w4 ⟨rfl, hb⟩
    rw [HTV.out]
    have HB4 := Lib.hid (HB3.out.trans (hb.mono HB3.out.size))
    clear hb HB3
    go_wp2_with fail
    refine (unescape_any t at_ w4 (HT.out.below HB4.out) (HE.out.below HB4.out) (by omega)).mono ?_
    rintro e w5 ⟨rfl, hb⟩
    rw [HTV.out]
    have HB5 := Lib.hid (HB4.out.trans (hb.mono HB4.out.size))
    clear hb HB4
    go_wp2
    go_ret
    exact ⟨rfl, HB5.out⟩
  | some cs =>
    have HQ := Lib.hid (escV_some (at_ := at_) hc)
    have HBack := Lib.hid (escape_back (at_ := at_) hc)
    obtain ⟨q, hq⟩ : ∃ q : ByteArray, q = ⟨(escT at_ s.data.toList).toArray⟩ := ⟨_, rfl⟩
    have hqs : q.size ≤ 1073741824 := by
      rw [hq, mk_size]
      have := escT_len at_ s.data.toList
      rw [size_list] at this
      omega
    rw [← hq] at HQ HBack
    clear hc hq
    go_enter Tryz.func3, Tryz.ntmps3
    go_wp2_with fail
    refine (known_any _ HT.out).mono ?_
    rintro e w1 ⟨rfl, hb⟩
    have HB := Lib.hid hb
    clear hb
    go_wp2_with fail
    refine (rescape_any s at_ w1 (by omega)).mono ?_
    rintro e w2 ⟨rfl, hb⟩
    rw [HQ.out]
    have HB2 := Lib.hid (HB.out.trans (hb.mono HB.out.size))
    clear hb HB
    go_wp2_with fail
    refine (escape_any s at_ w2 (HT.out.below HB2.out) (by omega)).mono ?_
    rintro e w3 ⟨rfl, hb⟩
    rw [HQ.out]
    have HB3 := Lib.hid (HB2.out.trans (hb.mono HB2.out.size))
    clear hb HB2
    go_wp2_with fail
    refine (unescape_any q at_ w3 (HT.out.below HB3.out) (HE.out.below HB3.out) hqs).mono ?_
    rintro e w4 ⟨rfl, hb⟩
    rw [HBack.out]
    have HB4 := Lib.hid (HB3.out.trans (hb.mono HB3.out.size))
    clear hb HB3
    go_wp2_with fail
    refine (runescape_any t at_ w4 (by omega)).mono ?_
    rintro e w5 ⟨rfl, hb⟩
    rw [HTV.out]
    have HB5 := Lib.hid (HB4.out.trans (hb.mono HB4.out.size))
    clear hb HB4
    go_wp2_with fail
    refine (unescape_any t at_ w5 (HT.out.below HB5.out) (HE.out.below HB5.out) (by omega)).mono ?_
    rintro e w6 ⟨rfl, hb⟩
    rw [HTV.out]
    have HB6 := Lib.hid (HB5.out.trans (hb.mono HB5.out.size))
    clear hb HB5
    go_wp2
    go_ret
    exact ⟨rfl, HB6.out⟩
end Go.Proofs.YtfnodoepeiknhaaGreatDoor
