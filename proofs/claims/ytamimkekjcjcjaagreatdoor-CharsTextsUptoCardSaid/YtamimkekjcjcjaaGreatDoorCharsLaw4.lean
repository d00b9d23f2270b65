/- The walk over tarifflaw04.CharsTexts. -/
import Derived.Test.YtamimkekjcjcjaaGreatDoorCharsKnown
import Derived.Test.YtamimkekjcjcjaaGreatDoorCharsWalk4
namespace Go.Proofs.YtamimkekjcjcjaaGreatDoor
open Go.RowKit
set_option linter.unusedVariables false
set_option maxRecDepth 100000

theorem countV_shape (s : ByteArray) : ∃ a b, countV s = .tuple #[.int .i64 a, .int .i64 b] := by unfold countV; split <;> exact ⟨_, _, rfl⟩
theorem partV_shape (s : ByteArray) (x y : Int) : ∃ a b, partV s x y = .tuple #[.string a, .int .i64 b] := by
  unfold partV
  split
  · exact ⟨_, _, rfl⟩
  · split <;> exact ⟨_, _, rfl⟩
theorem caseV_shape (s : ByteArray) (f : UInt8 → UInt8) : ∃ a b, caseV s f = .tuple #[.string a, .int .i64 b] := by unfold caseV; split <;> exact ⟨_, _, rfl⟩

set_option maxHeartbeats 2000000 in
theorem charsTexts_walk (s : ByteArray) (x y : Int) (w : World) (hT : U8 w) (hs : s.size ≤ 1099511627776) (hx : -9223372036854775808 ≤ x ∧ x ≤ 9223372036854775807) (hy : -9223372036854775808 ≤ y ∧ y ≤ 9223372036854775807) :
    Calls Tryz.prog 3 #[.string s, .int .i64 x, .int .i64 y] w fun e w' => e = .returned (.bool true) ∧ Below w.heap.size w w' := by
  have HT := Lib.hid hT
  have HX := Lib.hid hx
  have HY := Lib.hid hy
  obtain ⟨ca, cb, hcv⟩ := countV_shape s
  obtain ⟨pa, pb, hpv⟩ := partV_shape s x y
  obtain ⟨ua, ub, huv⟩ := caseV_shape s upB
  obtain ⟨la, lb, hlv⟩ := caseV_shape s lowB
  have HCV := Lib.hid hcv
  have HPV := Lib.hid hpv
  have HUV := Lib.hid huv
  have HLV := Lib.hid hlv
  clear hT hx hy hcv hpv huv hlv
  obtain ⟨tb, htb⟩ : ∃ tb, textB s = tb := ⟨_, rfl⟩
  have HTB := Lib.hid htb
  clear htb
  go_enter Tryz.func3, Tryz.ntmps3
  go_wp2_with fail
  refine (known_any _ HT.out).mono ?_
  rintro e w1 ⟨rfl, hb⟩
  have HB := Lib.hid hb
  clear hb
  go_wp2_with fail
  refine (valid_any s w1 (by omega) (HT.out.below HB.out)).mono ?_
  rintro e w2 ⟨rfl, hb⟩
  rw [HTB.out]
  have HB2 := Lib.hid (HB.out.trans (hb.mono HB.out.size))
  clear hb HB
  go_wp2_with fail
  refine (rValid_any s w2 hs).mono ?_
  rintro e w3 ⟨rfl, hb⟩
  rw [HTB.out]
  have HB3 := Lib.hid (HB2.out.trans (hb.mono HB2.out.size))
  clear hb HB2
  go_wp2_with fail
  refine (rcount_any s w3 hs).mono ?_
  rintro e w4 ⟨rfl, hb⟩
  rw [HCV.out]
  have HB4 := Lib.hid (HB3.out.trans (hb.mono HB3.out.size))
  clear hb HB3
  go_wp2_with fail
  refine (count_any s w4 hs (HT.out.below HB4.out)).mono ?_
  rintro e w5 ⟨rfl, hb⟩
  rw [HCV.out]
  have HB5 := Lib.hid (HB4.out.trans (hb.mono HB4.out.size))
  clear hb HB4
  go_wp2_with fail
  refine (rpart_any s x y w5 hs HX.out HY.out).mono ?_
  rintro e w6 ⟨rfl, hb⟩
  rw [HPV.out]
  have HB6 := Lib.hid (HB5.out.trans (hb.mono HB5.out.size))
  clear hb HB5
  go_wp2_with fail
  refine (part_any s x y w6 hs (HT.out.below HB6.out) HX.out HY.out).mono ?_
  rintro e w7 ⟨rfl, hb⟩
  rw [HPV.out]
  have HB7 := Lib.hid (HB6.out.trans (hb.mono HB6.out.size))
  clear hb HB6
  go_wp2_with fail
  refine (rupper_any s w7 hs).mono ?_
  rintro e w8 ⟨rfl, hb⟩
  rw [HUV.out]
  have HB8 := Lib.hid (HB7.out.trans (hb.mono HB7.out.size))
  clear hb HB7
  go_wp2_with fail
  refine (upper_any s w8 hs (HT.out.below HB8.out)).mono ?_
  rintro e w9 ⟨rfl, hb⟩
  rw [HUV.out]
  have HB9 := Lib.hid (HB8.out.trans (hb.mono HB8.out.size))
  clear hb HB8
  go_wp2_with fail
  refine (rlower_any s w9 hs).mono ?_
  rintro e w10 ⟨rfl, hb⟩
  rw [HLV.out]
  have HB10 := Lib.hid (HB9.out.trans (hb.mono HB9.out.size))
  clear hb HB9
  go_wp2_with fail
  refine (lower_any s w10 hs (HT.out.below HB10.out)).mono ?_
  rintro e w11 ⟨rfl, hb⟩
  rw [HLV.out]
  have HB11 := Lib.hid (HB10.out.trans (hb.mono HB10.out.size))
  clear hb HB10
  go_wp2
  go_ret
  exact ⟨rfl, HB11.out⟩
end Go.Proofs.YtamimkekjcjcjaaGreatDoor
