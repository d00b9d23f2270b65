/- What a reference between & and ; stands for: meant. (short) -/
import Derived.Test.YtfnodoepeiknhaaGreatDoorMeantH
import Derived.Test.YtfnodoepeiknhaaGreatDoorMeantD
namespace Go.Proofs.YtfnodoepeiknhaaGreatDoor
open Go.RowKit
set_option linter.unusedVariables false
set_option linter.unusedSimpArgs false
set_option maxRecDepth 100000

set_option maxHeartbeats 16000000 in
theorem meant_any (s : ByteArray) (w : World) (hs : s.size ≤ 1099511627776) (hE : ErrsAt w) :
    Calls Tryz.prog 32 #[.string s] w fun e w' => e = .returned (meanV s) ∧ Below w.heap.size w w' := by
  by_cases h1 : s.data.toList = [108, 116]
  · obtain rfl : s = ⟨#[108, 116]⟩ := ba_eq h1
    as_aux_lemma =>
    have HV := Lib.hid (meanV_some (s := ⟨#[108, 116]⟩) (b := [60]) (by decide))
    go_enter Tryz.func32, Tryz.ntmps32
    go_wp2_with fail
    go_ret2
    exact ⟨congrArg Ending.returned HV.out.symm, Below.refl _ _⟩
  by_cases h2 : s.data.toList = [103, 116]
  · obtain rfl : s = ⟨#[103, 116]⟩ := ba_eq h2
    as_aux_lemma =>
    have HV := Lib.hid (meanV_some (s := ⟨#[103, 116]⟩) (b := [62]) (by decide))
    go_enter Tryz.func32, Tryz.ntmps32
    go_wp2_with fail
    go_ret2
    exact ⟨congrArg Ending.returned HV.out.symm, Below.refl _ _⟩
  by_cases h3 : s.data.toList = [97, 109, 112]
  · obtain rfl : s = ⟨#[97, 109, 112]⟩ := ba_eq h3
    as_aux_lemma =>
    have HV := Lib.hid (meanV_some (s := ⟨#[97, 109, 112]⟩) (b := [38]) (by decide))
    go_enter Tryz.func32, Tryz.ntmps32
    go_wp2_with fail
    go_ret2
    exact ⟨congrArg Ending.returned HV.out.symm, Below.refl _ _⟩
  by_cases h4 : s.data.toList = [113, 117, 111, 116]
  · obtain rfl : s = ⟨#[113, 117, 111, 116]⟩ := ba_eq h4
    as_aux_lemma =>
    have HV := Lib.hid (meanV_some (s := ⟨#[113, 117, 111, 116]⟩) (b := [34]) (by decide))
    go_enter Tryz.func32, Tryz.ntmps32
    go_wp2_with fail
    go_ret2
    exact ⟨congrArg Ending.returned HV.out.symm, Below.refl _ _⟩
  by_cases h5 : s.data.toList = [97, 112, 111, 115]
  · obtain rfl : s = ⟨#[97, 112, 111, 115]⟩ := ba_eq h5
    as_aux_lemma =>
    have HV := Lib.hid (meanV_some (s := ⟨#[97, 112, 111, 115]⟩) (b := [39]) (by decide))
    go_enter Tryz.func32, Tryz.ntmps32
    go_wp2_with fail
    go_ret2
    exact ⟨congrArg Ending.returned HV.out.symm, Below.refl _ _⟩
  have q1 := eq_false_of h1
  have q2 := eq_false_of h2
  have q3 := eq_false_of h3
  have q4 := eq_false_of h4
  have q5 := eq_false_of h5
  have HP := Lib.hid (fun W => Tryz.strings_CutPrefix s ⟨#[35]⟩ W)
  have hp := pre_one s 35
  by_cases hh : s.data.toList.head? = some 35
  · obtain ⟨D, hD⟩ : ∃ D : ByteArray, (⟨(s.data.toList.drop 1).toArray⟩ : ByteArray) = D := ⟨_, rfl⟩
    have hDl : D.data.toList = s.data.toList.drop 1 := by rw [← hD]
    have hM : meanL s.data.toList = if D.data.toList.head? = some 120 then numL 16 (D.data.toList.drop 1) else numL 10 D.data.toList := by
      unfold meanL
      rw [if_neg h1, if_neg h2, if_neg h3, if_neg h4, if_neg h5, if_pos hh, hDl, List.drop_drop]
      have : (s.data.toList.drop 1).head? = s.data.toList[1]? := by rw [List.head?_drop]
      rw [this]
    have hp2 : ∀ W, Calls Tryz.prog 55 #[.string s, .string ⟨#[35]⟩] W fun e w' => e = .returned (.tuple #[.string D, .bool true]) ∧ w' = W := fun W => by
      have := HP.out W
      rw [show (⟨#[35]⟩ : ByteArray).data.toList = [35] from rfl, hp.1, decide_eq_true hh, hp.2 hh, hD] at this
      exact this
    have hDs : D.size ≤ s.size := by rw [← size_list, hDl, List.length_drop, size_list]; omega
    have HP2 := Lib.hid hp2
    clear hp2 hp HP h1 h2 h3 h4 h5 hh hD hDl
    have HX := Lib.hid (fun W => Tryz.strings_CutPrefix D ⟨#[120]⟩ W)
    have hx := pre_one D 120
    by_cases hd : D.data.toList.head? = some 120
    · obtain ⟨X, hX⟩ : ∃ X : ByteArray, (⟨(D.data.toList.drop 1).toArray⟩ : ByteArray) = X := ⟨_, rfl⟩
      have hXl : X.data.toList = D.data.toList.drop 1 := by rw [← hX]
      rw [if_pos hd, ← hXl] at hM
      have hx2 : ∀ W, Calls Tryz.prog 55 #[.string D, .string ⟨#[120]⟩] W fun e w' => e = .returned (.tuple #[.string X, .bool true]) ∧ w' = W := fun W => by
        have := HX.out W
        rw [show (⟨#[120]⟩ : ByteArray).data.toList = [120] from rfl, hx.1, decide_eq_true hd, hx.2 hd, hX] at this
        exact this
      have hXs : X.size ≤ s.size := by have := size_list X; rw [hXl, List.length_drop, size_list] at this; omega
      have HX2 := Lib.hid hx2
      clear hx2 hx HX hd hX hXl
      exact meant16 s D X w hs hE q1 q2 q3 q4 q5 hDs hXs HP2 HX2 hM
    · rw [if_neg hd] at hM
      have hx2 : ∀ W, Calls Tryz.prog 55 #[.string D, .string ⟨#[120]⟩] W fun e w' => (∃ Y, e = .returned (.tuple #[.string Y, .bool false])) ∧ w' = W := fun W => by
        have := HX.out W
        rw [show (⟨#[120]⟩ : ByteArray).data.toList = [120] from rfl, hx.1, decide_eq_false hd] at this
        exact this.mono fun e w' ⟨h1, h2⟩ => ⟨⟨_, h1⟩, h2⟩
      have HX2 := Lib.hid hx2
      clear hx2 hx HX hd
      exact meant10 s D w hs hE q1 q2 q3 q4 q5 hDs HP2 HX2 hM
  · have hM : meanL s.data.toList = none := by
      unfold meanL
      rw [if_neg h1, if_neg h2, if_neg h3, if_neg h4, if_neg h5, if_neg hh]
    have HV := Lib.hid (meanV_none hM)
    have hp2 : ∀ W, Calls Tryz.prog 55 #[.string s, .string ⟨#[35]⟩] W fun e w' => (∃ Y, e = .returned (.tuple #[.string Y, .bool false])) ∧ w' = W := fun W => by
      have := HP.out W
      rw [show (⟨#[35]⟩ : ByteArray).data.toList = [35] from rfl, hp.1, decide_eq_false hh] at this
      exact this.mono fun e w' ⟨h1, h2⟩ => ⟨⟨_, h1⟩, h2⟩
    have HP2 := Lib.hid hp2
    clear hp2 hp HP h1 h2 h3 h4 h5 hh hM
    as_aux_lemma =>
    go_enter Tryz.func32, Tryz.ntmps32
    go_wp2_with (first | (go_at_call 55; (with_reducible refine (HP2.out _).mono ?_); rintro e w2 ⟨⟨Y, rfl⟩, rfl⟩))
    go_ret2
    exact ⟨congrArg Ending.returned HV.out.symm, Below.refl _ _⟩
end Go.Proofs.YtfnodoepeiknhaaGreatDoor
