/- meant, a reference in hexadecimal digits. (short) -/
import Derived.Test.YtfnodoepeiknhaaGreatDoorMeantA
namespace Go.Proofs.YtfnodoepeiknhaaGreatDoor
open Go.RowKit
set_option linter.unusedVariables false
set_option linter.unusedSimpArgs false
set_option maxRecDepth 100000

set_option maxHeartbeats 16000000 in
theorem meant16 (s D X : ByteArray) (w : World) (hs : s.size ≤ 1099511627776) (hE : ErrsAt w) (q1 : (s.toList == [108, 116]) = false) (q2 : (s.toList == [103, 116]) = false) (q3 : (s.toList == [97, 109, 112]) = false) (q4 : (s.toList == [113, 117, 111, 116]) = false) (q5 : (s.toList == [97, 112, 111, 115]) = false) (hDs : D.size ≤ s.size) (hXs : X.size ≤ s.size)
    (HP2 : Hid (∀ W, Calls Tryz.prog 55 #[.string s, .string ⟨#[35]⟩] W fun e w' => e = .returned (.tuple #[.string D, .bool true]) ∧ w' = W))
    (HX2 : Hid (∀ W, Calls Tryz.prog 55 #[.string D, .string ⟨#[120]⟩] W fun e w' => e = .returned (.tuple #[.string X, .bool true]) ∧ w' = W))
    (hM : meanL s.data.toList = numL 16 X.data.toList) :
    Calls Tryz.prog 32 #[.string s] w fun e w' => e = .returned (meanV s) ∧ Below w.heap.size w w' := by
  by_cases hX0 : X.size = 0
  · as_aux_lemma =>
    have q0 : (X.toList == []) = true := by rw [isE]; exact decide_eq_true hX0
    have HV := Lib.hid (meanV_none (hM.trans (by
      have : X.data.toList = [] := List.eq_nil_of_length_eq_zero (by rw [size_list]; exact hX0)
      rw [this]; rfl)))
    clear hX0 hM
    go_enter Tryz.func32, Tryz.ntmps32
    go_wp2_with (first | (go_at_call 55; (with_reducible refine (HP2.out _).mono ?_); rintro e w2 ⟨rfl, rfl⟩) | (go_at_call 55; (with_reducible refine (HX2.out _).mono ?_); rintro e w2 ⟨rfl, rfl⟩))
    go_ret2
    exact ⟨congrArg Ending.returned HV.out.symm, Below.refl _ _⟩
  · have q0 : (X.toList == []) = false := by rw [isE]; exact decide_eq_false hX0
    obtain ⟨T, hT⟩ : ∃ T : ByteArray, (⟨(Lib.trimS X.data.toList hexS).toArray⟩ : ByteArray) = T := ⟨_, rfl⟩
    have hTe : (T.toList == []) = digsB X.data.toList := by rw [← hT, Lib.toList_data]; exact trim_digs _
    have hTr : ∀ W, Calls Tryz.prog 56 #[.string X, .string ⟨#[48, 49, 50, 51, 52, 53, 54, 55, 56, 57, 97, 98, 99, 100, 101, 102, 65, 66, 67, 68, 69, 70]⟩] W fun e w' => e = .returned (.string T) ∧ Below W.heap.size W w' := fun W => by
      have := Any.strings_Trim_laid Tryz.lays160 (by kernel_rfl) X ⟨hexS.toArray⟩ W (by omega) (by decide) (ascii_of_all (by decide))
      rw [show (⟨hexS.toArray⟩ : ByteArray).data.toList = hexS from rfl, hT] at this
      exact this
    have HTr := Lib.hid hTr
    clear hTr
    clear hT
    cases hg : digsB X.data.toList with
    | false =>
      as_aux_lemma =>
      rw [hg] at hTe
      have HV := Lib.hid (meanV_none (hM.trans (digs_not hg 16)))
      clear hg hM hX0
      go_enter Tryz.func32, Tryz.ntmps32
      go_wp2_with (first | (go_at_call 55; (with_reducible refine (HP2.out _).mono ?_); rintro e w2 ⟨rfl, rfl⟩) | (go_at_call 55; (with_reducible refine (HX2.out _).mono ?_); rintro e w2 ⟨rfl, rfl⟩) | (go_at_call 56; (with_reducible refine (HTr.out _).mono ?_); rintro e w2 ⟨rfl, hb⟩))
      go_ret2
      exact ⟨congrArg Ending.returned HV.out.symm, hb⟩
    | true =>
      as_aux_lemma =>
      rw [hg] at hTe
      have HU := Lib.hid (fun W hE => par16 X W (by omega) hE (by omega) hg)
      have HE := Lib.hid hE
      have hne : X.data.toList ≠ [] := fun h => hX0 (by rw [← size_list, h]; rfl)
      clear hg hX0 hE
      go_enter Tryz.func32, Tryz.ntmps32
      go_wp2_with (first | (go_at_call 55; (with_reducible refine (HP2.out _).mono ?_); rintro e w2 ⟨rfl, rfl⟩) | (go_at_call 55; (with_reducible refine (HX2.out _).mono ?_); rintro e w2 ⟨rfl, rfl⟩) | (go_at_call 56; (with_reducible refine (HTr.out _).mono ?_); rintro e w2 ⟨rfl, hb⟩; have HB := Lib.hid hb; clear hb))
      refine (HU.out _ (HE.out.below HB.out)).mono ?_
      rintro e w4 ⟨⟨n, hv, rfl⟩ | ⟨hv, v, t, p, rfl⟩, hb⟩
      · by_cases hn : n ≤ 1114111
        · have HCh := Lib.hid (fun W => char_any (n : Int) W (by omega) (by omega))
          have hgt : decide ((n : Int) > 1114111) = false := decide_eq_false (by omega)
          cases hch : charB n with
          | true =>
            rw [hch] at HCh
            have HV := Lib.hid (meanV_some (hM.trans ((numL_some (by decide) hne hv).trans (by rw [hch]; rfl))))
            have HB2 := Lib.hid (HB.out.trans (hb.mono HB.out.size))
            have hen : (Utf8.encode (n : Int)) = ⟨(encL n).toArray⟩ := ba_eq rfl
            have HEn := Lib.hid hen
            clear hv hb hM hne hch hen
            go_wp2_with (first | (go_at_call 49; (with_reducible refine (HCh.out _).mono ?_); rintro e w5 ⟨rfl, rfl⟩))
            go_ret2
            exact ⟨by rw [HV.out, HEn.out]; rfl, HB2.out⟩
          | false =>
            rw [hch] at HCh
            have HV := Lib.hid (meanV_none (hM.trans ((numL_some (by decide) hne hv).trans (by rw [hch]; rfl))))
            have HB2 := Lib.hid (HB.out.trans (hb.mono HB.out.size))
            clear hv hb hM hne hch
            go_wp2_with (first | (go_at_call 49; (with_reducible refine (HCh.out _).mono ?_); rintro e w5 ⟨rfl, rfl⟩))
            go_ret2
            exact ⟨congrArg Ending.returned HV.out.symm, HB2.out⟩
        · have HV := Lib.hid (meanV_none (hM.trans ((numL_some (by decide) hne hv).trans (by rw [big_char (by omega)]; rfl))))
          have HB2 := Lib.hid (HB.out.trans (hb.mono HB.out.size))
          have hgt : decide ((n : Int) > 1114111) = true := decide_eq_true (by omega)
          clear hv hb hM hne
          go_wp2_with fail
          go_ret2
          exact ⟨congrArg Ending.returned HV.out.symm, HB2.out⟩
      · have HV := Lib.hid (meanV_none (hM.trans (numL_none (by decide) hv)))
        have HB2 := Lib.hid (HB.out.trans (hb.mono HB.out.size))
        clear hv hb hM hne
        go_wp2_with fail
        go_ret2
        exact ⟨congrArg Ending.returned HV.out.symm, HB2.out⟩
end Go.Proofs.YtfnodoepeiknhaaGreatDoor
