/- The reference's DocUnescape. (short) -/
import Derived.Test.YtfnodoepeiknhaaGreatDoorEscRefD
import Derived.Test.YtfnodoepeiknhaaGreatDoorUnesc
namespace Go.Proofs.YtfnodoepeiknhaaGreatDoor
open Go.RowKit
set_option linter.unusedVariables false
set_option linter.unusedSimpArgs false
set_option maxRecDepth 100000

theorem bC_one (l : List UInt8) : ∀ u ∈ bC l, u.oneCell' = true := by
  intro u hu
  obtain ⟨b, _, rfl⟩ := List.mem_map.1 hu
  rfl
theorem scan_amp {pre t : List UInt8} (h : ∀ x ∈ pre, x ≠ 59 ∧ x ≠ 38) : unes (38 :: (pre ++ 38 :: t)) = none := by
  cases hc : cutL 59 (pre ++ 38 :: t) with
  | none => exact unes_open hc
  | some p =>
    obtain ⟨m, t'⟩ := p
    rw [unes_amp hc]
    cases hv : meanL m with
    | none => rfl
    | some v =>
      exfalso
      obtain ⟨e, h59⟩ := cutL_some hc
      have hm := (mean_has hv).2.2
      rcases List.append_eq_append_iff.1 e with ⟨a, h1, h2⟩ | ⟨c, h1, h2⟩
      · cases a with
        | nil => simp at h2
        | cons x a =>
          have : x = 38 := by simpa using (List.cons.inj h2).1.symm
          subst this
          exact hm (by rw [h1]; simp)
      · cases c with
        | nil => simp at h2
        | cons x c =>
          have : x = 59 := by simpa using (List.cons.inj h2).1.symm
          subst this
          exact (h 59 (by rw [h1]; simp)).1 rfl
theorem scan_no {pre : List UInt8} (h : ∀ x ∈ pre, x ≠ 59 ∧ x ≠ 38) : cutL 59 pre = none := cutL_not fun hm => (h 59 hm).1 rfl
theorem scan_semi {pre t : List UInt8} (h : ∀ x ∈ pre, x ≠ 59 ∧ x ≠ 38) : cutL 59 (pre ++ 59 :: t) = some (pre, t) := cutL_of fun hm => (h 59 hm).1 rfl

set_option maxHeartbeats 16000000 in
theorem runescape_any (s : ByteArray) (at_ : Bool) (w : World) (hs : s.size ≤ 1073741824) :
    Calls Tryz.prog 11 #[.string s, .bool at_] w fun e w' => e = .returned (unescV at_ s) ∧ Below w.heap.size w w' := by
  have HC := Lib.hid (rValid_any s w (by omega))
  cases hc : chars s.data.toList with
  | none =>
    have HT := Lib.hid (text_of_none hc)
    have HV := Lib.hid (unescV_no (at_ := at_) hc)
    clear hc
    go_enter Tryz.func11, Tryz.ntmps11
    go_wp2_with fail
    refine HC.out.mono ?_
    rintro e w1 ⟨rfl, hb⟩
    rw [HT.out]
    go_wp2_with fail
    go_ret2
    exact ⟨(congrArg Ending.returned HV.out).symm, hb⟩
  | some cs =>
    have HT := Lib.hid (text_of_some hc)
    have HBad := Lib.hid (unescV_bad (at_ := at_) hc)
    have HOk := Lib.hid (fun r => unescV_ok (at_ := at_) (r := r) hc)
    obtain ⟨P, hP⟩ : ∃ P : ByteArray, (⟨(plainL at_ s.data.toList).toArray⟩ : ByteArray) = P := ⟨_, rfl⟩
    have hPl : P.data.toList = plainL at_ s.data.toList := by rw [← hP]
    have hps : P.size ≤ 1073741824 := by have h1 := plainL_len at_ s.data.toList; rw [← hPl, size_list, size_list] at h1; omega
    have HPn := Lib.hid (fun W => by have := rplain_any s at_ W (by omega); rw [hP] at this; exact this)
    rw [← hPl] at HBad HOk
    clear hc hP hPl hs
    go_enter Tryz.func11, Tryz.ntmps11
    go_wp2_with fail
    refine HC.out.mono ?_
    rintro e w0 ⟨rfl, hb⟩
    rw [HT.out]
    have HB0 := Lib.hid hb
    clear hb HC HT
    go_wp2_with fail
    refine (HPn.out _).mono ?_
    rintro e w1 ⟨rfl, hb⟩
    have HB1 := Lib.hid (HB0.out.trans (hb.mono HB0.out.size))
    have HM := Lib.hid ((Mem.start w1).row0 5 1)
    clear hb HB0 HPn
    go_wp2_with fail
    go_loopw [6, 7, 8] (fun ov iv _ wr => ∃ (k : Nat) (o : List UInt8) (p : Option Addr) (cap : Nat), ov = .slice p o.length cap ∧ iv = .int .i64 k ∧ k ≤ P.size ∧ o.length ≤ k ∧ Hid (unes P.data.toList = (unes (P.data.toList.drop k)).map (o ++ ·)) ∧ Hid (Mem w1 wr [.row p cap 5 1 o.length (bC o)])) (fun _ iv _ _ => P.size - (intOf iv).toNat)
    case atStart => exact ⟨0, [], none, 0, rfl, rfl, by omega, by simp, Lib.hid (by simp), HM⟩
    case round =>
      clear HM
      obtain ⟨k, o, p, cap, rfl, rfl, hk, hol, HU, HM⟩ := hrel
      by_cases hlt : k < P.size
      · have HAt := Lib.hid (at_byte3 hlt)
        have hdr : P.data.toList.drop k = P[k] :: P.data.toList.drop (k + 1) := by rw [List.drop_eq_getElem_cons (by simpa using hlt)]; rfl
        have hU := HU.out
        rw [hdr] at hU
        clear hdr HU
        generalize P[k] = c at *
        by_cases h60 : c = 60
        · subst h60
          as_aux_lemma =>
          have HV := Lib.hid (HBad.out (by rw [hU, unes_lt]; rfl))
          clear hU
          go_wp2_with (first | ((with_reducible refine iat 25 ?_); (refine six rfl rfl rfl HAt.out ?_)))
          go_ret2
          exact ⟨congrArg Ending.returned HV.out.symm, HB1.out.trans (HM.out.below.mono HB1.out.size)⟩
        · have q60 : ((c.toNat : Int) == 60) = false := ne13 h60
          by_cases h38 : c = 38
          · subst h38
            go_wp2_with (first | ((with_reducible refine iat 25 ?_); (refine six rfl rfl rfl HAt.out ?_)) | ((with_reducible refine iat 29 ?_); (refine six rfl rfl rfl HAt.out ?_)))
            go_loopw [8] (fun jv wr => ∃ (j : Nat) (pre : List UInt8), jv = .int .i64 j ∧ k + 1 ≤ j ∧ j ≤ P.size ∧ pre.length + (k + 1) = j ∧ Hid (P.data.toList.drop (k + 1) = pre ++ P.data.toList.drop j ∧ ∀ x ∈ pre, x ≠ 59 ∧ x ≠ 38) ∧ Hid (Mem w1 wr [.row p cap 5 1 o.length (bC o)])) (fun jv _ => P.size - (intOf jv).toNat)
            case atStart => exact ⟨k + 1, [], by go_num, by omega, by omega, by simp, Lib.hid ⟨by simp, by simp⟩, HM⟩
            case round =>
              clear HM
              obtain ⟨j, pre, rfl, hj1, hj2, hpl, HJ, HM⟩ := hrel
              obtain ⟨hdrop, hpre⟩ := HJ.out
              clear HJ
              by_cases hjl : j < P.size
              · have HAj := Lib.hid (at_byte3 hjl)
                have hdj : P.data.toList.drop j = P[j] :: P.data.toList.drop (j + 1) := by rw [List.drop_eq_getElem_cons (by simpa using hjl)]; rfl
                rw [hdj] at hdrop
                clear hdj
                generalize P[j] = x at *
                have g1 : decide ((j : Int) ≥ (P.size : Int)) = false := decide_eq_false (by omega)
                by_cases hx59 : x = 59
                · subst hx59
                  have hexl : (P.extract (k + 1) j).data.toList = pre := by
                    rw [Lib.extract_data, hdrop, show j - (k + 1) = pre.length by omega, List.take_left']
                    rfl
                  obtain ⟨R, hR⟩ : ∃ R, P.extract (k + 1) j = R := ⟨_, rfl⟩
                  rw [hR] at hexl
                  have hrs : R.size ≤ P.size := by rw [← size_list, hexl]; omega
                  have HR := Lib.hid hR
                  have HNm := Lib.hid (fun W => rnamed_any R W (by omega))
                  have hU2 := hU
                  rw [hdrop, unes_amp (scan_semi hpre)] at hU2
                  clear hU hdrop hR
                  as_aux_lemma =>
                  go_wp2_with (first | ((with_reducible refine iat 46 ?_); (refine six rfl rfl rfl HAj.out ?_)) | ((with_reducible refine iat 64 ?_); (refine six rfl rfl rfl HAj.out ?_)) | ((with_reducible refine iat 72 ?_); (refine ssls rfl rfl (i := k + 1) (by go_num) rfl (j := j) rfl hj1 hj2 ?_; rw [HR.out])))
                  refine (HNm.out _).mono ?_
                  rintro e w2 (⟨l, v, hm, rfl, hr⟩ | ⟨hm, rfl, hb⟩)
                  · rw [hexl] at hm
                    rw [hm] at hU2
                    have hll := (mean_has hm).1
                    have HN := Lib.hid (show unes P.data.toList = (unes (P.data.toList.drop (j + 1))).map ((o ++ l) ++ ·) by rw [hU2]; simp only [Option.map_map]; congr 1; funext z; simp)
                    obtain ⟨g, rfl, hcl, hb⟩ := hr
                    have HCl := Lib.hid hcl
                    have HM1 := Lib.hid (HM.out.next hb)
                    clear HM hb hcl hm hU2 hexl hpre HNm
                    have HM := HM1
                    clear HM1
                    go_wp2_with (first | ((with_reducible refine iat 80 ?_); (refine apr (news := bC l) rfl HM.out 0 rfl rfl rfl (by rw [bC_len]; omega) (by simp) (fun b hb => by cases hb; exact HCl.out) (bC_one l) (by unfold maxLen; omega) (by omega) ?_; intro p1 cap1 W2 HM1 hnil; clear hnil HM; (try clear W1); rename World => W1; have HM := Lib.hid HM1; clear HM1; simp only [List.set] at HM)))
                    go_roundw
                    case rel => exact ⟨j + 1, o ++ l, p1, cap1, by simp, by go_num, by omega, by simp; omega, HN, Lib.hid (by rw [List.length_append, bC_append]; exact HM.out)⟩
                    case measure => simp [intOf]; omega
                  · rw [hexl] at hm
                    rw [hm] at hU2
                    have HV := Lib.hid (HBad.out (by rw [hU2]; rfl))
                    have HM1 := Lib.hid (HM.out.next hb)
                    clear HM hb hm hU2 hexl hpre HNm
                    go_wp2_with fail
                    go_ret2
                    exact ⟨congrArg Ending.returned HV.out.symm, HB1.out.trans (HM1.out.below.mono HB1.out.size)⟩
                · have qx : ((x.toNat : Int) != 59) = true := by rw [bne, show ((x.toNat : Int) == 59) = false from ne13 hx59]; rfl
                  by_cases hx38 : x = 38
                  · subst hx38
                    as_aux_lemma =>
                    have HV := Lib.hid (HBad.out (by rw [hU, hdrop, scan_amp hpre]; rfl))
                    clear hU hdrop hpre
                    go_wp2_with (first | ((with_reducible refine iat 46 ?_); (refine six rfl rfl rfl HAj.out ?_)) | ((with_reducible refine iat 52 ?_); (refine six rfl rfl rfl HAj.out ?_)) | ((with_reducible refine iat 64 ?_); (refine six rfl rfl rfl HAj.out ?_)))
                    go_ret2
                    exact ⟨congrArg Ending.returned HV.out.symm, HB1.out.trans (HM.out.below.mono HB1.out.size)⟩
                  · have qx2 : ((x.toNat : Int) != 38) = true := by rw [bne, show ((x.toNat : Int) == 38) = false from ne13 hx38]; rfl
                    as_aux_lemma =>
                    have HN := Lib.hid (show P.data.toList.drop (k + 1) = (pre ++ [x]) ++ P.data.toList.drop (j + 1) ∧ ∀ y ∈ pre ++ [x], y ≠ 59 ∧ y ≠ 38 from ⟨by rw [hdrop]; simp, fun y hy => by
                      rcases List.mem_append.1 hy with hy | hy
                      · exact hpre y hy
                      · simp at hy; subst hy; exact ⟨hx59, hx38⟩⟩)
                    clear hU hdrop hpre hx59 hx38
                    go_wp2_with (first | ((with_reducible refine iat 46 ?_); (refine six rfl rfl rfl HAj.out ?_)) | ((with_reducible refine iat 52 ?_); (refine six rfl rfl rfl HAj.out ?_)))
                    go_roundw
                    case rel => exact ⟨j + 1, pre ++ [x], by go_num, by omega, by omega, by simp; omega, HN, HM⟩
                    case measure => simp [intOf]; omega
              · have hend : P.data.toList.drop j = [] := List.drop_of_length_le (by rw [size_list]; omega)
                have g1 : decide ((j : Int) ≥ (P.size : Int)) = true := decide_eq_true (by omega)
                as_aux_lemma =>
                have HV := Lib.hid (HBad.out (by rw [hU, hdrop, hend, List.append_nil, unes_open (scan_no hpre)]; rfl))
                clear hU hdrop hpre hend
                go_wp2_with fail
                go_ret2
                exact ⟨congrArg Ending.returned HV.out.symm, HB1.out.trans (HM.out.below.mono HB1.out.size)⟩
          · have q38 : ((c.toNat : Int) != 38) = true := by rw [bne, show ((c.toNat : Int) == 38) = false from ne13 h38]; rfl
            as_aux_lemma =>
            have HN := Lib.hid (show unes P.data.toList = (unes (P.data.toList.drop (k + 1))).map ((o ++ [c]) ++ ·) by rw [hU, unes_other h60 h38, Option.map_map]; congr 1; funext z; simp)
            clear hU h60 h38
            go_wp2_with (first | ((with_reducible refine iat 25 ?_); (refine six rfl rfl rfl HAt.out ?_)) | ((with_reducible refine iat 29 ?_); (refine six rfl rfl rfl HAt.out ?_)) | ((with_reducible refine iat 34 ?_); (refine six rfl rfl rfl HAt.out ?_)) | ((with_reducible refine skip_op ?_ ?_); exact rfl) | (refine mL ?_; clear HM; intro g1 W1 HM) | ((with_reducible refine iat 36 ?_); (refine apb rfl HM.out 1 0 rfl rfl rfl rfl rfl rfl (by omega) (by omega) (by omega) ?_; intro p1 cap1 W1 HM1; replace HM := Lib.hid HM1; clear HM1; simp only [List.set] at HM)))
            go_roundw
            case rel => exact ⟨k + 1, o ++ [c], p1, cap1, by simp, by go_num, by omega, by simp; omega, HN, Lib.hid (put_row HM.out c rfl)⟩
            case measure => simp [intOf]; omega
      · have HV := Lib.hid (HOk.out o (by rw [HU.out, List.drop_of_length_le (by rw [size_list]; omega), unes_nil]; simp))
        clear HU
        as_aux_lemma =>
        go_wp2_with (first | ((with_reducible refine iat 83 ?_); (refine cvr (l := o) (by kernel_rfl) (by kernel_rfl) (by kernel_rfl) rfl rfl (HM.out.get (k := 0) rfl) ?_)))
        go_ret2
        exact ⟨congrArg Ending.returned HV.out.symm, HB1.out.trans (HM.out.below.mono HB1.out.size)⟩
end Go.Proofs.YtfnodoepeiknhaaGreatDoor
