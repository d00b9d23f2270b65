/- The walks over package date's reading of texts, and the reference's. -/
import Derived.Test.YteigpfdnecfejaaDoorDateNum
import Derived.Test.YteigpfdnecfejaaDoorDateLaws
import Derived.Shelf.Strings.SlTrimAscii
import Derived.Lib.ConvBytes
import Derived.Deep.QuietTactic
import Derived.BigQuiet
namespace Go.Proofs.YteigpfdnecfejaaDoor
open Go.RowKit Go.Sort
set_option linter.unusedVariables false

theorem ret_intb {k : IntKind} {a b : Int} {c d : Bool} (h : a = b) (h' : c = d) : Ending.returned (.tuple #[.int k a, .bool c]) = .returned (.tuple #[.int k b, .bool d]) := by rw [h, h']

/-- strings.Trim at the ten digits: empty just where all bytes are digits. -/
theorem trim_any (s : ByteArray) (w : World) (hs : s.size ≤ 9223372036854775807) :
    Calls Tryd.prog 38 #[.string s, .string ⟨#[48, 49, 50, 51, 52, 53, 54, 55, 56, 57]⟩] w fun e w' => e = .returned (.string ⟨(Lib.trimS s.data.toList Cal.digitsC).toArray⟩) ∧ Below w.heap.size w w' :=
  Any.strings_Trim_laid Tryd.lays160 (by kernel_rfl) s ⟨#[48, 49, 50, 51, 52, 53, 54, 55, 56, 57]⟩ w hs (by decide) (ascii_of_all (by decide))

theorem take_all {s : ByteArray} {k : Nat} (h : s.size ≤ k) : s.data.toList.take k = s.data.toList := List.take_of_length_le (by simpa using h)

set_option maxHeartbeats 1000000 in
theorem rdigits_any (s : ByteArray) (w : World) (hs : s.size ≤ 10) :
    Calls Tryd.prog 34 #[.string s] w fun e w' => e = .returned (.tuple #[.int .i64 (Cal.digV s.data.toList), .bool (Cal.digs s.data.toList)]) ∧ w = w' := by
  go_enter Tryd.func34, Tryd.ntmps34
  go_wp2
  go_loop [4, 5] (fun nv iv => ∃ k : Nat, k ≤ s.size ∧ Hid (Cal.digs (s.data.toList.take k) = true) ∧ iv = .int .i64 k ∧ nv = .int .i64 (Cal.val (s.data.toList.take k))) (fun _ iv => s.size - (intOf iv).toNat)
  case atStart => exact ⟨0, by omega, rfl, rfl, rfl⟩
  case round =>
    obtain ⟨k, hk, HD, rfl, rfl⟩ := hrel
    have hv : Cal.val (s.data.toList.take k) < 10 ^ 10 := by
      have h1 := Cal.val_lt HD.out
      have h2 : (s.data.toList.take k).length ≤ k := List.length_take_le _ _
      exact Nat.lt_of_lt_of_le h1 (Nat.pow_le_pow_right (by omega) (by omega))
    have hv : Cal.val (s.data.toList.take k) < 10000000000 := hv
    by_cases hlt : k < s.size
    · have hb : s.data.toList[k]? = some s[k] := by
        rw [List.getElem?_eq_getElem (by simpa using hlt)]; rfl
      have HT := Lib.hid (Cal.digs_take hb)
      have HV := Lib.hid (fun h => Cal.val_take hb h)
      clear hb
      by_cases h1 : (48 : Int) ≤ s[k].toNat
      · by_cases h2 : (s[k].toNat : Int) ≤ 57
        · have HN := Lib.hid (show Cal.digs (s.data.toList.take (k + 1)) = true by rw [HT.out, HD.out, (Cal.digB_iff _).2 (by omega)]; rfl)
          have HW := Lib.hid (HV.out HN.out)
          go_wp2
          go_round
          case rel => exact ⟨k + 1, by omega, HN, by go_num, by rw [HW.out]⟩
          case measure => simp [intOf]; omega
        · have HN := Lib.hid (show Cal.digs s.data.toList = false from Cal.digs_not_take (k := k + 1) (by rw [HT.out, HD.out, (Cal.digB_not _).2 (by omega)]; rfl))
          have HW := Lib.hid (show Cal.digV s.data.toList = 0 by unfold Cal.digV; rw [HN.out]; rfl)
          go_wp2
          go_ret2
          exact ⟨ret_intb HW.out.symm HN.out.symm, rfl⟩
      · have HN := Lib.hid (show Cal.digs s.data.toList = false from Cal.digs_not_take (k := k + 1) (by rw [HT.out, HD.out, (Cal.digB_not _).2 (by omega)]; rfl))
        have HW := Lib.hid (show Cal.digV s.data.toList = 0 by unfold Cal.digV; rw [HN.out]; rfl)
        go_wp2
        go_ret2
        exact ⟨ret_intb HW.out.symm HN.out.symm, rfl⟩
    · have HE := Lib.hid (take_all (s := s) (k := k) (by omega))
      have HN := Lib.hid (show Cal.digs s.data.toList = true by rw [← HE.out]; exact HD.out)
      have HW := Lib.hid (show Cal.digV s.data.toList = (Cal.val (s.data.toList.take k) : Int) by unfold Cal.digV; rw [HN.out, HE.out]; rfl)
      go_wp2
      go_ret2
      exact ⟨ret_intb HW.out.symm HN.out.symm, rfl⟩

theorem atoi_any (s : ByteArray) (w : World) (hs : s.size ≤ 18) (h : Cal.digs s.data.toList = true) (h0 : s.data.toList ≠ []) :
    Calls Tryd.prog 39 #[.string s] w fun e w' => e = .returned (.tuple #[.int .i64 (Cal.val s.data.toList), .nilIface]) ∧ Below w.heap.size w w' :=
  (Tryd.strconv_Atoi s _ hs (Cal.atoi_digs h h0) w).mono fun _ _ ⟨he, t, hw⟩ => ⟨he, hw ▸ Lib.bytesWorld_below _ _ _⟩

set_option maxHeartbeats 1000000 in
theorem number_any (s : ByteArray) (w : World) (hs : s.size ≤ 10) (h0 : 0 < s.size) :
    Calls Tryd.prog 35 #[.string s] w fun e w' => e = .returned (.tuple #[.int .i64 (Cal.digV s.data.toList), .bool (Cal.digs s.data.toList)]) ∧ Below w.heap.size w w' := by
  have hne : s.data.toList ≠ [] := by
    intro e
    have h1 : s.data.toList.length = 0 := by rw [e]; rfl
    rw [Array.length_toList] at h1
    have e2 : s.size = s.data.size := rfl
    omega
  cases hd : Cal.digs s.data.toList
  · have HN := Lib.hid hd
    have HW := Lib.hid (show Cal.digV s.data.toList = 0 by unfold Cal.digV; rw [hd]; rfl)
    have HT := Cal.trim_not hd
    have hne2 : (Lib.trimS s.data.toList Cal.digitsC).isEmpty = false := by simpa using HT
    clear hd hne HT
    go_enter Tryd.func35, Tryd.ntmps35
    go_wp2_with fail
    refine (trim_any _ _ (by omega)).mono ?_
    rintro e w1 ⟨rfl, hb1⟩
    go_wp2
    go_ret2
    exact ⟨ret_intb HW.out.symm rfl, hb1⟩
  · have HN := Lib.hid hd
    have HW := Lib.hid (show Cal.digV s.data.toList = (Cal.val s.data.toList : Int) by unfold Cal.digV; rw [hd]; rfl)
    have HT := Lib.hid (Cal.trim_digs hd)
    have HNe := Lib.hid hne
    clear hd hne
    go_enter Tryd.func35, Tryd.ntmps35
    go_wp2_with fail
    refine (trim_any _ _ (by omega)).mono ?_
    rintro e w1 ⟨rfl, hb1⟩
    rw [HT.out]
    go_wp2_with fail
    refine (atoi_any _ _ (by omega) HN.out HNe.out).mono ?_
    rintro e w2 ⟨rfl, hb2⟩
    go_wp2_with fail
    go_quiet (fail)
    go_wp2
    go_ret2
    exact ⟨ret_intb HW.out.symm rfl, below_drewN (hb1.trans (hb2.mono hb1.size)) _⟩

theorem at_byte {s : ByteArray} {k : Nat} (h : k < s.size) : s.data.toList[k]? = some s[k] := by
  rw [List.getElem?_eq_getElem (by simpa using h)]; rfl

theorem shape_size {s : ByteArray} (h : s.size ≠ 10) : Cal.shapeB s.data.toList = false := by
  have e : (s.data.toList.length == 10) = false := by
    rw [beq_eq_false_iff_ne, Array.length_toList]
    exact h
  unfold Cal.shapeB
  rw [e]
  rfl

theorem shape_four {s : ByteArray} (h : 4 < s.size) (h4 : ((s[4].toNat : Int) != 45) = true) : Cal.shapeB s.data.toList = false := by
  have e : (s.data.toList[4]? == some 45) = false := by
    rw [at_byte h, beq_eq_false_iff_ne]
    intro e
    rw [Option.some.inj e] at h4
    exact absurd h4 (by decide)
  unfold Cal.shapeB
  rw [e]
  simp

theorem shape_seven {s : ByteArray} (h : 7 < s.size) (h4 : ((s[7].toNat : Int) != 45) = true) : Cal.shapeB s.data.toList = false := by
  have e : (s.data.toList[7]? == some 45) = false := by
    rw [at_byte h, beq_eq_false_iff_ne]
    intro e
    rw [Option.some.inj e] at h4
    exact absurd h4 (by decide)
  unfold Cal.shapeB
  rw [e]
  simp

theorem shape_rest {s : ByteArray} (h : s.size = 10) (h4 : ((s[4].toNat : Int) != 45) = false) (h7 : ((s[7].toNat : Int) != 45) = false) :
    Cal.shapeB s.data.toList = (Cal.digs (s.data.toList.take 4) && Cal.digs ((s.data.toList.drop 5).take 2) && Cal.digs (s.data.toList.drop 8)) := by
  have e0 : (s.data.toList.length == 10) = true := by
    rw [beq_iff_eq, Array.length_toList]
    exact h
  have b4 : s[4] = 45 := by
    rw [bne_eq_false_iff_eq] at h4
    apply UInt8.toNat_inj.1
    show _ = 45
    omega
  have b7 : s[7] = 45 := by
    rw [bne_eq_false_iff_eq] at h7
    apply UInt8.toNat_inj.1
    show _ = 45
    omega
  unfold Cal.shapeB
  rw [e0, at_byte (show 4 < s.size by omega), at_byte (show 7 < s.size by omega), b4, b7]
  simp

set_option maxHeartbeats 1000000 in
theorem parse_bad (s : ByteArray) (w : World) (h : s.size ≠ 10 ∨ ∃ (h10 : s.size = 10), ((s[4].toNat : Int) != 45) = true ∨ (((s[4].toNat : Int) != 45) = false ∧ ((s[7].toNat : Int) != 45) = true)) :
    Calls Tryd.prog 24 #[.string s] w fun e w' => e = .returned (.tuple #[.int .i64 (Cal.parseV s.data.toList), .int .i64 (Cal.parseE s.data.toList)]) ∧ w = w' := by
  have hs : Cal.shapeB s.data.toList = false := by
    rcases h with h | ⟨h, h4 | ⟨h4, h7⟩⟩
    · exact shape_size h
    · exact shape_four (by omega) h4
    · exact shape_seven (by omega) h7
  have HV := Lib.hid (show Cal.parseV s.data.toList = 0 by unfold Cal.parseV; rw [hs]; rfl)
  have HE := Lib.hid (show Cal.parseE s.data.toList = 5 by unfold Cal.parseE; rw [hs]; rfl)
  clear hs
  rcases h with h | ⟨h, h4 | ⟨h4, h7⟩⟩
  · have hs1 : ((s.size : Int) != 10) = true := by rw [bne_iff_ne]; omega
    clear h
    go_enter Tryd.func24, Tryd.ntmps24
    go_wp2
    go_ret2
    exact ⟨ret_int2 HV.out.symm HE.out.symm, rfl⟩
  · have hs1 : ((s.size : Int) != 10) = false := by rw [bne_eq_false_iff_eq]; omega
    have l4 : 4 < s.size := by omega
    have H := Lib.hid h
    go_enter Tryd.func24, Tryd.ntmps24
    go_wp2
    go_ret2
    exact ⟨ret_int2 HV.out.symm HE.out.symm, rfl⟩
  · have hs1 : ((s.size : Int) != 10) = false := by rw [bne_eq_false_iff_eq]; omega
    have l4 : 4 < s.size := by omega
    have l7 : 7 < s.size := by omega
    go_enter Tryd.func24, Tryd.ntmps24
    go_wp2
    go_ret2
    exact ⟨ret_int2 HV.out.symm HE.out.symm, rfl⟩

set_option maxHeartbeats 2000000 in
theorem parse_good (s : ByteArray) (w : World) (l4 : 4 < s.size) (l7 : 7 < s.size) (h10 : s.size = 10) (h4 : ((s[4].toNat : Int) != 45) = false) (h7 : ((s[7].toNat : Int) != 45) = false) :
    Calls Tryd.prog 24 #[.string s] w fun e w' => e = .returned (.tuple #[.int .i64 (Cal.parseV s.data.toList), .int .i64 (Cal.parseE s.data.toList)]) ∧ Below w.heap.size w w' := by
  have hs1 : ((s.size : Int) != 10) = false := by rw [bne_eq_false_iff_eq]; omega
  have l10 : s.size ≤ 10 := by omega
  have l9 : 10 ≤ s.size := by omega
  have HS := Lib.hid (shape_rest h10 h4 h7)
  have E4 := Lib.hid (show (s.extract 0 4).data.toList = s.data.toList.take 4 by rw [Lib.extract_data]; simp)
  have E57 := Lib.hid (show (s.extract 5 7).data.toList = (s.data.toList.drop 5).take 2 by rw [Lib.extract_data])
  have E8 := Lib.hid (show (s.extract 8 s.size).data.toList = s.data.toList.drop 8 by rw [Lib.extract_data]; apply List.take_of_length_le; simp [h10])
  have S4 : (s.extract 0 4).size = 4 := by rw [ByteArray.size_extract]; omega
  have S57 : (s.extract 5 7).size = 2 := by rw [ByteArray.size_extract]; omega
  have S8 : (s.extract 8 s.size).size = 2 := by rw [ByteArray.size_extract]; omega
  have HS4 := Lib.hid S4
  have HS57 := Lib.hid S57
  have HS8 := Lib.hid S8
  clear S4 S57 S8 h10
  have hc : (Cal.digs (s.data.toList.take 4) = false) ∨ (Cal.digs (s.data.toList.take 4) = true ∧ Cal.digs ((s.data.toList.drop 5).take 2) = false) ∨ (Cal.digs (s.data.toList.take 4) = true ∧ Cal.digs ((s.data.toList.drop 5).take 2) = true ∧ Cal.digs (s.data.toList.drop 8) = false) ∨ (Cal.digs (s.data.toList.take 4) = true ∧ Cal.digs ((s.data.toList.drop 5).take 2) = true ∧ Cal.digs (s.data.toList.drop 8) = true ∧ Cal.vldB (Cal.parY s.data.toList) (Cal.parM s.data.toList) (Cal.parD s.data.toList) = true) ∨ (Cal.digs (s.data.toList.take 4) = true ∧ Cal.digs ((s.data.toList.drop 5).take 2) = true ∧ Cal.digs (s.data.toList.drop 8) = true ∧ Cal.vldB (Cal.parY s.data.toList) (Cal.parM s.data.toList) (Cal.parD s.data.toList) = false) := by
    cases Cal.digs (s.data.toList.take 4) <;> cases Cal.digs ((s.data.toList.drop 5).take 2) <;> cases Cal.digs (s.data.toList.drop 8) <;> cases Cal.vldB (Cal.parY s.data.toList) (Cal.parM s.data.toList) (Cal.parD s.data.toList) <;> simp
  have hv : ∀ d1 d2 d3 : Bool, Cal.digs (s.data.toList.take 4) = d1 → Cal.digs ((s.data.toList.drop 5).take 2) = d2 → Cal.digs (s.data.toList.drop 8) = d3 → (d1 && d2 && d3) = false → Cal.parseV s.data.toList = 0 ∧ Cal.parseE s.data.toList = 5 := by
    intro d1 d2 d3 e1 e2 e3 h
    have hsh : Cal.shapeB s.data.toList = false := by rw [HS.out, e1, e2, e3]; exact h
    unfold Cal.parseV Cal.parseE
    rw [hsh]
    exact ⟨rfl, rfl⟩
  have hd : ∀ l : List UInt8, Cal.digs l = true → Cal.digV l = (Cal.val l : Int) := by
    intro l h
    unfold Cal.digV
    rw [h]
    rfl
  have hok : Cal.digs (s.data.toList.take 4) = true → Cal.digs ((s.data.toList.drop 5).take 2) = true → Cal.digs (s.data.toList.drop 8) = true →
      (Cal.digV (s.data.toList.take 4) = Cal.parY s.data.toList ∧ Cal.digV ((s.data.toList.drop 5).take 2) = Cal.parM s.data.toList ∧ Cal.digV (s.data.toList.drop 8) = Cal.parD s.data.toList) ∧
      Cal.parseV s.data.toList = Cal.dayV (Cal.parY s.data.toList) (Cal.parM s.data.toList) (Cal.parD s.data.toList) ∧ Cal.parseE s.data.toList = (if Cal.vldB (Cal.parY s.data.toList) (Cal.parM s.data.toList) (Cal.parD s.data.toList) = true then 0 else 17) := by
    intro h1 h2 h3
    have hsh : Cal.shapeB s.data.toList = true := by rw [HS.out, h1, h2, h3]; rfl
    refine ⟨⟨hd _ h1, hd _ h2, hd _ h3⟩, ?_, ?_⟩
    · unfold Cal.parseV
      rw [hsh, if_pos rfl]
    · unfold Cal.parseE
      rw [hsh, if_pos rfl]
  rcases hc with h1 | ⟨h1, h2⟩ | ⟨h1, h2, h3⟩ | ⟨h1, h2, h3, hx⟩ | ⟨h1, h2, h3, hx⟩
  iterate 3
    · have HV := Lib.hid (hv _ _ _ (by first | exact h1 | rfl) (by first | exact h2 | rfl) (by first | exact h3 | rfl) (by simp))
      clear hv hd hok
      go_enter Tryd.func24, Tryd.ntmps24
      go_wp2_with fail
      refine (number_any _ _ (by have := HS4.out; omega) (by have := HS4.out; omega)).mono ?_
      rintro e w1 ⟨rfl, hb1⟩
      rw [E4.out]
      go_wp2_with fail
      refine (number_any _ _ (by have := HS57.out; omega) (by have := HS57.out; omega)).mono ?_
      rintro e w2 ⟨rfl, hb2⟩
      rw [E57.out]
      go_wp2_with fail
      refine (number_any _ _ (by have := HS8.out; omega) (by have := HS8.out; omega)).mono ?_
      rintro e w3 ⟨rfl, hb3⟩
      rw [E8.out]
      go_wp2
      go_ret2
      exact ⟨ret_int2 HV.out.1.symm HV.out.2.symm, (hb1.trans (hb2.mono hb1.size)).trans (hb3.mono (Nat.le_trans hb1.size hb2.size))⟩
  all_goals
    obtain ⟨⟨g1, g2, g3⟩, g4, g5⟩ := hok h1 h2 h3
    have HG1 := Lib.hid g1
    have HG2 := Lib.hid g2
    have HG3 := Lib.hid g3
    rw [hx] at g5
    have HG4 := Lib.hid g4
    have HG5 := Lib.hid g5
    have HX := Lib.hid hx
    have HY := Lib.hid (show Cal.dayE (Cal.parY s.data.toList) (Cal.parM s.data.toList) (Cal.parD s.data.toList) = _ by unfold Cal.dayE; rw [hx])
    clear hv hd hok g1 g2 g3 g4 g5 hx
    go_enter Tryd.func24, Tryd.ntmps24
    go_wp2_with fail
    refine (number_any _ _ (by have := HS4.out; omega) (by have := HS4.out; omega)).mono ?_
    rintro e w1 ⟨rfl, hb1⟩
    rw [E4.out, HG1.out]
    go_wp2_with fail
    refine (number_any _ _ (by have := HS57.out; omega) (by have := HS57.out; omega)).mono ?_
    rintro e w2 ⟨rfl, hb2⟩
    rw [E57.out, HG2.out]
    go_wp2_with fail
    refine (number_any _ _ (by have := HS8.out; omega) (by have := HS8.out; omega)).mono ?_
    rintro e w3 ⟨rfl, hb3⟩
    rw [E8.out, HG3.out]
    go_wp2_with fail
    refine (day_any _ _ _ _).mono ?_
    rintro e w' ⟨rfl, rfl⟩
    rw [HY.out]
    go_wp2
    go_ret2
    first
      | exact ⟨ret_int2 HG4.out.symm HG5.out.symm, (hb1.trans (hb2.mono hb1.size)).trans (hb3.mono (Nat.le_trans hb1.size hb2.size))⟩
      | exact ⟨ret_int2 (by rw [HG4.out]; unfold Cal.dayV; rw [HX.out]; rfl) HG5.out.symm, (hb1.trans (hb2.mono hb1.size)).trans (hb3.mono (Nat.le_trans hb1.size hb2.size))⟩

theorem parse_any (s : ByteArray) (w : World) :
    Calls Tryd.prog 24 #[.string s] w fun e w' => e = .returned (.tuple #[.int .i64 (Cal.parseV s.data.toList), .int .i64 (Cal.parseE s.data.toList)]) ∧ Below w.heap.size w w' := by
  by_cases h10 : s.size = 10
  · cases h4 : ((s[4].toNat : Int) != 45)
    · cases h7 : ((s[7].toNat : Int) != 45)
      · exact parse_good s w (by omega) (by omega) h10 h4 h7
      · exact (parse_bad s w (Or.inr ⟨h10, Or.inr ⟨h4, h7⟩⟩)).mono fun _ _ ⟨he, hw⟩ => ⟨he, hw ▸ Below.refl _ _⟩
    · exact (parse_bad s w (Or.inr ⟨h10, Or.inl h4⟩)).mono fun _ _ ⟨he, hw⟩ => ⟨he, hw ▸ Below.refl _ _⟩
  · exact (parse_bad s w (Or.inl h10)).mono fun _ _ ⟨he, hw⟩ => ⟨he, hw ▸ Below.refl _ _⟩

end Go.Proofs.YteigpfdnecfejaaDoor
