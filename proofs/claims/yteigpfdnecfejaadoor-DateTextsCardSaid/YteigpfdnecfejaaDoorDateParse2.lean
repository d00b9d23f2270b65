/- The walk over the reference's reading of a day. -/
import Derived.Test.YteigpfdnecfejaaDoorDateParse
namespace Go.Proofs.YteigpfdnecfejaaDoor
open Go.RowKit Go.Sort
set_option linter.unusedVariables false

set_option maxHeartbeats 1000000 in
theorem rparse_bad (s : ByteArray) (w : World) (h : s.size ≠ 10 ∨ ∃ (h10 : s.size = 10), ((s[4].toNat : Int) != 45) = true ∨ (((s[4].toNat : Int) != 45) = false ∧ ((s[7].toNat : Int) != 45) = true)) :
    Calls Tryd.prog 23 #[.string s] w fun e w' => e = .returned (.tuple #[.int .i64 (Cal.parseV s.data.toList), .int .i64 (Cal.parseE s.data.toList)]) ∧ w = w' := by
  have hs : Cal.shapeB s.data.toList = false := by
    rcases h with h | ⟨h, h4 | ⟨h4, h7⟩⟩
    · exact shape_size h
    · exact shape_four (by omega) h4
    · exact shape_seven (by omega) h7
  have HV := Lib.hid (show Cal.parseV s.data.toList = 0 by unfold Cal.parseV; rw [hs]; rfl)
  have HE := Lib.hid (show Cal.parseE s.data.toList = 5 by unfold Cal.parseE; rw [hs]; rfl)
  clear hs
  rcases h with h | ⟨h, h4 | ⟨h4, h7⟩⟩
  · have hs1 : ((s.size : Int) != 10) = true := by rw [bne_iff_ne]; omega
    clear h
    go_enter Tryd.func23, Tryd.ntmps23
    go_wp2
    go_ret2
    exact ⟨ret_int2 HV.out.symm HE.out.symm, rfl⟩
  · have hs1 : ((s.size : Int) != 10) = false := by rw [bne_eq_false_iff_eq]; omega
    have l4 : 4 < s.size := by omega
    have H := Lib.hid h
    go_enter Tryd.func23, Tryd.ntmps23
    go_wp2
    go_ret2
    exact ⟨ret_int2 HV.out.symm HE.out.symm, rfl⟩
  · have hs1 : ((s.size : Int) != 10) = false := by rw [bne_eq_false_iff_eq]; omega
    have l4 : 4 < s.size := by omega
    have l7 : 7 < s.size := by omega
    go_enter Tryd.func23, Tryd.ntmps23
    go_wp2
    go_ret2
    exact ⟨ret_int2 HV.out.symm HE.out.symm, rfl⟩

set_option maxHeartbeats 2000000 in
theorem rparse_good (s : ByteArray) (w : World) (l4 : 4 < s.size) (l7 : 7 < s.size) (h10 : s.size = 10) (h4 : ((s[4].toNat : Int) != 45) = false) (h7 : ((s[7].toNat : Int) != 45) = false) :
    Calls Tryd.prog 23 #[.string s] w fun e w' => e = .returned (.tuple #[.int .i64 (Cal.parseV s.data.toList), .int .i64 (Cal.parseE s.data.toList)]) ∧ w = w' := by
  have hs1 : ((s.size : Int) != 10) = false := by rw [bne_eq_false_iff_eq]; omega
  have l10 : s.size ≤ 10 := by omega
  have l9 : 10 ≤ s.size := by omega
  have HS := Lib.hid (shape_rest h10 h4 h7)
  have E4 := Lib.hid (show (s.extract 0 4).data.toList = s.data.toList.take 4 by rw [Lib.extract_data]; simp)
  have E57 := Lib.hid (show (s.extract 5 7).data.toList = (s.data.toList.drop 5).take 2 by rw [Lib.extract_data])
  have E8 := Lib.hid (show (s.extract 8 s.size).data.toList = s.data.toList.drop 8 by rw [Lib.extract_data]; apply List.take_of_length_le; simp [h10])
  have S4 : (s.extract 0 4).size = 4 := by rw [ByteArray.size_extract]; omega
  have S57 : (s.extract 5 7).size = 2 := by rw [ByteArray.size_extract]; omega
  have S8 : (s.extract 8 s.size).size = 2 := by rw [ByteArray.size_extract]; omega
  have HS4 := Lib.hid S4
  have HS57 := Lib.hid S57
  have HS8 := Lib.hid S8
  clear S4 S57 S8 h10
  have hc : (Cal.digs (s.data.toList.take 4) = false) ∨ (Cal.digs (s.data.toList.take 4) = true ∧ Cal.digs ((s.data.toList.drop 5).take 2) = false) ∨ (Cal.digs (s.data.toList.take 4) = true ∧ Cal.digs ((s.data.toList.drop 5).take 2) = true ∧ Cal.digs (s.data.toList.drop 8) = false) ∨ (Cal.digs (s.data.toList.take 4) = true ∧ Cal.digs ((s.data.toList.drop 5).take 2) = true ∧ Cal.digs (s.data.toList.drop 8) = true ∧ Cal.vldB (Cal.parY s.data.toList) (Cal.parM s.data.toList) (Cal.parD s.data.toList) = true) ∨ (Cal.digs (s.data.toList.take 4) = true ∧ Cal.digs ((s.data.toList.drop 5).take 2) = true ∧ Cal.digs (s.data.toList.drop 8) = true ∧ Cal.vldB (Cal.parY s.data.toList) (Cal.parM s.data.toList) (Cal.parD s.data.toList) = false) := by
    cases Cal.digs (s.data.toList.take 4) <;> cases Cal.digs ((s.data.toList.drop 5).take 2) <;> cases Cal.digs (s.data.toList.drop 8) <;> cases Cal.vldB (Cal.parY s.data.toList) (Cal.parM s.data.toList) (Cal.parD s.data.toList) <;> simp
  have hv : ∀ d1 d2 d3 : Bool, Cal.digs (s.data.toList.take 4) = d1 → Cal.digs ((s.data.toList.drop 5).take 2) = d2 → Cal.digs (s.data.toList.drop 8) = d3 → (d1 && d2 && d3) = false → Cal.parseV s.data.toList = 0 ∧ Cal.parseE s.data.toList = 5 := by
    intro d1 d2 d3 e1 e2 e3 h
    have hsh : Cal.shapeB s.data.toList = false := by rw [HS.out, e1, e2, e3]; exact h
    unfold Cal.parseV Cal.parseE
    rw [hsh]
    exact ⟨rfl, rfl⟩
  have hd : ∀ l : List UInt8, Cal.digs l = true → Cal.digV l = (Cal.val l : Int) := by
    intro l h
    unfold Cal.digV
    rw [h]
    rfl
  have hok : Cal.digs (s.data.toList.take 4) = true → Cal.digs ((s.data.toList.drop 5).take 2) = true → Cal.digs (s.data.toList.drop 8) = true →
      (Cal.digV (s.data.toList.take 4) = Cal.parY s.data.toList ∧ Cal.digV ((s.data.toList.drop 5).take 2) = Cal.parM s.data.toList ∧ Cal.digV (s.data.toList.drop 8) = Cal.parD s.data.toList) ∧
      Cal.parseV s.data.toList = Cal.dayV (Cal.parY s.data.toList) (Cal.parM s.data.toList) (Cal.parD s.data.toList) ∧ Cal.parseE s.data.toList = (if Cal.vldB (Cal.parY s.data.toList) (Cal.parM s.data.toList) (Cal.parD s.data.toList) = true then 0 else 17) := by
    intro h1 h2 h3
    have hsh : Cal.shapeB s.data.toList = true := by rw [HS.out, h1, h2, h3]; rfl
    refine ⟨⟨hd _ h1, hd _ h2, hd _ h3⟩, ?_, ?_⟩
    · unfold Cal.parseV
      rw [hsh, if_pos rfl]
    · unfold Cal.parseE
      rw [hsh, if_pos rfl]
  rcases hc with h1 | ⟨h1, h2⟩ | ⟨h1, h2, h3⟩ | ⟨h1, h2, h3, hx⟩ | ⟨h1, h2, h3, hx⟩
  iterate 3
    · have HV := Lib.hid (hv _ _ _ (by first | exact h1 | rfl) (by first | exact h2 | rfl) (by first | exact h3 | rfl) (by simp))
      clear hv hd hok
      go_enter Tryd.func23, Tryd.ntmps23
      go_wp2_with fail
      refine (rdigits_any _ _ (by have := HS4.out; omega)).mono ?_
      rintro e w' ⟨rfl, rfl⟩
      rw [E4.out]
      go_wp2_with fail
      refine (rdigits_any _ _ (by have := HS57.out; omega)).mono ?_
      rintro e w' ⟨rfl, rfl⟩
      rw [E57.out]
      go_wp2_with fail
      refine (rdigits_any _ _ (by have := HS8.out; omega)).mono ?_
      rintro e w' ⟨rfl, rfl⟩
      rw [E8.out]
      go_wp2
      go_ret2
      exact ⟨ret_int2 HV.out.1.symm HV.out.2.symm, rfl⟩
  all_goals
    obtain ⟨⟨g1, g2, g3⟩, g4, g5⟩ := hok h1 h2 h3
    have HG1 := Lib.hid g1
    have HG2 := Lib.hid g2
    have HG3 := Lib.hid g3
    rw [hx] at g5
    have HG4 := Lib.hid g4
    have HG5 := Lib.hid g5
    have HX := Lib.hid hx
    have HY := Lib.hid (show Cal.dayE (Cal.parY s.data.toList) (Cal.parM s.data.toList) (Cal.parD s.data.toList) = _ by unfold Cal.dayE; rw [hx])
    clear hv hd hok g1 g2 g3 g4 g5 hx
    go_enter Tryd.func23, Tryd.ntmps23
    go_wp2_with fail
    refine (rdigits_any _ _ (by have := HS4.out; omega)).mono ?_
    rintro e w' ⟨rfl, rfl⟩
    rw [E4.out, HG1.out]
    go_wp2_with fail
    refine (rdigits_any _ _ (by have := HS57.out; omega)).mono ?_
    rintro e w' ⟨rfl, rfl⟩
    rw [E57.out, HG2.out]
    go_wp2_with fail
    refine (rdigits_any _ _ (by have := HS8.out; omega)).mono ?_
    rintro e w' ⟨rfl, rfl⟩
    rw [E8.out, HG3.out]
    go_wp2_with fail
    refine (rday_any _ _ _ _).mono ?_
    rintro e w' ⟨rfl, rfl⟩
    rw [HY.out]
    go_wp2
    go_ret2
    first
      | exact ⟨ret_int2 HG4.out.symm HG5.out.symm, rfl⟩
      | exact ⟨ret_int2 (by rw [HG4.out]; unfold Cal.dayV; rw [HX.out]; rfl) HG5.out.symm, rfl⟩

theorem rparse_any (s : ByteArray) (w : World) :
    Calls Tryd.prog 23 #[.string s] w fun e w' => e = .returned (.tuple #[.int .i64 (Cal.parseV s.data.toList), .int .i64 (Cal.parseE s.data.toList)]) ∧ w = w' := by
  by_cases h10 : s.size = 10
  · cases h4 : ((s[4].toNat : Int) != 45)
    · cases h7 : ((s[7].toNat : Int) != 45)
      · exact rparse_good s w (by omega) (by omega) h10 h4 h7
      · exact (rparse_bad s w (Or.inr ⟨h10, Or.inr ⟨h4, h7⟩⟩)).mono fun _ _ h => h
    · exact (rparse_bad s w (Or.inr ⟨h10, Or.inl h4⟩)).mono fun _ _ h => h
  · exact (rparse_bad s w (Or.inl h10)).mono fun _ _ h => h

end Go.Proofs.YteigpfdnecfejaaDoor
