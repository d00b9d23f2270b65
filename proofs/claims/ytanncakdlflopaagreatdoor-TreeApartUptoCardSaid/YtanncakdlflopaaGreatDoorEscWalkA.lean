/- The walk over Escape. The walk over tarifflaw04.CharsEscapes. What the rows' list gives the walks: the variables ErrSyntax and ErrRange. -/
import Derived.Test.YtanncakdlflopaaGreatDoorEscRefX
import Derived.Test.YtanncakdlflopaaGreatDoorQuoteA
import Derived.Test.YtanncakdlflopaaGreatDoorEscRefY
import Derived.Test.YtanncakdlflopaaGreatDoorCharsB
import Derived.Test.YtanncakdlflopaaGreatDoorMeantB
import Derived.Stop.LaidErr
import Derived.FnData
namespace Go.Proofs.YtanncakdlflopaaGreatDoor
open Go.RowKit
set_option linter.unusedVariables false
set_option maxRecDepth 100000

theorem escA_keys : keysOk escA := esc_keys
theorem escB_keys : keysOk escB := by
 intro i j x y hij hx hy
 have hj : j < 3 := (List.getElem?_eq_some_iff.1 hy).1
 have hc : (i = 0 ∧ j = 1) ∨ (i = 0 ∧ j = 2) ∨ (i = 1 ∧ j = 2) := by omega
 rcases hc with ⟨rfl, rfl⟩ | ⟨rfl, rfl⟩ | ⟨rfl, rfl⟩ <;> (simp [escB] at hx hy; subst hx hy; decide)

set_option maxHeartbeats 2000000 in
theorem escape_no (s : ByteArray) (at_ : Bool) (w : World) (hT : U8 w) (hs : s.size ≤ 1073741824) (hc : chars s.data.toList = none) :
  Calls Tryz.prog 50 #[.string s, .bool at_] w fun e w' => e = .returned (escV at_ s) ∧ Below w.heap.size w w' := by
 have HC := Lib.hid (valid_any s w (by omega) hT)
 have HT := Lib.hid (text_of_none hc)
 have HV := Lib.hid (escV_none (at_ := at_) hc)
 clear hc
 go_enter Tryz.func50, Tryz.ntmps50
 go_wp2_with fail
 refine HC.out.mono ?_
 rintro e w1 ⟨rfl, hb⟩
 rw [HT.out]
 go_wp2_with fail
 go_ret2
 exact ⟨(congrArg Ending.returned HV.out).symm, hb⟩

set_option maxHeartbeats 4000000 in
theorem escape_false (s : ByteArray) (w : World) (hT : U8 w) (hs : s.size ≤ 1073741824) {cs : List Nat} (hc : chars s.data.toList = some cs) :
  Calls Tryz.prog 50 #[.string s, .bool false] w fun e w' => e = .returned (escV false s) ∧ Below w.heap.size w w' := by
 have HC := Lib.hid (valid_any s w (by omega) hT)
 have HT := Lib.hid (text_of_some hc)
 have HV := Lib.hid (escV_some (at_ := false) hc)
 obtain ⟨R, hR⟩ : ∃ R : ByteArray, (⟨(replL escA s.data.toList).toArray⟩ : ByteArray) = R := ⟨_, rfl⟩
 have hRl : R.data.toList = replL escA s.data.toList := by rw [← hR]
 have hRs : R.size ≤ 5 * s.size := by
  have := replL_len (m := 5) (l := escA) (by omega) (by decide) s.data.toList
  rw [← hRl, size_list, size_list] at this
  exact this
 obtain ⟨Z, hZ⟩ : ∃ Z : ByteArray, (⟨(replL escB R.data.toList).toArray⟩ : ByteArray) = Z := ⟨_, rfl⟩
 have HE0 := Lib.hid (show (⟨(escT false s.data.toList).toArray⟩ : ByteArray) = R from hR)
 have HE1 := Lib.hid (show (⟨(escT true s.data.toList).toArray⟩ : ByteArray) = Z by rw [← hZ, hRl]; rfl)
 have HR := Lib.hid hR
 have HZ := Lib.hid hZ
 clear hc hR hRl hZ
 go_enter Tryz.func50, Tryz.ntmps50
 go_wp2_with fail
 refine HC.out.mono ?_
 rintro e w1 ⟨rfl, hb⟩
 rw [HT.out]
 have HB1 := Lib.hid hb
 clear hb HC
 go_wp2_with fail
 refine (new_any w1.heap.size 8 (pairL escA) _ rfl (by decide) (by omega) (by omega) (fun j u hu => cells_new w1 _ _ j u hu) (pairs_one escA)).mono ?_
 rintro e w_ ⟨b, rfl, hnew, hb2⟩
 obtain ⟨g, cap, hbk, hgb, hcells, hBb⟩ := new_parts hnew (by decide)
 have HRp := Lib.hid (replace_any b g cap 8 (.int .u32 0) escA s w_ (by decide) (by decide) (by decide) (by decide) hgb hbk hcells (by decide) escA_keys (by omega) (by decide) (by decide))
 have ha := (HB1.out).alloc HB1.out.size (.cells #[.string ⟨#[38]⟩, .string ⟨#[38, 97, 109, 112, 59]⟩, .string ⟨#[60]⟩, .string ⟨#[38, 108, 116, 59]⟩, .string ⟨#[62]⟩, .string ⟨#[38, 103, 116, 59]⟩, .string ⟨#[13]⟩, .string ⟨#[38, 35, 49, 51, 59]⟩] 9)
 have HB2 := Lib.hid (ha.trans (hb2.mono ha.size))
 have HBb := Lib.hid (Nat.le_trans ha.size hBb)
 clear hnew hbk hgb hcells hBb hb2 HB1 ha
 go_wp2_with fail
 refine HRp.out.mono ?_
 rintro e w3 ⟨rfl, hb3⟩
 have HB3 := Lib.hid (HB2.out.trans (hb3.mono HBb.out))
 rw [HR.out]
 clear hb3 HB2 HBb HRp
 rw [HE0.out] at HV
 go_wp2_with fail
 go_ret2
 exact ⟨congrArg Ending.returned HV.out.symm, HB3.out⟩

set_option maxHeartbeats 4000000 in
theorem escape_true (s : ByteArray) (w : World) (hT : U8 w) (hs : s.size ≤ 1073741824) {cs : List Nat} (hc : chars s.data.toList = some cs) :
  Calls Tryz.prog 50 #[.string s, .bool true] w fun e w' => e = .returned (escV true s) ∧ Below w.heap.size w w' := by
 have HC := Lib.hid (valid_any s w (by omega) hT)
 have HT := Lib.hid (text_of_some hc)
 have HV := Lib.hid (escV_some (at_ := true) hc)
 obtain ⟨R, hR⟩ : ∃ R : ByteArray, (⟨(replL escA s.data.toList).toArray⟩ : ByteArray) = R := ⟨_, rfl⟩
 have hRl : R.data.toList = replL escA s.data.toList := by rw [← hR]
 have hRs : R.size ≤ 5 * s.size := by
  have := replL_len (m := 5) (l := escA) (by omega) (by decide) s.data.toList
  rw [← hRl, size_list, size_list] at this
  exact this
 obtain ⟨Z, hZ⟩ : ∃ Z : ByteArray, (⟨(replL escB R.data.toList).toArray⟩ : ByteArray) = Z := ⟨_, rfl⟩
 have HE0 := Lib.hid (show (⟨(escT false s.data.toList).toArray⟩ : ByteArray) = R from hR)
 have HE1 := Lib.hid (show (⟨(escT true s.data.toList).toArray⟩ : ByteArray) = Z by rw [← hZ, hRl]; rfl)
 have HR := Lib.hid hR
 have HZ := Lib.hid hZ
 clear hc hR hRl hZ
 go_enter Tryz.func50, Tryz.ntmps50
 go_wp2_with fail
 refine HC.out.mono ?_
 rintro e w1 ⟨rfl, hb⟩
 rw [HT.out]
 have HB1 := Lib.hid hb
 clear hb HC
 go_wp2_with fail
 refine (new_any w1.heap.size 8 (pairL escA) _ rfl (by decide) (by omega) (by omega) (fun j u hu => cells_new w1 _ _ j u hu) (pairs_one escA)).mono ?_
 rintro e w_ ⟨b, rfl, hnew, hb2⟩
 obtain ⟨g, cap, hbk, hgb, hcells, hBb⟩ := new_parts hnew (by decide)
 have HRp := Lib.hid (replace_any b g cap 8 (.int .u32 0) escA s w_ (by decide) (by decide) (by decide) (by decide) hgb hbk hcells (by decide) escA_keys (by omega) (by decide) (by decide))
 have ha := (HB1.out).alloc HB1.out.size (.cells #[.string ⟨#[38]⟩, .string ⟨#[38, 97, 109, 112, 59]⟩, .string ⟨#[60]⟩, .string ⟨#[38, 108, 116, 59]⟩, .string ⟨#[62]⟩, .string ⟨#[38, 103, 116, 59]⟩, .string ⟨#[13]⟩, .string ⟨#[38, 35, 49, 51, 59]⟩] 9)
 have HB2 := Lib.hid (ha.trans (hb2.mono ha.size))
 have HBb := Lib.hid (Nat.le_trans ha.size hBb)
 clear hnew hbk hgb hcells hBb hb2 HB1 ha
 go_wp2_with fail
 refine HRp.out.mono ?_
 rintro e w3 ⟨rfl, hb3⟩
 have HB3 := Lib.hid (HB2.out.trans (hb3.mono HBb.out))
 rw [HR.out]
 clear hb3 HB2 HBb HRp
 rw [HE1.out] at HV
 go_wp2_with fail
 refine (new_any w3.heap.size 6 (pairL escB) _ rfl (by decide) (by omega) (by omega) (fun j u hu => cells_new w3 _ _ j u hu) (pairs_one escB)).mono ?_
 rintro e w_ ⟨b, rfl, hnew, hb2⟩
 obtain ⟨g, cap, hbk, hgb, hcells, hBb⟩ := new_parts hnew (by decide)
 have HRp := Lib.hid (replace_any b g cap 6 (.int .u32 0) escB R w_ (by decide) (by decide) (by decide) (by decide) hgb hbk hcells (by decide) escB_keys (by omega) (by decide) (by decide))
 have ha := (HB3.out).alloc HB3.out.size (.cells #[.string ⟨#[34]⟩, .string ⟨#[38, 113, 117, 111, 116, 59]⟩, .string ⟨#[9]⟩, .string ⟨#[38, 35, 57, 59]⟩, .string ⟨#[10]⟩, .string ⟨#[38, 35, 49, 48, 59]⟩] 9)
 have HB2 := Lib.hid (ha.trans (hb2.mono ha.size))
 have HBb := Lib.hid (Nat.le_trans ha.size hBb)
 clear hnew hbk hgb hcells hBb hb2 HB3 ha
 go_wp2_with fail
 refine HRp.out.mono ?_
 rintro e w5 ⟨rfl, hb3⟩
 have HB3 := Lib.hid (HB2.out.trans (hb3.mono HBb.out))
 rw [HZ.out]
 clear hb3 HB2 HBb HRp
 go_wp2_with fail
 go_ret2
 exact ⟨congrArg Ending.returned HV.out.symm, HB3.out⟩

theorem escape_any (s : ByteArray) (at_ : Bool) (w : World) (hT : U8 w) (hs : s.size ≤ 1073741824) :
  Calls Tryz.prog 50 #[.string s, .bool at_] w fun e w' => e = .returned (escV at_ s) ∧ Below w.heap.size w w' := by
 cases hc : chars s.data.toList with
 | none => exact escape_no s at_ w hT hs hc
 | some cs =>
  cases at_ with
  | false => exact escape_false s w hT hs hc
  | true => exact escape_true s w hT hs hc
end Go.Proofs.YtanncakdlflopaaGreatDoor

namespace Go.Proofs.YtanncakdlflopaaGreatDoor
open Go.RowKit
set_option linter.unusedVariables false
set_option maxRecDepth 100000

theorem chars_parts {s : ByteArray} {cs : List Nat} (h : chars s.data.toList = some cs) : s.data.toList = cs.flatMap encL ∧ (∀ c ∈ cs, charB c = true) ∧ cs.length ≤ s.size := by
 obtain ⟨h1, h2⟩ := chars_bytes _ _ cs (Nat.le_refl _) h
 refine ⟨h1, h2, ?_⟩
 rw [← size_list s, h1]
 clear h h1
 induction cs with
 | nil => simp
 | cons c cs ih =>
  have := (encL_len (charB_lt (h2 c (by simp)))).1
  have := ih (fun c hc => h2 c (by simp [hc]))
  rw [List.flatMap_cons, List.length_append, List.length_cons]
  omega
end Go.Proofs.YtanncakdlflopaaGreatDoor

namespace Go.Proofs.YtanncakdlflopaaGreatDoor
open Go.RowKit

theorem errStar : "*" ++ "errors.errorString" = "*errors.errorString" := by decide
theorem errRow (u : TypeId) (h : Tryz.prog.typeName? 3 u = some "*errors.errorString") : u = 228 :=
 typeName_ptr_named (nm := "errors.errorString") (by rw [errStar]; kernel_rfl) (by kernel_rfl) (by decide) u (by rw [errStar]; exact h)
theorem gErrR : Tryz.prog.globalNamed "strconv.ErrRange" = some 4 := by kernel_rfl
theorem gErrS : Tryz.prog.globalNamed "strconv.ErrSyntax" = some 3 := by kernel_rfl
theorem gErrRT : (Tryz.prog.globals[4]?).map (·.type) = some 73 := by kernel_rfl
theorem gErrST : (Tryz.prog.globals[3]?).map (·.type) = some 73 := by kernel_rfl
theorem errCells : Tryz.prog.cellsOf 230 = 1 := by kernel_rfl
theorem strCells1 : Tryz.prog.cellsOf 9 = 1 := by kernel_rfl
theorem errs_laid {W : World} {rest : List (String × DataW Unit)} (hR : laidMet Tryz.prog (("strconv.ErrRange", Rows.laid_strconv_ErrRange) :: ("strconv.ErrSyntax", Rows.laid_strconv_ErrSyntax) :: rest) W) : ErrsAt W := by
 obtain ⟨a0, sa, hva, _, _, _⟩ := laid_sentinel hR gErrR gErrRT Tryz.underlying73 errRow Tryz.underlying228 Tryz.underlying230 rfl rfl Tryz.underlying9 errCells strCells1
 obtain ⟨b0, sb, hvb, _, _, _⟩ := laid_sentinel hR.tail gErrS gErrST Tryz.underlying73 errRow Tryz.underlying228 Tryz.underlying230 rfl rfl Tryz.underlying9 errCells strCells1
 exact ⟨⟨_, by simpa using World.var?_cell gErrS hvb 0, .inr ⟨_, _, rfl⟩⟩, ⟨_, by simpa using World.var?_cell gErrR hva 0, .inr ⟨_, _, rfl⟩⟩⟩
end Go.Proofs.YtanncakdlflopaaGreatDoor
