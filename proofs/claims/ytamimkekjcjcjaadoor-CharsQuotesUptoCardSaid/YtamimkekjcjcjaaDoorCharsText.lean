/- The walks over package chars' texts: what a character is, what a text is. -/
import Derived.Test.YtamimkekjcjcjaaDoorCharsName
import Derived.Test.YtamimkekjcjcjaaDoorShelf
import Derived.Shelf.Unicode.ValidAny
import Derived.Shelf.Strings.FuncGrows
namespace Go.Proofs.YtamimkekjcjcjaaDoor
open Go.RowKit
set_option linter.unusedVariables false

/-- Is it a character of a text? -/
def charB (c : Int) : Bool := decide (c = 9 ∨ c = 10 ∨ c = 13 ∨ 32 ≤ c ∧ c ≤ 55295 ∨ 57344 ≤ c ∧ c ≤ 65533 ∨ 65536 ≤ c ∧ c ≤ 1114111)
theorem charB_t {c : Int} (h : c = 9 ∨ c = 10 ∨ c = 13 ∨ 32 ≤ c ∧ c ≤ 55295 ∨ 57344 ≤ c ∧ c ≤ 65533 ∨ 65536 ≤ c ∧ c ≤ 1114111) : charB c = true := decide_eq_true h
theorem charB_f {c : Int} (h : ¬ (c = 9 ∨ c = 10 ∨ c = 13 ∨ 32 ≤ c ∧ c ≤ 55295 ∨ 57344 ≤ c ∧ c ≤ 65533 ∨ 65536 ≤ c ∧ c ≤ 1114111)) : charB c = false := decide_eq_false h

theorem char_split (c : Int) (h0 : 0 ≤ c) (h1 : c ≤ 1114111) : (9 ≤ c ∧ c ≤ 9) ∨ (10 ≤ c ∧ c ≤ 10) ∨ (13 ≤ c ∧ c ≤ 13) ∨ (c ≤ 8) ∨ (11 ≤ c ∧ c ≤ 12) ∨ (14 ≤ c ∧ c < 32) ∨ (32 ≤ c ∧ c < 55296) ∨ (55296 ≤ c ∧ c < 57344) ∨ (57344 ≤ c ∧ c < 65534) ∨ (65534 ≤ c ∧ c ≤ 65534) ∨ (65535 ≤ c ∧ c ≤ 65535) ∨ (65536 ≤ c ∧ c ≤ 1114111) := by omega

set_option maxHeartbeats 2000000 in
theorem char_any (c : Int) (w : World) (h0 : 0 ≤ c) (h1 : c ≤ 1114111) :
    Calls Tryd.prog 25 #[.int .i32 c] w fun e w' => e = .returned (.bool (charB c)) ∧ w = w' := by
  rcases char_split c h0 h1 with ⟨h, h'⟩ | ⟨h, h'⟩ | ⟨h, h'⟩ | h | ⟨h, h'⟩ | ⟨h, h'⟩ | ⟨h, h'⟩ | ⟨h, h'⟩ | ⟨h, h'⟩ | ⟨h, h'⟩ | ⟨h, h'⟩ | ⟨h, h'⟩
  all_goals
    first
      | have HC := Lib.hid (charB_t (c := c) (by omega))
      | have HC := Lib.hid (charB_f (c := c) (by omega))
    first | have b9 : (c == 9) = true := beq_iff_eq.2 (by omega) | have b9 : (c == 9) = false := beq_eq_false_iff_ne.2 (by omega)
    first | have b10 : (c == 10) = true := beq_iff_eq.2 (by omega) | have b10 : (c == 10) = false := beq_eq_false_iff_ne.2 (by omega)
    first | have b13 : (c == 13) = true := beq_iff_eq.2 (by omega) | have b13 : (c == 13) = false := beq_eq_false_iff_ne.2 (by omega)
    first | have b65534 : (c == 65534) = true := beq_iff_eq.2 (by omega) | have b65534 : (c == 65534) = false := beq_eq_false_iff_ne.2 (by omega)
    first | have b65535 : (c == 65535) = true := beq_iff_eq.2 (by omega) | have b65535 : (c == 65535) = false := beq_eq_false_iff_ne.2 (by omega)
    go_enter Tryd.func25, Tryd.ntmps25
    go_wp2
    go_ret
    exact ⟨c_ret_bool (by rw [HC.out]; try (first | rfl | (simp; done) | (simp <;> omega))), rfl⟩

theorem pred_any (x : Nat) (w : World) (h1 : x ≤ 1114111) :
    Calls Tryd.prog 24 #[.int .i32 x] w fun e w' => e = .returned (.bool (!charB x)) ∧ w = w' := by
  go_enter Tryd.func24, Tryd.ntmps24
  go_wp2_with (go_at_call 25; refine (char_any _ _ (by omega) (by omega)).mono ?_; rintro e w' ⟨rfl, rfl⟩)
  go_ret
  exact ⟨rfl, rfl⟩

theorem grows_any (w : World) : PredGrows Tryd.prog 24 #[] (fun x => !charB x) w :=
  fun W x hx _ => (pred_any x W hx).mono fun _ _ ⟨he, hw⟩ => ⟨he, hw ▸ Below.refl _ _⟩

/-- Is it a text? -/
def textB (s : ByteArray) : Bool := Lib.validD s.data.toList && decide (Lib.idxFunc (fun x => !charB x) true s < 0)
/-- The decoder's tables, as they lie. -/
def U8 (w : World) : Prop := Lib.Utf8Tabs (Tryd.lays196_ren.g 3) (Tryd.lays196_ren.g 4) w
theorem U8.below {w w' : World} (h : U8 w) (hb : Below w.heap.size w w') : U8 w' := by
  obtain ⟨h1, h2⟩ := h
  exact ⟨fun c hc => cell_later hb (h1 c hc), fun i hi => ⟨cell_later hb (h2 i hi).1, cell_later hb (h2 i hi).2⟩⟩

set_option maxHeartbeats 1000000 in
theorem valid_any (s : ByteArray) (w : World) (hs : s.size ≤ 9223372036854775807) (hT : U8 w) :
    Calls Tryd.prog 12 #[.string s] w fun e w' => e = .returned (.bool (textB s)) ∧ Below w.heap.size w w' := by
  have HV := fun W (h : U8 W) => Any.utf8_ValidString Tryd.lays196 s W hs h
  have cV := HV w hT
  change Calls Tryd.prog 22 #[.string s] w (fun e w' => e = .returned (.bool (Lib.validD s.data.toList)) ∧ Below w.heap.size w w') at cV
  have HcV := Lib.hid cV
  clear cV HV
  cases hv : Lib.validD s.data.toList
  · have HX := Lib.hid (show textB s = false by unfold textB; rw [hv]; rfl)
    have Hv := Lib.hid hv
    clear hv
    go_enter Tryd.func12, Tryd.ntmps12
    go_wp2_with fail
    refine HcV.out.mono ?_
    rintro e w1 ⟨rfl, hb1⟩
    rw [Hv.out]
    go_wp2
    go_ret
    exact ⟨c_ret_bool HX.out.symm, hb1⟩
  · have HX := Lib.hid (show textB s = decide (Lib.idxFunc (fun x => !charB x) true s < 0) by unfold textB; rw [hv]; rfl)
    have Hv := Lib.hid hv
    have hr := Lib.idxFuncFrom_range (fun x => !charB x) true s s.size 0
    have hr1 : -1 ≤ Lib.idxFunc (fun x => !charB x) true s ∧ Lib.idxFunc (fun x => !charB x) true s ≤ 9223372036854775807 := by
      unfold Lib.idxFunc
      rcases hr with h | ⟨h, h'⟩ <;> omega
    obtain ⟨r1, r2⟩ := hr1
    clear hv hr
    generalize hI : Lib.idxFunc (fun x => !charB x) true s = I at *
    have HI := Lib.hid hI
    clear hI
    go_enter Tryd.func12, Tryd.ntmps12
    go_wp2_with fail
    refine HcV.out.mono ?_
    rintro e w1 ⟨rfl, hb1⟩
    rw [Hv.out]
    go_wp2_with fail
    refine (Tryd.strings_IndexFunc_grows 24 #[] (enters_of Tryd.func24 (by kernel_rfl) rfl) (fun x => !charB x) s _ (grows_any _)).mono ?_
    rintro e w2 ⟨rfl, hb2⟩
    rw [HI.out]
    go_wp2
    go_ret
    exact ⟨c_ret_bool HX.out.symm, hb1.trans (hb2.mono hb1.size)⟩
end Go.Proofs.YtamimkekjcjcjaaDoor
