/- The walks over package chars' names and keywords, and the reference's. -/
import Derived.Test.YtamimkekjcjcjaaDoorProg
import Derived.WalkKit
import Derived.WalkSpells
import Derived.WalkLawsBesides
import Derived.Lib.Hide
import Derived.Lib.Strings
namespace Go.Proofs.YtamimkekjcjcjaaDoor
open Go.RowKit
set_option linter.unusedVariables false

theorem c_ret_bool {a b : Bool} (h : a = b) : Ending.returned (.bool a) = .returned (.bool b) := by rw [h]

/-- Is it a keyword? -/
def wordL : List (List UInt8) := [[97, 110, 100], [98, 101, 116, 119, 101, 101, 110], [101, 108, 115, 101], [102, 97, 108, 115, 101], [105, 102], [105, 110], [110, 111, 116], [110, 117, 108, 108], [111, 114], [116, 104, 101, 110], [116, 114, 117, 101]]
def wordB (l : List UInt8) : Bool := l == [97, 110, 100] || l == [98, 101, 116, 119, 101, 101, 110] || l == [101, 108, 115, 101] || l == [102, 97, 108, 115, 101] || l == [105, 102] || l == [105, 110] || l == [110, 111, 116] || l == [110, 117, 108, 108] || l == [111, 114] || l == [116, 104, 101, 110] || l == [116, 114, 117, 101]

set_option maxHeartbeats 1000000 in
theorem word_any (s : ByteArray) (w : World) :
    Calls Tryd.prog 9 #[.string s] w fun e w' => e = .returned (.bool (wordB s.toList)) ∧ w = w' := by
  by_cases h0 : (s.toList == [97, 110, 100]) = true
  · have HW := Lib.hid (show wordB s.toList = true by unfold wordB; rw [h0]; simp)
    go_enter Tryd.func9, Tryd.ntmps9
    go_wp2
    go_ret
    exact ⟨c_ret_bool HW.out.symm, rfl⟩
  rw [Bool.not_eq_true] at h0
  by_cases h1 : (s.toList == [98, 101, 116, 119, 101, 101, 110]) = true
  · have HW := Lib.hid (show wordB s.toList = true by unfold wordB; rw [h1]; simp)
    go_enter Tryd.func9, Tryd.ntmps9
    go_wp2
    go_ret
    exact ⟨c_ret_bool HW.out.symm, rfl⟩
  rw [Bool.not_eq_true] at h1
  by_cases h2 : (s.toList == [101, 108, 115, 101]) = true
  · have HW := Lib.hid (show wordB s.toList = true by unfold wordB; rw [h2]; simp)
    go_enter Tryd.func9, Tryd.ntmps9
    go_wp2
    go_ret
    exact ⟨c_ret_bool HW.out.symm, rfl⟩
  rw [Bool.not_eq_true] at h2
  by_cases h3 : (s.toList == [102, 97, 108, 115, 101]) = true
  · have HW := Lib.hid (show wordB s.toList = true by unfold wordB; rw [h3]; simp)
    go_enter Tryd.func9, Tryd.ntmps9
    go_wp2
    go_ret
    exact ⟨c_ret_bool HW.out.symm, rfl⟩
  rw [Bool.not_eq_true] at h3
  by_cases h4 : (s.toList == [105, 102]) = true
  · have HW := Lib.hid (show wordB s.toList = true by unfold wordB; rw [h4]; simp)
    go_enter Tryd.func9, Tryd.ntmps9
    go_wp2
    go_ret
    exact ⟨c_ret_bool HW.out.symm, rfl⟩
  rw [Bool.not_eq_true] at h4
  by_cases h5 : (s.toList == [105, 110]) = true
  · have HW := Lib.hid (show wordB s.toList = true by unfold wordB; rw [h5]; simp)
    go_enter Tryd.func9, Tryd.ntmps9
    go_wp2
    go_ret
    exact ⟨c_ret_bool HW.out.symm, rfl⟩
  rw [Bool.not_eq_true] at h5
  by_cases h6 : (s.toList == [110, 111, 116]) = true
  · have HW := Lib.hid (show wordB s.toList = true by unfold wordB; rw [h6]; simp)
    go_enter Tryd.func9, Tryd.ntmps9
    go_wp2
    go_ret
    exact ⟨c_ret_bool HW.out.symm, rfl⟩
  rw [Bool.not_eq_true] at h6
  by_cases h7 : (s.toList == [110, 117, 108, 108]) = true
  · have HW := Lib.hid (show wordB s.toList = true by unfold wordB; rw [h7]; simp)
    go_enter Tryd.func9, Tryd.ntmps9
    go_wp2
    go_ret
    exact ⟨c_ret_bool HW.out.symm, rfl⟩
  rw [Bool.not_eq_true] at h7
  by_cases h8 : (s.toList == [111, 114]) = true
  · have HW := Lib.hid (show wordB s.toList = true by unfold wordB; rw [h8]; simp)
    go_enter Tryd.func9, Tryd.ntmps9
    go_wp2
    go_ret
    exact ⟨c_ret_bool HW.out.symm, rfl⟩
  rw [Bool.not_eq_true] at h8
  by_cases h9 : (s.toList == [116, 104, 101, 110]) = true
  · have HW := Lib.hid (show wordB s.toList = true by unfold wordB; rw [h9]; simp)
    go_enter Tryd.func9, Tryd.ntmps9
    go_wp2
    go_ret
    exact ⟨c_ret_bool HW.out.symm, rfl⟩
  rw [Bool.not_eq_true] at h9
  by_cases h10 : (s.toList == [116, 114, 117, 101]) = true
  · have HW := Lib.hid (show wordB s.toList = true by unfold wordB; rw [h10]; simp)
    go_enter Tryd.func9, Tryd.ntmps9
    go_wp2
    go_ret
    exact ⟨c_ret_bool HW.out.symm, rfl⟩
  rw [Bool.not_eq_true] at h10
  have HW := Lib.hid (show wordB s.toList = false by unfold wordB; rw [h0, h1, h2, h3, h4, h5, h6, h7, h8, h9, h10]; rfl)
  go_enter Tryd.func9, Tryd.ntmps9
  go_wp2
  go_ret
  exact ⟨c_ret_bool HW.out.symm, rfl⟩

set_option maxHeartbeats 1000000 in
theorem rword_any (s : ByteArray) (w : World) :
    Calls Tryd.prog 10 #[.string s] w fun e w' => e = .returned (.bool (wordB s.toList)) ∧ w = w' := by
  by_cases h0 : (s.toList == [97, 110, 100]) = true
  · have HW := Lib.hid (show wordB s.toList = true by unfold wordB; rw [h0]; simp)
    go_enter Tryd.func10, Tryd.ntmps10
    go_wp2
    go_ret
    exact ⟨c_ret_bool HW.out.symm, rfl⟩
  rw [Bool.not_eq_true] at h0
  by_cases h1 : (s.toList == [98, 101, 116, 119, 101, 101, 110]) = true
  · have HW := Lib.hid (show wordB s.toList = true by unfold wordB; rw [h1]; simp)
    go_enter Tryd.func10, Tryd.ntmps10
    go_wp2
    go_ret
    exact ⟨c_ret_bool HW.out.symm, rfl⟩
  rw [Bool.not_eq_true] at h1
  by_cases h2 : (s.toList == [101, 108, 115, 101]) = true
  · have HW := Lib.hid (show wordB s.toList = true by unfold wordB; rw [h2]; simp)
    go_enter Tryd.func10, Tryd.ntmps10
    go_wp2
    go_ret
    exact ⟨c_ret_bool HW.out.symm, rfl⟩
  rw [Bool.not_eq_true] at h2
  by_cases h3 : (s.toList == [102, 97, 108, 115, 101]) = true
  · have HW := Lib.hid (show wordB s.toList = true by unfold wordB; rw [h3]; simp)
    go_enter Tryd.func10, Tryd.ntmps10
    go_wp2
    go_ret
    exact ⟨c_ret_bool HW.out.symm, rfl⟩
  rw [Bool.not_eq_true] at h3
  by_cases h4 : (s.toList == [105, 102]) = true
  · have HW := Lib.hid (show wordB s.toList = true by unfold wordB; rw [h4]; simp)
    go_enter Tryd.func10, Tryd.ntmps10
    go_wp2
    go_ret
    exact ⟨c_ret_bool HW.out.symm, rfl⟩
  rw [Bool.not_eq_true] at h4
  by_cases h5 : (s.toList == [105, 110]) = true
  · have HW := Lib.hid (show wordB s.toList = true by unfold wordB; rw [h5]; simp)
    go_enter Tryd.func10, Tryd.ntmps10
    go_wp2
    go_ret
    exact ⟨c_ret_bool HW.out.symm, rfl⟩
  rw [Bool.not_eq_true] at h5
  by_cases h6 : (s.toList == [110, 111, 116]) = true
  · have HW := Lib.hid (show wordB s.toList = true by unfold wordB; rw [h6]; simp)
    go_enter Tryd.func10, Tryd.ntmps10
    go_wp2
    go_ret
    exact ⟨c_ret_bool HW.out.symm, rfl⟩
  rw [Bool.not_eq_true] at h6
  by_cases h7 : (s.toList == [110, 117, 108, 108]) = true
  · have HW := Lib.hid (show wordB s.toList = true by unfold wordB; rw [h7]; simp)
    go_enter Tryd.func10, Tryd.ntmps10
    go_wp2
    go_ret
    exact ⟨c_ret_bool HW.out.symm, rfl⟩
  rw [Bool.not_eq_true] at h7
  by_cases h8 : (s.toList == [111, 114]) = true
  · have HW := Lib.hid (show wordB s.toList = true by unfold wordB; rw [h8]; simp)
    go_enter Tryd.func10, Tryd.ntmps10
    go_wp2
    go_ret
    exact ⟨c_ret_bool HW.out.symm, rfl⟩
  rw [Bool.not_eq_true] at h8
  by_cases h9 : (s.toList == [116, 104, 101, 110]) = true
  · have HW := Lib.hid (show wordB s.toList = true by unfold wordB; rw [h9]; simp)
    go_enter Tryd.func10, Tryd.ntmps10
    go_wp2
    go_ret
    exact ⟨c_ret_bool HW.out.symm, rfl⟩
  rw [Bool.not_eq_true] at h9
  by_cases h10 : (s.toList == [116, 114, 117, 101]) = true
  · have HW := Lib.hid (show wordB s.toList = true by unfold wordB; rw [h10]; simp)
    go_enter Tryd.func10, Tryd.ntmps10
    go_wp2
    go_ret
    exact ⟨c_ret_bool HW.out.symm, rfl⟩
  rw [Bool.not_eq_true] at h10
  have HW := Lib.hid (show wordB s.toList = false by unfold wordB; rw [h0, h1, h2, h3, h4, h5, h6, h7, h8, h9, h10]; rfl)
  go_enter Tryd.func10, Tryd.ntmps10
  go_wp2
  go_ret
  exact ⟨c_ret_bool HW.out.symm, rfl⟩

def letB (c : Int) : Bool := decide (97 ≤ c ∧ c ≤ 122 ∨ 65 ≤ c ∧ c ≤ 90 ∨ c = 95)
def decB (c : Int) : Bool := decide (48 ≤ c ∧ c ≤ 57)
theorem letB_t {c : Int} (h : 97 ≤ c ∧ c ≤ 122 ∨ 65 ≤ c ∧ c ≤ 90 ∨ c = 95) : letB c = true := decide_eq_true h
theorem letB_f {c : Int} (h : ¬ (97 ≤ c ∧ c ≤ 122 ∨ 65 ≤ c ∧ c ≤ 90 ∨ c = 95)) : letB c = false := decide_eq_false h
theorem decB_t {c : Int} (h : 48 ≤ c ∧ c ≤ 57) : decB c = true := decide_eq_true h
theorem decB_f {c : Int} (h : ¬ (48 ≤ c ∧ c ≤ 57)) : decB c = false := decide_eq_false h

/-- Where a byte lies, as the tests ask. -/
theorem byte_split (c : Int) : (c < 48) ∨ (48 ≤ c ∧ c ≤ 57) ∨ (57 < c ∧ c < 65) ∨ (65 ≤ c ∧ c ≤ 90) ∨ (90 < c ∧ c < 95) ∨ (c = 95) ∨ (95 < c ∧ c < 97) ∨ (97 ≤ c ∧ c ≤ 122) ∨ (122 < c) := by omega

set_option maxHeartbeats 1000000 in
theorem letter_any (c : Int) (w : World) :
    Calls Tryd.prog 19 #[.int .u8 c] w fun e w' => e = .returned (.bool (letB c)) ∧ w = w' := by
  rcases byte_split c with h | ⟨h, h'⟩ | ⟨h, h'⟩ | ⟨h, h'⟩ | ⟨h, h'⟩ | h | ⟨h, h'⟩ | ⟨h, h'⟩ | h
  all_goals
    first
      | have HL := Lib.hid (letB_f (c := c) (by omega))
      | have HL := Lib.hid (letB_t (c := c) (by omega))
    try subst h
    go_enter Tryd.func19, Tryd.ntmps19
    go_wp2
    go_ret
    exact ⟨c_ret_bool (by rw [HL.out]; try (first | rfl | (simp; done) | (simp <;> omega))), rfl⟩

set_option maxHeartbeats 1000000 in
theorem digit_any (c : Int) (w : World) :
    Calls Tryd.prog 20 #[.int .u8 c] w fun e w' => e = .returned (.bool (decB c)) ∧ w = w' := by
  by_cases h : 48 ≤ c
  · by_cases h' : c ≤ 57
    · have HL := Lib.hid (decB_t ⟨h, h'⟩)
      go_enter Tryd.func20, Tryd.ntmps20
      go_wp2
      go_ret
      exact ⟨c_ret_bool HL.out.symm, rfl⟩
    · have HL := Lib.hid (decB_f (c := c) (by omega))
      go_enter Tryd.func20, Tryd.ntmps20
      go_wp2
      go_ret
      exact ⟨c_ret_bool HL.out.symm, rfl⟩
  · have HL := Lib.hid (decB_f (c := c) (by omega))
    go_enter Tryd.func20, Tryd.ntmps20
    go_wp2
    go_ret
    exact ⟨c_ret_bool HL.out.symm, rfl⟩

/-- The letters and digits behind the first: all so? -/
def restB (l : List UInt8) : Bool := l.all fun b => letB b.toNat || decB b.toNat
def nameB (s : ByteArray) : Bool := !s.toList.isEmpty && decide (s.size ≤ 64) && !wordB s.toList && (s.data.toList.take 1).all (fun b => letB b.toNat) && restB s.data.toList

theorem restB_take {l : List UInt8} {k : Nat} {b : UInt8} (hb : l[k]? = some b) : restB (l.take (k + 1)) = (restB (l.take k) && (letB b.toNat || decB b.toNat)) := by
  unfold restB
  rw [List.take_add_one, hb]
  simp
theorem restB_not {l : List UInt8} {k : Nat} (h : restB (l.take k) = false) : restB l = false := by
  unfold restB at h ⊢
  rw [List.all_eq_false] at h ⊢
  obtain ⟨b, hb, hn⟩ := h
  exact ⟨b, List.mem_of_mem_take hb, hn⟩
theorem c_at {s : ByteArray} {k : Nat} (h : k < s.size) : s.data.toList[k]? = some s[k] := by
  rw [List.getElem?_eq_getElem (by simpa using h)]; rfl
theorem c_take {s : ByteArray} {k : Nat} (h : s.size ≤ k) : s.data.toList.take k = s.data.toList := List.take_of_length_le (by simpa using h)
theorem first_take {l : List UInt8} {k : Nat} {b : UInt8} (hb : l[k]? = some b) (hk : k = 0) : (l.take 1).all (fun b => letB b.toNat) = letB b.toNat := by
  subst hk
  rw [List.take_add_one, hb]
  simp
theorem c_byte (b : UInt8) : 0 ≤ (b.toNat : Int) ∧ (b.toNat : Int) ≤ 255 := by have := b.toNat_lt; omega

set_option maxHeartbeats 2000000 in
theorem name_loop (s : ByteArray) (w : World) (h0 : s.toList.isEmpty = false) (h1 : s.size ≤ 64) (hw : wordB s.toList = false) :
    Calls Tryd.prog 7 #[.string s] w fun e w' => e = .returned (.bool ((s.data.toList.take 1).all (fun b => letB b.toNat) && restB s.data.toList)) ∧ w = w' := by
  have HW := Lib.hid hw
  clear hw
  go_enter Tryd.func7, Tryd.ntmps7
  go_wp2_with (go_at_call 9; refine (word_any _ _).mono ?_; rintro e w' ⟨rfl, rfl⟩; rw [HW.out])
  go_loop [19] (fun iv => ∃ k : Nat, k ≤ s.size ∧ Hid (restB (s.data.toList.take k) = true) ∧ Hid (0 < k → (s.data.toList.take 1).all (fun b => letB b.toNat) = true) ∧ iv = .int .i64 k) (fun iv => s.size - (intOf iv).toNat)
  case atStart => exact ⟨0, by omega, rfl, fun h => by omega, rfl⟩
  case round =>
    obtain ⟨k, hk, HR, HF, rfl⟩ := hrel
    by_cases hlt : k < s.size
    · have hb := c_at hlt
      have HT := Lib.hid (restB_take hb)
      have HFi := Lib.hid (fun h => first_take (k := k) hb h)
      clear hb
      cases hk0 : ((k : Int) == 0)
      · rcases byte_split (s[k].toNat : Int) with h | ⟨h, h'⟩ | ⟨h, h'⟩ | ⟨h, h'⟩ | ⟨h, h'⟩ | h | ⟨h, h'⟩ | ⟨h, h'⟩ | h
        · have HL := Lib.hid (letB_f (c := (s[k].toNat : Int)) (by omega))
          have HD := Lib.hid (decB_f (c := (s[k].toNat : Int)) (by omega))
          have HX := Lib.hid (show ((s.data.toList.take 1).all (fun b => letB b.toNat) && restB s.data.toList) = false by rw [restB_not (k := k + 1) (by rw [HT.out, HR.out, HL.out, HD.out]; rfl)]; exact Bool.and_false _)
          have h5 : ((s[k].toNat : Int) == 95) = false := beq_eq_false_iff_ne.2 (by omega)
          have g1 : 90 < (s[k].toNat : Int) → decide ((s[k].toNat : Int) ≤ 90) = false := fun _ => decide_eq_false (by omega)
          have g2 : 122 < (s[k].toNat : Int) → decide ((s[k].toNat : Int) ≤ 122) = false := fun _ => decide_eq_false (by omega)
          have g3 : 57 < (s[k].toNat : Int) → decide ((s[k].toNat : Int) ≤ 57) = false := fun _ => decide_eq_false (by omega)
          first | replace g1 := g1 (by omega) | clear g1
          first | replace g2 := g2 (by omega) | clear g2
          first | replace g3 := g3 (by omega) | clear g3
          go_wp2
          go_ret
          exact ⟨c_ret_bool HX.out.symm, rfl⟩
        · have HL := Lib.hid (letB_f (c := (s[k].toNat : Int)) (by omega))
          have HD := Lib.hid (decB_t (c := (s[k].toNat : Int)) (by omega))
          have HN := Lib.hid (show restB (s.data.toList.take (k + 1)) = true by rw [HT.out, HR.out, HL.out, HD.out]; rfl)
          have HG := Lib.hid (HF.out (by rw [beq_eq_false_iff_ne] at hk0; omega))
          go_wp2
          go_round
          case rel => exact ⟨k + 1, by omega, HN, fun _ => HG.out, by go_num⟩
          case measure => simp [intOf]; omega
        · have HL := Lib.hid (letB_f (c := (s[k].toNat : Int)) (by omega))
          have HD := Lib.hid (decB_f (c := (s[k].toNat : Int)) (by omega))
          have HX := Lib.hid (show ((s.data.toList.take 1).all (fun b => letB b.toNat) && restB s.data.toList) = false by rw [restB_not (k := k + 1) (by rw [HT.out, HR.out, HL.out, HD.out]; rfl)]; exact Bool.and_false _)
          have h5 : ((s[k].toNat : Int) == 95) = false := beq_eq_false_iff_ne.2 (by omega)
          have g1 : 90 < (s[k].toNat : Int) → decide ((s[k].toNat : Int) ≤ 90) = false := fun _ => decide_eq_false (by omega)
          have g2 : 122 < (s[k].toNat : Int) → decide ((s[k].toNat : Int) ≤ 122) = false := fun _ => decide_eq_false (by omega)
          have g3 : 57 < (s[k].toNat : Int) → decide ((s[k].toNat : Int) ≤ 57) = false := fun _ => decide_eq_false (by omega)
          first | replace g1 := g1 (by omega) | clear g1
          first | replace g2 := g2 (by omega) | clear g2
          first | replace g3 := g3 (by omega) | clear g3
          go_wp2
          go_ret
          exact ⟨c_ret_bool HX.out.symm, rfl⟩
        · have HL := Lib.hid (letB_t (c := (s[k].toNat : Int)) (by omega))
          have HD := Lib.hid (decB_f (c := (s[k].toNat : Int)) (by omega))
          have HN := Lib.hid (show restB (s.data.toList.take (k + 1)) = true by rw [HT.out, HR.out, HL.out, HD.out]; rfl)
          have HG := Lib.hid (HF.out (by rw [beq_eq_false_iff_ne] at hk0; omega))
          go_wp2
          go_round
          case rel => exact ⟨k + 1, by omega, HN, fun _ => HG.out, by go_num⟩
          case measure => simp [intOf]; omega
        · have HL := Lib.hid (letB_f (c := (s[k].toNat : Int)) (by omega))
          have HD := Lib.hid (decB_f (c := (s[k].toNat : Int)) (by omega))
          have HX := Lib.hid (show ((s.data.toList.take 1).all (fun b => letB b.toNat) && restB s.data.toList) = false by rw [restB_not (k := k + 1) (by rw [HT.out, HR.out, HL.out, HD.out]; rfl)]; exact Bool.and_false _)
          have h5 : ((s[k].toNat : Int) == 95) = false := beq_eq_false_iff_ne.2 (by omega)
          have g1 : 90 < (s[k].toNat : Int) → decide ((s[k].toNat : Int) ≤ 90) = false := fun _ => decide_eq_false (by omega)
          have g2 : 122 < (s[k].toNat : Int) → decide ((s[k].toNat : Int) ≤ 122) = false := fun _ => decide_eq_false (by omega)
          have g3 : 57 < (s[k].toNat : Int) → decide ((s[k].toNat : Int) ≤ 57) = false := fun _ => decide_eq_false (by omega)
          first | replace g1 := g1 (by omega) | clear g1
          first | replace g2 := g2 (by omega) | clear g2
          first | replace g3 := g3 (by omega) | clear g3
          go_wp2
          go_ret
          exact ⟨c_ret_bool HX.out.symm, rfl⟩
        · have HL := Lib.hid (letB_t (c := (s[k].toNat : Int)) (by omega))
          have HD := Lib.hid (decB_f (c := (s[k].toNat : Int)) (by omega))
          have HN := Lib.hid (show restB (s.data.toList.take (k + 1)) = true by rw [HT.out, HR.out, HL.out, HD.out]; rfl)
          have HG := Lib.hid (HF.out (by rw [beq_eq_false_iff_ne] at hk0; omega))
          have h5 : ((s[k].toNat : Int) == 95) = true := beq_iff_eq.2 h
          have h6 : (s[k].toNat : Int) ≤ 95 := by omega
          have h7 : 95 ≤ (s[k].toNat : Int) := by omega
          have g1 : decide ((s[k].toNat : Int) ≤ 90) = false := decide_eq_false (by omega)
          clear h
          go_wp2
          go_round
          case rel => exact ⟨k + 1, by omega, HN, fun _ => HG.out, by go_num⟩
          case measure => simp [intOf]; omega
        · have HL := Lib.hid (letB_f (c := (s[k].toNat : Int)) (by omega))
          have HD := Lib.hid (decB_f (c := (s[k].toNat : Int)) (by omega))
          have HX := Lib.hid (show ((s.data.toList.take 1).all (fun b => letB b.toNat) && restB s.data.toList) = false by rw [restB_not (k := k + 1) (by rw [HT.out, HR.out, HL.out, HD.out]; rfl)]; exact Bool.and_false _)
          have h5 : ((s[k].toNat : Int) == 95) = false := beq_eq_false_iff_ne.2 (by omega)
          have g1 : 90 < (s[k].toNat : Int) → decide ((s[k].toNat : Int) ≤ 90) = false := fun _ => decide_eq_false (by omega)
          have g2 : 122 < (s[k].toNat : Int) → decide ((s[k].toNat : Int) ≤ 122) = false := fun _ => decide_eq_false (by omega)
          have g3 : 57 < (s[k].toNat : Int) → decide ((s[k].toNat : Int) ≤ 57) = false := fun _ => decide_eq_false (by omega)
          first | replace g1 := g1 (by omega) | clear g1
          first | replace g2 := g2 (by omega) | clear g2
          first | replace g3 := g3 (by omega) | clear g3
          go_wp2
          go_ret
          exact ⟨c_ret_bool HX.out.symm, rfl⟩
        · have HL := Lib.hid (letB_t (c := (s[k].toNat : Int)) (by omega))
          have HD := Lib.hid (decB_f (c := (s[k].toNat : Int)) (by omega))
          have HN := Lib.hid (show restB (s.data.toList.take (k + 1)) = true by rw [HT.out, HR.out, HL.out, HD.out]; rfl)
          have HG := Lib.hid (HF.out (by rw [beq_eq_false_iff_ne] at hk0; omega))
          go_wp2
          go_round
          case rel => exact ⟨k + 1, by omega, HN, fun _ => HG.out, by go_num⟩
          case measure => simp [intOf]; omega
        · have HL := Lib.hid (letB_f (c := (s[k].toNat : Int)) (by omega))
          have HD := Lib.hid (decB_f (c := (s[k].toNat : Int)) (by omega))
          have HX := Lib.hid (show ((s.data.toList.take 1).all (fun b => letB b.toNat) && restB s.data.toList) = false by rw [restB_not (k := k + 1) (by rw [HT.out, HR.out, HL.out, HD.out]; rfl)]; exact Bool.and_false _)
          have h5 : ((s[k].toNat : Int) == 95) = false := beq_eq_false_iff_ne.2 (by omega)
          have g1 : 90 < (s[k].toNat : Int) → decide ((s[k].toNat : Int) ≤ 90) = false := fun _ => decide_eq_false (by omega)
          have g2 : 122 < (s[k].toNat : Int) → decide ((s[k].toNat : Int) ≤ 122) = false := fun _ => decide_eq_false (by omega)
          have g3 : 57 < (s[k].toNat : Int) → decide ((s[k].toNat : Int) ≤ 57) = false := fun _ => decide_eq_false (by omega)
          first | replace g1 := g1 (by omega) | clear g1
          first | replace g2 := g2 (by omega) | clear g2
          first | replace g3 := g3 (by omega) | clear g3
          go_wp2
          go_ret
          exact ⟨c_ret_bool HX.out.symm, rfl⟩
      · rcases byte_split (s[k].toNat : Int) with h | ⟨h, h'⟩ | ⟨h, h'⟩ | ⟨h, h'⟩ | ⟨h, h'⟩ | h | ⟨h, h'⟩ | ⟨h, h'⟩ | h
        · have HL := Lib.hid (letB_f (c := (s[k].toNat : Int)) (by omega))
          have HD := Lib.hid (decB_f (c := (s[k].toNat : Int)) (by omega))
          have HX := Lib.hid (show ((s.data.toList.take 1).all (fun b => letB b.toNat) && restB s.data.toList) = false by rw [HFi.out (by rw [beq_iff_eq] at hk0; omega), HL.out]; rfl)
          have h5 : ((s[k].toNat : Int) == 95) = false := beq_eq_false_iff_ne.2 (by omega)
          have g1 : 90 < (s[k].toNat : Int) → decide ((s[k].toNat : Int) ≤ 90) = false := fun _ => decide_eq_false (by omega)
          have g2 : 122 < (s[k].toNat : Int) → decide ((s[k].toNat : Int) ≤ 122) = false := fun _ => decide_eq_false (by omega)
          have g3 : 57 < (s[k].toNat : Int) → decide ((s[k].toNat : Int) ≤ 57) = false := fun _ => decide_eq_false (by omega)
          first | replace g1 := g1 (by omega) | clear g1
          first | replace g2 := g2 (by omega) | clear g2
          first | replace g3 := g3 (by omega) | clear g3
          go_wp2
          go_ret
          exact ⟨c_ret_bool HX.out.symm, rfl⟩
        · have HL := Lib.hid (letB_f (c := (s[k].toNat : Int)) (by omega))
          have HD := Lib.hid (decB_t (c := (s[k].toNat : Int)) (by omega))
          have HX := Lib.hid (show ((s.data.toList.take 1).all (fun b => letB b.toNat) && restB s.data.toList) = false by rw [HFi.out (by rw [beq_iff_eq] at hk0; omega), HL.out]; rfl)
          have h5 : ((s[k].toNat : Int) == 95) = false := beq_eq_false_iff_ne.2 (by omega)
          have g1 : 90 < (s[k].toNat : Int) → decide ((s[k].toNat : Int) ≤ 90) = false := fun _ => decide_eq_false (by omega)
          have g2 : 122 < (s[k].toNat : Int) → decide ((s[k].toNat : Int) ≤ 122) = false := fun _ => decide_eq_false (by omega)
          have g3 : 57 < (s[k].toNat : Int) → decide ((s[k].toNat : Int) ≤ 57) = false := fun _ => decide_eq_false (by omega)
          first | replace g1 := g1 (by omega) | clear g1
          first | replace g2 := g2 (by omega) | clear g2
          first | replace g3 := g3 (by omega) | clear g3
          go_wp2
          go_ret
          exact ⟨c_ret_bool HX.out.symm, rfl⟩
        · have HL := Lib.hid (letB_f (c := (s[k].toNat : Int)) (by omega))
          have HD := Lib.hid (decB_f (c := (s[k].toNat : Int)) (by omega))
          have HX := Lib.hid (show ((s.data.toList.take 1).all (fun b => letB b.toNat) && restB s.data.toList) = false by rw [HFi.out (by rw [beq_iff_eq] at hk0; omega), HL.out]; rfl)
          have h5 : ((s[k].toNat : Int) == 95) = false := beq_eq_false_iff_ne.2 (by omega)
          have g1 : 90 < (s[k].toNat : Int) → decide ((s[k].toNat : Int) ≤ 90) = false := fun _ => decide_eq_false (by omega)
          have g2 : 122 < (s[k].toNat : Int) → decide ((s[k].toNat : Int) ≤ 122) = false := fun _ => decide_eq_false (by omega)
          have g3 : 57 < (s[k].toNat : Int) → decide ((s[k].toNat : Int) ≤ 57) = false := fun _ => decide_eq_false (by omega)
          first | replace g1 := g1 (by omega) | clear g1
          first | replace g2 := g2 (by omega) | clear g2
          first | replace g3 := g3 (by omega) | clear g3
          go_wp2
          go_ret
          exact ⟨c_ret_bool HX.out.symm, rfl⟩
        · have HL := Lib.hid (letB_t (c := (s[k].toNat : Int)) (by omega))
          have HD := Lib.hid (decB_f (c := (s[k].toNat : Int)) (by omega))
          have HN := Lib.hid (show restB (s.data.toList.take (k + 1)) = true by rw [HT.out, HR.out, HL.out, HD.out]; rfl)
          have HG := Lib.hid (show (s.data.toList.take 1).all (fun b => letB b.toNat) = true by rw [HFi.out (by rw [beq_iff_eq] at hk0; omega)]; exact HL.out)
          go_wp2
          go_round
          case rel => exact ⟨k + 1, by omega, HN, fun _ => HG.out, by go_num⟩
          case measure => simp [intOf]; omega
        · have HL := Lib.hid (letB_f (c := (s[k].toNat : Int)) (by omega))
          have HD := Lib.hid (decB_f (c := (s[k].toNat : Int)) (by omega))
          have HX := Lib.hid (show ((s.data.toList.take 1).all (fun b => letB b.toNat) && restB s.data.toList) = false by rw [HFi.out (by rw [beq_iff_eq] at hk0; omega), HL.out]; rfl)
          have h5 : ((s[k].toNat : Int) == 95) = false := beq_eq_false_iff_ne.2 (by omega)
          have g1 : 90 < (s[k].toNat : Int) → decide ((s[k].toNat : Int) ≤ 90) = false := fun _ => decide_eq_false (by omega)
          have g2 : 122 < (s[k].toNat : Int) → decide ((s[k].toNat : Int) ≤ 122) = false := fun _ => decide_eq_false (by omega)
          have g3 : 57 < (s[k].toNat : Int) → decide ((s[k].toNat : Int) ≤ 57) = false := fun _ => decide_eq_false (by omega)
          first | replace g1 := g1 (by omega) | clear g1
          first | replace g2 := g2 (by omega) | clear g2
          first | replace g3 := g3 (by omega) | clear g3
          go_wp2
          go_ret
          exact ⟨c_ret_bool HX.out.symm, rfl⟩
        · have HL := Lib.hid (letB_t (c := (s[k].toNat : Int)) (by omega))
          have HD := Lib.hid (decB_f (c := (s[k].toNat : Int)) (by omega))
          have HN := Lib.hid (show restB (s.data.toList.take (k + 1)) = true by rw [HT.out, HR.out, HL.out, HD.out]; rfl)
          have HG := Lib.hid (show (s.data.toList.take 1).all (fun b => letB b.toNat) = true by rw [HFi.out (by rw [beq_iff_eq] at hk0; omega)]; exact HL.out)
          have h5 : ((s[k].toNat : Int) == 95) = true := beq_iff_eq.2 h
          have h6 : (s[k].toNat : Int) ≤ 95 := by omega
          have h7 : 95 ≤ (s[k].toNat : Int) := by omega
          have g1 : decide ((s[k].toNat : Int) ≤ 90) = false := decide_eq_false (by omega)
          clear h
          go_wp2
          go_round
          case rel => exact ⟨k + 1, by omega, HN, fun _ => HG.out, by go_num⟩
          case measure => simp [intOf]; omega
        · have HL := Lib.hid (letB_f (c := (s[k].toNat : Int)) (by omega))
          have HD := Lib.hid (decB_f (c := (s[k].toNat : Int)) (by omega))
          have HX := Lib.hid (show ((s.data.toList.take 1).all (fun b => letB b.toNat) && restB s.data.toList) = false by rw [HFi.out (by rw [beq_iff_eq] at hk0; omega), HL.out]; rfl)
          have h5 : ((s[k].toNat : Int) == 95) = false := beq_eq_false_iff_ne.2 (by omega)
          have g1 : 90 < (s[k].toNat : Int) → decide ((s[k].toNat : Int) ≤ 90) = false := fun _ => decide_eq_false (by omega)
          have g2 : 122 < (s[k].toNat : Int) → decide ((s[k].toNat : Int) ≤ 122) = false := fun _ => decide_eq_false (by omega)
          have g3 : 57 < (s[k].toNat : Int) → decide ((s[k].toNat : Int) ≤ 57) = false := fun _ => decide_eq_false (by omega)
          first | replace g1 := g1 (by omega) | clear g1
          first | replace g2 := g2 (by omega) | clear g2
          first | replace g3 := g3 (by omega) | clear g3
          go_wp2
          go_ret
          exact ⟨c_ret_bool HX.out.symm, rfl⟩
        · have HL := Lib.hid (letB_t (c := (s[k].toNat : Int)) (by omega))
          have HD := Lib.hid (decB_f (c := (s[k].toNat : Int)) (by omega))
          have HN := Lib.hid (show restB (s.data.toList.take (k + 1)) = true by rw [HT.out, HR.out, HL.out, HD.out]; rfl)
          have HG := Lib.hid (show (s.data.toList.take 1).all (fun b => letB b.toNat) = true by rw [HFi.out (by rw [beq_iff_eq] at hk0; omega)]; exact HL.out)
          go_wp2
          go_round
          case rel => exact ⟨k + 1, by omega, HN, fun _ => HG.out, by go_num⟩
          case measure => simp [intOf]; omega
        · have HL := Lib.hid (letB_f (c := (s[k].toNat : Int)) (by omega))
          have HD := Lib.hid (decB_f (c := (s[k].toNat : Int)) (by omega))
          have HX := Lib.hid (show ((s.data.toList.take 1).all (fun b => letB b.toNat) && restB s.data.toList) = false by rw [HFi.out (by rw [beq_iff_eq] at hk0; omega), HL.out]; rfl)
          have h5 : ((s[k].toNat : Int) == 95) = false := beq_eq_false_iff_ne.2 (by omega)
          have g1 : 90 < (s[k].toNat : Int) → decide ((s[k].toNat : Int) ≤ 90) = false := fun _ => decide_eq_false (by omega)
          have g2 : 122 < (s[k].toNat : Int) → decide ((s[k].toNat : Int) ≤ 122) = false := fun _ => decide_eq_false (by omega)
          have g3 : 57 < (s[k].toNat : Int) → decide ((s[k].toNat : Int) ≤ 57) = false := fun _ => decide_eq_false (by omega)
          first | replace g1 := g1 (by omega) | clear g1
          first | replace g2 := g2 (by omega) | clear g2
          first | replace g3 := g3 (by omega) | clear g3
          go_wp2
          go_ret
          exact ⟨c_ret_bool HX.out.symm, rfl⟩
    · have HE := Lib.hid (c_take (s := s) (k := k) (by omega))
      have hpos : 0 < k := by
        by_cases h : 0 < k
        · exact h
        · exfalso
          have e : s.size = 0 := by omega
          have e2 : s.toList = [] := by rw [Lib.toList_data]; exact List.eq_nil_of_length_eq_zero (by simpa using e)
          rw [e2] at h0
          cases h0
      have HX := Lib.hid (show ((s.data.toList.take 1).all (fun b => letB b.toNat) && restB s.data.toList) = true by rw [HF.out hpos, ← HE.out, HR.out]; rfl)
      go_wp2
      go_ret
      exact ⟨c_ret_bool HX.out.symm, rfl⟩

theorem name_any (s : ByteArray) (w : World) :
    Calls Tryd.prog 7 #[.string s] w fun e w' => e = .returned (.bool (nameB s)) ∧ w = w' := by
  cases h0 : s.toList.isEmpty
  · by_cases h1 : s.size ≤ 64
    · cases hw : wordB s.toList
      · have e : nameB s = ((s.data.toList.take 1).all (fun b => letB b.toNat) && restB s.data.toList) := by
          unfold nameB
          rw [h0, hw, decide_eq_true h1]
          simp
        rw [e]
        exact name_loop s w h0 h1 hw
      · have HX := Lib.hid (show nameB s = false by unfold nameB; rw [hw]; simp)
        have HW := Lib.hid hw
        clear hw
        go_enter Tryd.func7, Tryd.ntmps7
        go_wp2_with (go_at_call 9; refine (word_any _ _).mono ?_; rintro e w' ⟨rfl, rfl⟩; rw [HW.out])
        go_ret
        exact ⟨c_ret_bool HX.out.symm, rfl⟩
    · have HX := Lib.hid (show nameB s = false by unfold nameB; rw [decide_eq_false h1]; simp)
      go_enter Tryd.func7, Tryd.ntmps7
      go_wp2
      go_ret
      exact ⟨c_ret_bool HX.out.symm, rfl⟩
  · have HX := Lib.hid (show nameB s = false by unfold nameB; rw [h0]; simp)
    go_enter Tryd.func7, Tryd.ntmps7
    go_wp2
    go_ret
    exact ⟨c_ret_bool HX.out.symm, rfl⟩

theorem c_first {s : ByteArray} (h : 0 < s.size) : (s.data.toList.take 1).all (fun b => letB b.toNat) = letB s[0].toNat := first_take (k := 0) (c_at h) rfl

theorem restB_first {s : ByteArray} (h : 0 < s.size) : restB (s.data.toList.take 1) = (letB s[0].toNat || decB s[0].toNat) := by
  have := restB_take (c_at h)
  rw [this]
  rfl

theorem c_pos {s : ByteArray} (h0 : s.toList.isEmpty = false) : 0 < s.size := by
  by_cases h : 0 < s.size
  · exact h
  · exfalso
    have e : s.size = 0 := by omega
    have e2 : s.toList = [] := by rw [Lib.toList_data]; exact List.eq_nil_of_length_eq_zero (by simpa using e)
    rw [e2] at h0
    cases h0

set_option maxHeartbeats 2000000 in
theorem rname_loop (s : ByteArray) (w : World) (h0 : s.toList.isEmpty = false) (h1 : s.size ≤ 64) (hpos : 0 < s.size) (hl : letB s[0].toNat = true) (hw : wordB s.toList = false) :
    Calls Tryd.prog 8 #[.string s] w fun e w' => e = .returned (.bool (restB s.data.toList)) ∧ w = w' := by
  have HW := Lib.hid hw
  have HL := Lib.hid hl
  have H1 := Lib.hid (show restB (s.data.toList.take 1) = true by rw [restB_first hpos, hl]; rfl)
  clear hw hl
  go_enter Tryd.func8, Tryd.ntmps8
  go_wp2_with (first | (go_at_call 10; refine (rword_any _ _).mono ?_; rintro e w' ⟨rfl, rfl⟩; rw [HW.out]) | (go_at_call 19; refine (letter_any _ _).mono ?_; rintro e w' ⟨rfl, rfl⟩; rw [HL.out]))
  go_loop [3] (fun iv => ∃ k : Nat, k ≤ s.size ∧ 1 ≤ k ∧ Hid (restB (s.data.toList.take k) = true) ∧ iv = .int .i64 k) (fun iv => s.size - (intOf iv).toNat)
  case atStart => exact ⟨1, by omega, by omega, H1, rfl⟩
  case round =>
    obtain ⟨k, hk, hk1, HR, rfl⟩ := hrel
    by_cases hlt : k < s.size
    · have HT := Lib.hid (restB_take (c_at hlt))
      cases hlk : letB s[k].toNat
      · cases hdk : decB s[k].toNat
        · have HX := Lib.hid (show restB s.data.toList = false by exact restB_not (k := k + 1) (by rw [HT.out, HR.out, hlk, hdk]; rfl))
          have HLk := Lib.hid hlk
          have HDk := Lib.hid hdk
          clear hlk hdk
          go_wp2_with (first | (go_at_call 19; refine (letter_any _ _).mono ?_; rintro e w' ⟨rfl, rfl⟩; rw [HLk.out]) | (go_at_call 20; refine (digit_any _ _).mono ?_; rintro e w' ⟨rfl, rfl⟩; rw [HDk.out]))
          go_ret
          exact ⟨c_ret_bool HX.out.symm, rfl⟩
        · have HN := Lib.hid (show restB (s.data.toList.take (k + 1)) = true by rw [HT.out, HR.out, hlk, hdk]; rfl)
          have HLk := Lib.hid hlk
          have HDk := Lib.hid hdk
          clear hlk hdk
          go_wp2_with (first | (go_at_call 19; refine (letter_any _ _).mono ?_; rintro e w' ⟨rfl, rfl⟩; rw [HLk.out]) | (go_at_call 20; refine (digit_any _ _).mono ?_; rintro e w' ⟨rfl, rfl⟩; rw [HDk.out]))
          go_round
          case rel => exact ⟨k + 1, by omega, by omega, HN, by go_num⟩
          case measure => simp [intOf]; omega
      · have HN := Lib.hid (show restB (s.data.toList.take (k + 1)) = true by rw [HT.out, HR.out, hlk]; rfl)
        have HLk := Lib.hid hlk
        clear hlk
        go_wp2_with (first | (go_at_call 19; refine (letter_any _ _).mono ?_; rintro e w' ⟨rfl, rfl⟩; rw [HLk.out]))
        go_round
        case rel => exact ⟨k + 1, by omega, by omega, HN, by go_num⟩
        case measure => simp [intOf]; omega
    · have HX := Lib.hid (show restB s.data.toList = true by rw [← c_take (s := s) (k := k) (by omega)]; exact HR.out)
      go_wp2
      go_ret
      exact ⟨c_ret_bool HX.out.symm, rfl⟩

theorem rname_any (s : ByteArray) (w : World) :
    Calls Tryd.prog 8 #[.string s] w fun e w' => e = .returned (.bool (nameB s)) ∧ w = w' := by
  cases h0 : s.toList.isEmpty
  · have hpos := c_pos h0
    by_cases h1 : s.size ≤ 64
    · cases hl : letB s[0].toNat
      · have HX := Lib.hid (show nameB s = false by unfold nameB; rw [c_first hpos, hl]; simp)
        have HL := Lib.hid hl
        clear hl
        go_enter Tryd.func8, Tryd.ntmps8
        go_wp2_with (first | (go_at_call 19; refine (letter_any _ _).mono ?_; rintro e w' ⟨rfl, rfl⟩; rw [HL.out]))
        go_ret
        exact ⟨c_ret_bool HX.out.symm, rfl⟩
      · cases hw : wordB s.toList
        · have e : nameB s = restB s.data.toList := by
            unfold nameB
            rw [h0, hw, decide_eq_true h1, c_first hpos, hl]
            simp
          rw [e]
          exact rname_loop s w h0 h1 hpos hl hw
        · have HX := Lib.hid (show nameB s = false by unfold nameB; rw [hw]; simp)
          have HW := Lib.hid hw
          have HL := Lib.hid hl
          clear hw hl
          go_enter Tryd.func8, Tryd.ntmps8
          go_wp2_with (first | (go_at_call 10; refine (rword_any _ _).mono ?_; rintro e w' ⟨rfl, rfl⟩; rw [HW.out]) | (go_at_call 19; refine (letter_any _ _).mono ?_; rintro e w' ⟨rfl, rfl⟩; rw [HL.out]))
          go_ret
          exact ⟨c_ret_bool HX.out.symm, rfl⟩
    · have HX := Lib.hid (show nameB s = false by unfold nameB; rw [decide_eq_false h1]; simp)
      go_enter Tryd.func8, Tryd.ntmps8
      go_wp2
      go_ret
      exact ⟨c_ret_bool HX.out.symm, rfl⟩
  · have HX := Lib.hid (show nameB s = false by unfold nameB; rw [h0]; simp)
    go_enter Tryd.func8, Tryd.ntmps8
    go_wp2
    go_ret
    exact ⟨c_ret_bool HX.out.symm, rfl⟩
end Go.Proofs.YtamimkekjcjcjaaDoor
