/- The letters and names of mark, of the package and of the reference. -/
import Derived.Test.YtanncakdlflopaaGreatDoorCharsA
namespace Go.Proofs.YtanncakdlflopaaGreatDoor
open Go.RowKit
set_option linter.unusedVariables false
set_option linter.unusedSimpArgs false
set_option maxRecDepth 100000

def insB (c : Int) : Bool := letB c || decB c || decide (c = 45) || decide (c = 46)
theorem insB_t {c : Int} (h : (97 ≤ c ∧ c ≤ 122 ∨ 65 ≤ c ∧ c ≤ 90 ∨ c = 95) ∨ (48 ≤ c ∧ c ≤ 57) ∨ c = 45 ∨ c = 46) : insB c = true := by
 unfold insB letB decB
 rcases h with h | h | h | h <;> simp [h]
theorem insB_f {c : Int} (h : ¬ ((97 ≤ c ∧ c ≤ 122 ∨ 65 ≤ c ∧ c ≤ 90 ∨ c = 95) ∨ (48 ≤ c ∧ c ≤ 57) ∨ c = 45 ∨ c = 46)) : insB c = false := by
 unfold insB
 rw [letB_f (fun x => h (.inl x)), decB_f (fun x => h (.inr (.inl x))), decide_eq_false (fun x => h (.inr (.inr (.inl x)))), decide_eq_false (fun x => h (.inr (.inr (.inr x))))]
 rfl

set_option maxHeartbeats 1000000 in
theorem mletter_any (c : Int) (w : World) :
  Calls Tryz.prog 79 #[.int .u8 c] w fun e w' => e = .returned (.bool (letB c)) ∧ w = w' := by
 rcases byte_split c with h | ⟨h, h'⟩ | ⟨h, h'⟩ | ⟨h, h'⟩ | ⟨h, h'⟩ | h | ⟨h, h'⟩ | ⟨h, h'⟩ | h
 all_goals
  first
   | have HL := Lib.hid (letB_f (c := c) (by omega))
   | have HL := Lib.hid (letB_t (c := c) (by omega))
  try subst h
  go_enter Tryz.func79, Tryz.ntmps79
  go_wp2
  go_ret
  exact ⟨c_ret_bool (by rw [HL.out]; try (first | rfl | (simp; done) | (simp <;> omega))), rfl⟩
set_option maxHeartbeats 8000000 in
theorem minside_any (c : Int) (w : World) :
  Calls Tryz.prog 69 #[.int .u8 c] w fun e w' => e = .returned (.bool (insB c)) ∧ w = w' := by
 have HLt := Lib.hid (fun W => mletter_any c W)
 cases hl : letB c with
 | true =>
  as_aux_lemma =>
  rw [hl] at HLt
  have HL := Lib.hid (show insB c = true by unfold insB; rw [hl]; rfl)
  clear hl
  go_enter Tryz.func69, Tryz.ntmps69
  go_wp2_with (first | (go_at_call 79; (refine (HLt.out _).mono ?_); rintro e w2 ⟨rfl, rfl⟩))
  go_ret
  exact ⟨c_ret_bool HL.out.symm, rfl⟩
 | false =>
  rw [hl] at HLt
  by_cases h1 : 48 ≤ c
  ·by_cases h2 : c ≤ 57
   ·as_aux_lemma =>
    have HL := Lib.hid (show insB c = true from insB_t (by omega))
    clear hl
    go_enter Tryz.func69, Tryz.ntmps69
    go_wp2_with (first | (go_at_call 79; (refine (HLt.out _).mono ?_); rintro e w2 ⟨rfl, rfl⟩))
    go_ret
    exact ⟨c_ret_bool HL.out.symm, rfl⟩
   ·as_aux_lemma =>
    have HL := Lib.hid (show insB c = false from (by unfold insB; rw [hl, decB_f (by omega), decide_eq_false (by omega), decide_eq_false (by omega)]; rfl))
    have b45 : (c == 45) = false := beq_eq_false_iff_ne.2 (by omega)
    have b46 : (c == 46) = false := beq_eq_false_iff_ne.2 (by omega)
    clear hl
    go_enter Tryz.func69, Tryz.ntmps69
    go_wp2_with (first | (go_at_call 79; (refine (HLt.out _).mono ?_); rintro e w2 ⟨rfl, rfl⟩))
    go_ret
    exact ⟨c_ret_bool (by rw [HL.out]; exact decide_eq_false (by omega)), rfl⟩
  ·by_cases h3 : c = 45
   ·subst h3
    as_aux_lemma =>
    have HL := Lib.hid (show insB 45 = true from insB_t (by omega))
    clear hl
    go_enter Tryz.func69, Tryz.ntmps69
    go_wp2_with (first | (go_at_call 79; (refine (HLt.out _).mono ?_); rintro e w2 ⟨rfl, rfl⟩))
    go_ret
    exact ⟨c_ret_bool HL.out.symm, rfl⟩
   ·by_cases h4 : c = 46
    ·subst h4
     as_aux_lemma =>
     have HL := Lib.hid (show insB 46 = true from insB_t (by omega))
     clear hl
     go_enter Tryz.func69, Tryz.ntmps69
     go_wp2_with (first | (go_at_call 79; (refine (HLt.out _).mono ?_); rintro e w2 ⟨rfl, rfl⟩))
     go_ret
     exact ⟨c_ret_bool HL.out.symm, rfl⟩
    ·as_aux_lemma =>
     have HL := Lib.hid (show insB c = false from (by unfold insB; rw [hl, decB_f (by omega), decide_eq_false (by omega), decide_eq_false (by omega)]; rfl))
     have b45 : (c == 45) = false := beq_eq_false_iff_ne.2 (by omega)
     have b46 : (c == 46) = false := beq_eq_false_iff_ne.2 (by omega)
     clear hl
     go_enter Tryz.func69, Tryz.ntmps69
     go_wp2_with (first | (go_at_call 79; (refine (HLt.out _).mono ?_); rintro e w2 ⟨rfl, rfl⟩))
     go_ret
     exact ⟨c_ret_bool HL.out.symm, rfl⟩

set_option maxHeartbeats 8000000 in
theorem rinside_any (c : Int) (w : World) :
  Calls Tryz.prog 82 #[.int .u8 c] w fun e w' => e = .returned (.bool (insB c)) ∧ w = w' := by
 have HLt := Lib.hid (fun W => letter_any c W)
 cases hl : letB c with
 | true =>
  as_aux_lemma =>
  rw [hl] at HLt
  have HL := Lib.hid (show insB c = true by unfold insB; rw [hl]; rfl)
  clear hl
  go_enter Tryz.func82, Tryz.ntmps82
  go_wp2_with (first | (go_at_call 81; (refine (HLt.out _).mono ?_); rintro e w2 ⟨rfl, rfl⟩) | (go_at_call 103; (refine (HDg.out _).mono ?_); rintro e w2 ⟨rfl, rfl⟩))
  go_ret
  exact ⟨c_ret_bool HL.out.symm, rfl⟩
 | false =>
  rw [hl] at HLt
  by_cases h1 : 48 ≤ c
  ·by_cases h2 : c ≤ 57
   ·as_aux_lemma =>
    have HL := Lib.hid (show insB c = true from insB_t (by omega))
    have HDg := Lib.hid (fun W => by have := digit_any c W; rw [decB_t (c := c) (by omega)] at this; exact this)
    clear hl
    go_enter Tryz.func82, Tryz.ntmps82
    go_wp2_with (first | (go_at_call 81; (refine (HLt.out _).mono ?_); rintro e w2 ⟨rfl, rfl⟩) | (go_at_call 103; (refine (HDg.out _).mono ?_); rintro e w2 ⟨rfl, rfl⟩))
    go_ret
    exact ⟨c_ret_bool HL.out.symm, rfl⟩
   ·as_aux_lemma =>
    have HL := Lib.hid (show insB c = false from (by unfold insB; rw [hl, decB_f (by omega), decide_eq_false (by omega), decide_eq_false (by omega)]; rfl))
    have HDg := Lib.hid (fun W => by have := digit_any c W; rw [decB_f (c := c) (by omega)] at this; exact this)
    have b45 : (c == 45) = false := beq_eq_false_iff_ne.2 (by omega)
    have b46 : (c == 46) = false := beq_eq_false_iff_ne.2 (by omega)
    clear hl
    go_enter Tryz.func82, Tryz.ntmps82
    go_wp2_with (first | (go_at_call 81; (refine (HLt.out _).mono ?_); rintro e w2 ⟨rfl, rfl⟩) | (go_at_call 103; (refine (HDg.out _).mono ?_); rintro e w2 ⟨rfl, rfl⟩))
    go_ret
    exact ⟨c_ret_bool HL.out.symm, rfl⟩
  ·by_cases h3 : c = 45
   ·subst h3
    as_aux_lemma =>
    have HL := Lib.hid (show insB 45 = true from insB_t (by omega))
    have HDg := Lib.hid (fun W => by have := digit_any 45 W; rw [decB_f (c := 45) (by omega)] at this; exact this)
    clear hl
    go_enter Tryz.func82, Tryz.ntmps82
    go_wp2_with (first | (go_at_call 81; (refine (HLt.out _).mono ?_); rintro e w2 ⟨rfl, rfl⟩) | (go_at_call 103; (refine (HDg.out _).mono ?_); rintro e w2 ⟨rfl, rfl⟩))
    go_ret
    exact ⟨c_ret_bool HL.out.symm, rfl⟩
   ·by_cases h4 : c = 46
    ·subst h4
     as_aux_lemma =>
     have HL := Lib.hid (show insB 46 = true from insB_t (by omega))
     have HDg := Lib.hid (fun W => by have := digit_any 46 W; rw [decB_f (c := 46) (by omega)] at this; exact this)
     clear hl
     go_enter Tryz.func82, Tryz.ntmps82
     go_wp2_with (first | (go_at_call 81; (refine (HLt.out _).mono ?_); rintro e w2 ⟨rfl, rfl⟩) | (go_at_call 103; (refine (HDg.out _).mono ?_); rintro e w2 ⟨rfl, rfl⟩))
     go_ret
     exact ⟨c_ret_bool HL.out.symm, rfl⟩
    ·as_aux_lemma =>
     have HL := Lib.hid (show insB c = false from (by unfold insB; rw [hl, decB_f (by omega), decide_eq_false (by omega), decide_eq_false (by omega)]; rfl))
     have HDg := Lib.hid (fun W => by have := digit_any c W; rw [decB_f (c := c) (by omega)] at this; exact this)
     have b45 : (c == 45) = false := beq_eq_false_iff_ne.2 (by omega)
     have b46 : (c == 46) = false := beq_eq_false_iff_ne.2 (by omega)
     clear hl
     go_enter Tryz.func82, Tryz.ntmps82
     go_wp2_with (first | (go_at_call 81; (refine (HLt.out _).mono ?_); rintro e w2 ⟨rfl, rfl⟩) | (go_at_call 103; (refine (HDg.out _).mono ?_); rintro e w2 ⟨rfl, rfl⟩))
     go_ret
     exact ⟨c_ret_bool HL.out.symm, rfl⟩

/-- What may not stand in a name, as a character. -/
def outB (x : Nat) : Bool := decide (127 < x) || !insB x
set_option maxHeartbeats 2000000 in
theorem mpred_any (x : Nat) (w : World) (h1 : x ≤ 1114111) :
  Calls Tryz.prog 80 #[.int .i32 x] w fun e w' => e = .returned (.bool (outB x)) ∧ w = w' := by
 by_cases h : 127 < x
 ·have HO := Lib.hid (show outB x = true by unfold outB; rw [decide_eq_true h]; rfl)
  have d127 : decide ((x : Int) > 127) = true := decide_eq_true (by omega)
  clear h h1
  go_enter Tryz.func80, Tryz.ntmps80
  go_wp2_with fail
  go_ret
  exact ⟨c_ret_bool HO.out.symm, rfl⟩
 ·have HO := Lib.hid (show outB x = !insB x by unfold outB; rw [decide_eq_false h]; rfl)
  have hX : (x : Int) ≤ 127 := by omega
  have d127 : decide ((x : Int) > 127) = false := decide_eq_false (by omega)
  have hX0 : (0 : Int) ≤ x := by omega
  have HIn := Lib.hid (fun W => minside_any (x : Int) W)
  clear h h1
  go_enter Tryz.func80, Tryz.ntmps80
  go_wp2_with (first | (go_at_call 69; (refine (HIn.out _).mono ?_); rintro e w2 ⟨rfl, rfl⟩))
  go_ret
  exact ⟨c_ret_bool HO.out.symm, rfl⟩
theorem mgrows_any (w : World) : PredGrows Tryz.prog 80 #[] outB w :=
 fun W x hx _ => (mpred_any x W hx).mono fun _ _ ⟨he, hw⟩ => ⟨he, hw ▸ Below.refl _ _⟩
theorem dec_high (s : ByteArray) (i : Nat) (h : i < s.size) (hb : 128 ≤ s[i].toNat) : 128 ≤ (Utf8.decode s i).1 := by
 have h256 := s[i].toNat_lt
 by_cases h0 : s[i].toNat < 192 ∨ 248 ≤ s[i].toNat
 ·rw [one_plain0 s i h (by omega)]; decide
 rw [Lib.decode_at, get_at h]
 by_cases h2 : s[i].toNat < 224
 ·rw [decN2 _ _ _ _ _ (by omega) h2]
  split
  ·split
   ·rename_i hc; exact hc
   ·decide
  ·decide
 by_cases h3 : s[i].toNat < 240
 ·rw [decN3 _ _ _ _ _ (by omega) h3]
  split
  ·split
   ·rename_i hc; simp only; omega
   ·decide
  ·decide
 rw [decN4 _ _ _ _ _ (by omega) (by omega)]
 split
 ·split
  ·rename_i hc; simp only; omega
  ·decide
 ·decide
theorem ins_high {b : Int} (h : 128 ≤ b) : insB b = false := insB_f (by omega)
theorem idx_ins (s : ByteArray) : ∀ (f pos : Nat), s.size - pos ≤ f → decide (Lib.idxFuncFrom outB true s f pos < 0) = (s.data.toList.drop pos).all (fun b => insB b.toNat)
 | 0, pos, h => by
  rw [List.drop_of_length_le (by rw [size_list]; omega)]; rfl
 | f + 1, pos, h => by
  unfold Lib.idxFuncFrom
  by_cases hp : pos < s.size
  ·rw [if_pos hp]
   have hdr : s.data.toList.drop pos = s[pos] :: s.data.toList.drop (pos + 1) := by rw [List.drop_eq_getElem_cons (by simpa using hp)]; rfl
   rw [hdr, List.all_cons]
   by_cases ha : s[pos].toNat < 128
   ·rw [Go.decode_ascii s pos hp ha]
    simp only
    have ho : outB s[pos].toNat = !insB s[pos].toNat := by unfold outB; rw [decide_eq_false (by omega)]; rfl
    rw [ho]
    cases hi : insB s[pos].toNat with
    | true =>
     simp only [Bool.not_true, Bool.false_eq_true, if_false, Bool.true_and]
     exact idx_ins s f (pos + 1) (by omega)
    | false =>
     simp only [Bool.not_false, if_true, Bool.false_and]
     exact decide_eq_false (by omega)
   ·have hd := dec_high s pos hp (by omega)
    have ho : outB (Utf8.decode s pos).1 = true := by unfold outB; rw [decide_eq_true (by omega)]; rfl
    rw [ho, if_pos rfl, ins_high (by omega), Bool.false_and]
    exact decide_eq_false (by omega)
  ·rw [if_neg hp, List.drop_of_length_le (by rw [size_list]; omega)]; rfl
/-- A name of a document. -/
def nameM (s : ByteArray) : Bool := !s.toList.isEmpty && decide (s.size ≤ 64) && (s.data.toList.take 1).all (fun b => letB b.toNat) && s.data.toList.all (fun b => insB b.toNat)
theorem nameM_empty {s : ByteArray} (h : s.size = 0) : nameM s = false := by
 have : s.toList.isEmpty = true := by rw [Lib.toList_data, List.eq_nil_of_length_eq_zero (show s.data.toList.length = 0 by rw [size_list]; exact h)]; rfl
 unfold nameM; rw [this]; rfl
theorem nameM_long {s : ByteArray} (h : 64 < s.size) : nameM s = false := by
 unfold nameM; rw [decide_eq_false (show ¬ s.size ≤ 64 by omega)]; simp
theorem nameM_first {s : ByteArray} (h : 0 < s.size) (hl : letB s[0].toNat = false) : nameM s = false := by
 unfold nameM; rw [first_take (k := 0) (c_at h) rfl, hl]; simp
theorem nameM_rest {s : ByteArray} (h : 0 < s.size) (h64 : s.size ≤ 64) (hl : letB s[0].toNat = true) : nameM s = s.data.toList.all (fun b => insB b.toNat) := by
 have hne : s.toList.isEmpty = false := by
  rw [Lib.toList_data]
  cases hq : s.data.toList with
  | nil => have := size_list s; rw [hq] at this; simp at this; omega
  | cons a r => rfl
 unfold nameM; rw [first_take (k := 0) (c_at h) rfl, hl, hne, decide_eq_true h64]; simp

set_option maxHeartbeats 4000000 in
theorem mname_any (s : ByteArray) (w : World) (hs : s.size ≤ 1099511627776) :
  Calls Tryz.prog 44 #[.string s] w fun e w' => e = .returned (.bool (nameM s)) ∧ Below w.heap.size w w' := by
 by_cases h0 : s.size = 0
 ·have HN := Lib.hid (nameM_empty h0)
  have q0 : (s.toList != []) = false := by rw [Lib.toList_data, List.eq_nil_of_length_eq_zero (show s.data.toList.length = 0 by rw [size_list]; exact h0)]; rfl
  have q1 : (s.toList == []) = true := by rw [Lib.toList_data, List.eq_nil_of_length_eq_zero (show s.data.toList.length = 0 by rw [size_list]; exact h0)]; rfl
  clear h0
  go_enter Tryz.func44, Tryz.ntmps44
  go_wp2_with fail
  go_ret
  exact ⟨c_ret_bool HN.out.symm, Below.refl _ _⟩
 ·have hne : s.data.toList ≠ [] := fun e => h0 (by rw [← size_list, e]; rfl)
  have q1 : (s.toList == []) = false := by rw [Lib.toList_data]; exact beq_eq_false_iff_ne.2 hne
  have q0 : (s.toList != []) = true := by rw [bne, q1]; rfl
  clear hne
  have hp : 0 < s.size := by omega
  by_cases h64 : s.size ≤ 64
  ·have HLt := Lib.hid (fun W => mletter_any (s[0].toNat : Int) W)
   cases hl : letB s[0].toNat with
   | false =>
    rw [hl] at HLt
    have HN := Lib.hid (nameM_first hp hl)
    clear hl h0
    go_enter Tryz.func44, Tryz.ntmps44
    go_wp2_with (first | (go_at_call 79; (refine (HLt.out _).mono ?_); rintro e w2 ⟨rfl, rfl⟩))
    go_ret
    exact ⟨c_ret_bool HN.out.symm, Below.refl _ _⟩
   | true =>
    rw [hl] at HLt
    have hi := idx_ins s s.size 0 (by omega)
    rw [List.drop_zero] at hi
    have hr := Lib.idxFuncFrom_range outB true s s.size 0
    have HX := Lib.hid (fun W => Tryz.strings_IndexFunc_grows 80 #[] (enters_of Tryz.func80 (by kernel_rfl) rfl) outB s W (mgrows_any W))
    unfold Lib.idxFunc at HX
    obtain ⟨I, hI⟩ : ∃ I, Lib.idxFuncFrom outB true s s.size 0 = I := ⟨_, rfl⟩
    rw [hI] at hi hr HX
    have r1 : -1 ≤ I := by omega
    have r2 : I ≤ 9223372036854775807 := by omega
    have HN := Lib.hid (show nameM s = decide (I < 0) by rw [hi]; exact nameM_rest hp h64 hl)
    clear hl h0 hi hr hI
    go_enter Tryz.func44, Tryz.ntmps44
    go_wp2_with (first | (go_at_call 79; (refine (HLt.out _).mono ?_); rintro e w2 ⟨rfl, rfl⟩))
    refine (HX.out _).mono ?_
    rintro e w2 ⟨rfl, hb⟩
    go_wp2_with fail
    go_ret
    exact ⟨c_ret_bool HN.out.symm, hb⟩
  ·have HN := Lib.hid (nameM_long (s := s) (by omega))
   have q64 : decide ((s.size : Int) ≤ 64) = false := decide_eq_false (by omega)
   go_enter Tryz.func44, Tryz.ntmps44
   go_wp2_with fail
   go_ret
   exact ⟨c_ret_bool HN.out.symm, Below.refl _ _⟩

theorem ins_take {l : List UInt8} {k : Nat} {b : UInt8} (hb : l[k]? = some b) : (l.take (k + 1)).all (fun b => insB b.toNat) = ((l.take k).all (fun b => insB b.toNat) && insB b.toNat) := by
 rw [List.take_add_one, hb]; simp
theorem ins_not {l : List UInt8} {k : Nat} (h : (l.take k).all (fun b => insB b.toNat) = false) : l.all (fun b => insB b.toNat) = false := by
 rw [List.all_eq_false] at h ⊢
 obtain ⟨b, hb, hn⟩ := h
 exact ⟨b, List.mem_of_mem_take hb, hn⟩

set_option maxHeartbeats 4000000 in
theorem rmname_any (s : ByteArray) (w : World) (hs : s.size ≤ 1099511627776) :
  Calls Tryz.prog 45 #[.string s] w fun e w' => e = .returned (.bool (nameM s)) ∧ w' = w := by
 by_cases h0 : s.size = 0
 ·have HN := Lib.hid (nameM_empty h0)
  have q1 : (s.toList == []) = true := by rw [Lib.toList_data, List.eq_nil_of_length_eq_zero (show s.data.toList.length = 0 by rw [size_list]; exact h0)]; rfl
  clear h0
  go_enter Tryz.func45, Tryz.ntmps45
  go_wp2_with fail
  go_ret
  exact ⟨c_ret_bool HN.out.symm, rfl⟩
 ·have hne : s.data.toList ≠ [] := fun e => h0 (by rw [← size_list, e]; rfl)
  have q1 : (s.toList == []) = false := by rw [Lib.toList_data]; exact beq_eq_false_iff_ne.2 hne
  clear hne
  have hp : 0 < s.size := by omega
  by_cases h64 : s.size ≤ 64
  ·have q64 : decide ((s.size : Int) > 64) = false := decide_eq_false (by omega)
   have HLt := Lib.hid (fun W => letter_any (s[0].toNat : Int) W)
   cases hl : letB s[0].toNat with
   | false =>
    rw [hl] at HLt
    have HN := Lib.hid (nameM_first hp hl)
    clear hl h0
    go_enter Tryz.func45, Tryz.ntmps45
    go_wp2_with (first | (go_at_call 81; (refine (HLt.out _).mono ?_); rintro e w2 ⟨rfl, rfl⟩))
    go_ret
    exact ⟨c_ret_bool HN.out.symm, rfl⟩
   | true =>
    rw [hl] at HLt
    have HN := Lib.hid (nameM_rest hp h64 hl)
    clear hl h0
    go_enter Tryz.func45, Tryz.ntmps45
    go_wp2_with (first | (go_at_call 81; (refine (HLt.out _).mono ?_); rintro e w2 ⟨rfl, rfl⟩))
    go_loopw [3] (fun iv wr => ∃ k : Nat, iv = .int .i64 k ∧ k ≤ s.size ∧ Hid ((s.data.toList.take k).all (fun b => insB b.toNat) = true) ∧ w = wr) (fun iv _ => s.size - (intOf iv).toNat)
    case atStart => exact ⟨0, rfl, by omega, Lib.hid rfl, by trivial⟩
    case round =>
     obtain ⟨k, rfl, hk, HK, rfl⟩ := hrel
     by_cases hlt : k < s.size
     ·have hat := c_at hlt
      have HIn := Lib.hid (fun W => rinside_any (s[k].toNat : Int) W)
      have hT := ins_take hat
      rw [HK.out] at hT
      clear hat
      cases hi : insB s[k].toNat with
      | true =>
       as_aux_lemma =>
       rw [hi] at HIn hT
       have HT := Lib.hid hT
       clear hi hT
       go_wp2_with (first | (go_at_call 82; (refine (HIn.out _).mono ?_); rintro e w2 ⟨rfl, rfl⟩))
       go_roundw
       case rel => exact ⟨k + 1, by go_num, by omega, HT, by trivial⟩
       case measure => simp [intOf]; omega
      | false =>
       as_aux_lemma =>
       rw [hi] at HIn hT
       have HF := Lib.hid (ins_not hT)
       clear hi hT
       go_wp2_with (first | (go_at_call 82; (refine (HIn.out _).mono ?_); rintro e w2 ⟨rfl, rfl⟩))
       go_ret
       exact ⟨c_ret_bool (by rw [HN.out, HF.out]), rfl⟩
     ·have hT := HK.out
      rw [c_take (by omega)] at hT
      have HF := Lib.hid hT
      clear hT
      as_aux_lemma =>
      go_wp2_with fail
      go_ret
      exact ⟨c_ret_bool (by rw [HN.out, HF.out]), rfl⟩
  ·have HN := Lib.hid (nameM_long (s := s) (by omega))
   have q64 : decide ((s.size : Int) > 64) = true := decide_eq_true (by omega)
   go_enter Tryz.func45, Tryz.ntmps45
   go_wp2_with fail
   go_ret
   exact ⟨c_ret_bool HN.out.symm, rfl⟩
end Go.Proofs.YtanncakdlflopaaGreatDoor
