/- The walks over the reference's decoder: the places at which characters begin; is it a text? -/
import Derived.Test.YtamimkekjcjcjaaDoorCharsName
import Derived.Test.YtamimkekjcjcjaaDoorBase
import Derived.Test.YtamimkekjcjcjaaDoorCharsRef
import Derived.Test.YtamimkekjcjcjaaDoorCharsPlain
import Derived.Laws.AppendOwn
namespace Go.Proofs.YtamimkekjcjcjaaDoor
open Go.RowKit
open Go.Lib (decodeL decodeL_width decodeL_drop decodeN)
set_option linter.unusedVariables false
set_option maxRecDepth 100000

theorem get_at {s : ByteArray} {i : Nat} (h : i < s.size) : s.get! i = s[i] := getElem!_pos s.data i h
theorem tlN_get (s : ByteArray) (j : Nat) : tlN s j = if j < s.size ∧ (s.get! j).toNat / 64 = 2 then some ((s.get! j).toNat % 64) else none := by
  unfold tlN
  by_cases h : j < s.size
  · rw [dif_pos h, get_at h]
    by_cases h2 : s[j].toNat / 64 = 2
    · rw [if_pos h2, if_pos ⟨h, h2⟩]
    · rw [if_neg h2, if_neg (fun x => h2 x.2)]
  · rw [dif_neg h, if_neg (fun x => h x.1)]

/-- What a reader of one character has to tell of the decoder's step. -/
def OneOk (o : Option Nat) (n least : Nat) (d : Nat × Nat) : Prop :=
  (badD d = false → ∃ c, o = some c ∧ least ≤ c ∧ d = (c, n)) ∧ (badD d = true → ∀ c, o = some c → least ≤ c → charB c = false)

theorem badD_err : badD (65533, 1) = true := rfl
theorem badD_wide {c n : Nat} (hn : 2 ≤ n) : badD (c, n) = !charB c := by
  have : (n == 1) = false := beq_eq_false_iff_ne.2 (by omega)
  unfold badD
  show ((c == 65533 && n == 1) || !charB c) = _
  rw [this, Bool.and_false, Bool.false_or]
theorem oneOk_err {o : Option Nat} {n least : Nat} (h : ∀ c, o = some c → least ≤ c → charB c = false) : OneOk o n least (65533, 1) :=
  ⟨fun h => (by rw [badD_err] at h; cases h), fun _ => h⟩
theorem oneOk_hit {c n least : Nat} (hn : 2 ≤ n) (hl : least ≤ c) : OneOk (some c) n least (c, n) :=
  ⟨fun _ => ⟨c, rfl, hl, rfl⟩, fun h d hd _ => by cases hd; rw [badD_wide hn] at h; simpa using h⟩
theorem sur_char {c : Nat} (h : 55296 ≤ c ∧ c < 57344 ∨ 1114111 < c) : charB c = false := charB_f (by omega)

theorem decN2 (n b0 b1 b2 b3 : Nat) (h1 : 192 ≤ b0) (h2 : b0 < 224) : decodeN n b0 b1 b2 b3 = if 1 < n ∧ b1 / 64 = 2 then (if 128 ≤ b0 % 32 * 64 + b1 % 64 then (b0 % 32 * 64 + b1 % 64, 2) else (65533, 1)) else (65533, 1) := by
  unfold decodeN
  rw [if_neg (by omega)]
  by_cases ht : 1 < n ∧ b1 / 64 = 2
  · rw [if_pos ⟨by omega, ht⟩, if_pos ht]
  · rw [if_neg (fun x => ht x.2), if_neg (fun x => by have := x.1; omega), if_neg (fun x => by have := x.1; omega), if_neg ht]
theorem decN3 (n b0 b1 b2 b3 : Nat) (h1 : 224 ≤ b0) (h2 : b0 < 240) : decodeN n b0 b1 b2 b3 = if (1 < n ∧ b1 / 64 = 2) ∧ (2 < n ∧ b2 / 64 = 2) then (if b0 % 16 * 4096 + b1 % 64 * 64 + b2 % 64 ≥ 2048 ∧ (b0 % 16 * 4096 + b1 % 64 * 64 + b2 % 64 < 55296 ∨ (57344 ≤ b0 % 16 * 4096 + b1 % 64 * 64 + b2 % 64 ∧ b0 % 16 * 4096 + b1 % 64 * 64 + b2 % 64 ≤ 1114111)) then (b0 % 16 * 4096 + b1 % 64 * 64 + b2 % 64, 3) else (65533, 1)) else (65533, 1) := by
  unfold decodeN
  rw [if_neg (by omega), if_neg (fun x => by have := x.1; omega)]
  by_cases ht : (1 < n ∧ b1 / 64 = 2) ∧ (2 < n ∧ b2 / 64 = 2)
  · rw [if_pos ⟨by omega, ht⟩, if_pos ht]
  · rw [if_neg (fun x => ht x.2), if_neg (fun x => by have := x.1; omega), if_neg ht]
theorem decN4 (n b0 b1 b2 b3 : Nat) (h1 : 240 ≤ b0) (h2 : b0 < 248) : decodeN n b0 b1 b2 b3 = if (1 < n ∧ b1 / 64 = 2) ∧ (2 < n ∧ b2 / 64 = 2) ∧ (3 < n ∧ b3 / 64 = 2) then
    (if b0 % 8 * 262144 + b1 % 64 * 4096 + b2 % 64 * 64 + b3 % 64 ≥ 65536 ∧ (b0 % 8 * 262144 + b1 % 64 * 4096 + b2 % 64 * 64 + b3 % 64 < 55296 ∨ (57344 ≤ b0 % 8 * 262144 + b1 % 64 * 4096 + b2 % 64 * 64 + b3 % 64 ∧ b0 % 8 * 262144 + b1 % 64 * 4096 + b2 % 64 * 64 + b3 % 64 ≤ 1114111))
     then (b0 % 8 * 262144 + b1 % 64 * 4096 + b2 % 64 * 64 + b3 % 64, 4) else (65533, 1)) else (65533, 1) := by
  unfold decodeN
  rw [if_neg (by omega), if_neg (fun x => by have := x.1; omega), if_neg (fun x => by have := x.1; omega)]
  by_cases ht : (1 < n ∧ b1 / 64 = 2) ∧ (2 < n ∧ b2 / 64 = 2) ∧ (3 < n ∧ b3 / 64 = 2)
  · rw [if_pos ⟨by omega, ht⟩, if_pos ht]
  · rw [if_neg (fun x => ht x.2), if_neg ht]

theorem one_plain2 (s : ByteArray) (i : Nat) (h : i < s.size) (h1 : 192 ≤ s[i].toNat) (h2 : s[i].toNat < 224) : OneOk (accN s i (s[i].toNat % 32) 1) 2 128 (Utf8.decode s i) := by
  rw [Lib.decode_at, get_at h, decN2 _ _ _ _ _ h1 h2]
  have e1 : (1 < s.size - i) = (i + 1 < s.size) := propext (by omega)
  unfold accN accN
  rw [tlN_get]
  simp only [Nat.add_zero, e1]
  generalize (s.get! (i + 1)).toNat = b1
  generalize s[i].toNat = b0 at *
  by_cases ht : i + 1 < s.size ∧ b1 / 64 = 2
  · simp only [ht, and_self, if_true]
    split
    · rename_i hc; exact oneOk_hit (by omega) hc
    · exact oneOk_err (fun c h hl => by cases h; omega)
  · simp only [ht, if_false]
    exact oneOk_err (fun c h => by cases h)
theorem one_plain3 (s : ByteArray) (i : Nat) (h : i < s.size) (h1 : 224 ≤ s[i].toNat) (h2 : s[i].toNat < 240) : OneOk (accN s i (s[i].toNat % 16) 2) 3 2048 (Utf8.decode s i) := by
  rw [Lib.decode_at, get_at h, decN3 _ _ _ _ _ h1 h2]
  have e1 : (1 < s.size - i) = (i + 1 < s.size) := propext (by omega)
  have e2 : (2 < s.size - i) = (i + 2 < s.size) := propext (by omega)
  have e3 : i + 1 + 1 = i + 2 := by omega
  unfold accN accN accN
  rw [tlN_get, tlN_get]
  simp only [Nat.add_zero, e1, e2, e3]
  generalize (s.get! (i + 1)).toNat = b1
  generalize (s.get! (i + 2)).toNat = b2
  generalize s[i].toNat = b0 at *
  by_cases ht : i + 1 < s.size ∧ b1 / 64 = 2
  · by_cases hu : i + 2 < s.size ∧ b2 / 64 = 2
    · have e : (b0 % 16 * 64 + b1 % 64) * 64 + b2 % 64 = b0 % 16 * 4096 + b1 % 64 * 64 + b2 % 64 := by omega
      simp only [ht, hu, and_self, if_true, e]
      split
      · rename_i hc; exact oneOk_hit (by omega) hc.1
      · exact oneOk_err (fun c h hl => by cases h; exact sur_char (by omega))
    · simp only [ht, hu, and_self, and_false, if_true, if_false]
      exact oneOk_err (fun c h => by cases h)
  · simp only [ht, false_and, if_false]
    exact oneOk_err (fun c h => by cases h)
theorem one_plain4 (s : ByteArray) (i : Nat) (h : i < s.size) (h1 : 240 ≤ s[i].toNat) (h2 : s[i].toNat < 248) : OneOk (accN s i (s[i].toNat % 8) 3) 4 65536 (Utf8.decode s i) := by
  rw [Lib.decode_at, get_at h, decN4 _ _ _ _ _ h1 h2]
  have e1 : (1 < s.size - i) = (i + 1 < s.size) := propext (by omega)
  have e2 : (2 < s.size - i) = (i + 2 < s.size) := propext (by omega)
  have e3 : (3 < s.size - i) = (i + 3 < s.size) := propext (by omega)
  have e4 : i + 1 + 1 = i + 2 := by omega
  have e5 : i + 1 + 2 = i + 3 := by omega
  unfold accN accN accN accN
  rw [tlN_get, tlN_get, tlN_get]
  simp only [Nat.add_zero, e1, e2, e3, e4, e5]
  generalize (s.get! (i + 1)).toNat = b1
  generalize (s.get! (i + 2)).toNat = b2
  generalize (s.get! (i + 3)).toNat = b3
  generalize s[i].toNat = b0 at *
  by_cases ht : i + 1 < s.size ∧ b1 / 64 = 2
  · by_cases hu : i + 2 < s.size ∧ b2 / 64 = 2
    · by_cases hw : i + 3 < s.size ∧ b3 / 64 = 2
      · have e : ((b0 % 8 * 64 + b1 % 64) * 64 + b2 % 64) * 64 + b3 % 64 = b0 % 8 * 262144 + b1 % 64 * 4096 + b2 % 64 * 64 + b3 % 64 := by omega
        simp only [ht, hu, hw, and_self, if_true, e]
        split
        · rename_i hc; exact oneOk_hit (by omega) hc.1
        · exact oneOk_err (fun c h hl => by cases h; exact sur_char (by omega))
      · simp only [ht, hu, hw, and_self, and_false, if_true, if_false]
        exact oneOk_err (fun c h => by cases h)
    · simp only [ht, hu, false_and, and_false, and_self, if_true, if_false]
      exact oneOk_err (fun c h => by cases h)
  · simp only [ht, false_and, if_false]
    exact oneOk_err (fun c h => by cases h)

theorem one_plain0 (s : ByteArray) (i : Nat) (h : i < s.size) (hb : 128 ≤ s[i].toNat ∧ s[i].toNat < 192 ∨ 248 ≤ s[i].toNat) : Utf8.decode s i = (65533, 1) := by
  rw [Lib.decode_at, get_at h]
  have := s[i].toNat_lt
  unfold decodeN
  rw [if_neg (by omega), if_neg (by omega), if_neg (by omega), if_neg (by omega)]

/-- The reader of one character tells of the decoder's step. -/
def OneTells (d : Nat × Nat) (e : Ending) : Prop :=
  (badD d = false ∧ e = .returned (.tuple #[.int .i64 d.1, .int .i64 d.2, .bool true])) ∨
  (badD d = true ∧ ∃ c n : Nat, c ≤ 8388608 ∧ charB c = false ∧ e = .returned (.tuple #[.int .i64 c, .int .i64 n, .bool true])) ∨
  (badD d = true ∧ e = .returned (.tuple #[.int .i64 (0 : Nat), .int .i64 (0 : Nat), .bool false])) ∨
  (badD d = true ∧ ∃ c n : Nat, c ≤ 8388608 ∧ e = .returned (.tuple #[.int .i64 c, .int .i64 n, .bool false]))
theorem oneTells_of {o : Option Nat} {n least : Nat} {d : Nat × Nat} (h : OneOk o n least d) (hlt : ∀ c, o = some c → c ≤ 8388608) : OneTells d (.returned (oneV o n least)) := by
  cases hb : badD d with
  | false =>
    obtain ⟨c, rfl, hl, rfl⟩ := h.1 hb
    exact .inl ⟨hb, by simp [oneV, hl]⟩
  | true =>
    cases o with
    | none => exact .inr (.inr (.inl ⟨hb, rfl⟩))
    | some c =>
      by_cases hl : least ≤ c
      · exact .inr (.inl ⟨hb, c, n, hlt c rfl, h.2 hb c rfl hl, by simp [oneV, hl]⟩)
      · exact .inr (.inr (.inr ⟨hb, c, n, hlt c rfl, by simp [oneV, hl]⟩))
theorem accN_le {s : ByteArray} {i c0 k c : Nat} (h0 : c0 < 32) (hk : k ≤ 3) (h : accN s i c0 k = some c) : c ≤ 8388608 := by
  have := accN_lt h0 h
  have h2 : 32 * 64 ^ k ≤ 32 * 64 ^ 3 := Nat.mul_le_mul_left _ (Nat.pow_le_pow_right (by omega) hk)
  have : (32 * 64 ^ 3 : Nat) = 8388608 := by decide
  omega

theorem one_any (s : ByteArray) (i : Nat) (w : World) (h : i < s.size) (hs : s.size ≤ 4611686018427387904) :
    Calls Tryd.prog 38 #[.string s, .int .i64 i] w fun e w' => OneTells (decodeL (s.data.toList.drop i)) e ∧ w = w' := by
  rw [decodeL_drop]
  have hlt := s[i].toNat_lt
  by_cases c1 : s[i].toNat < 128
  · refine (one_ascii s i w h (by omega) c1).mono fun e w' ⟨he, hw⟩ => ⟨?_, hw⟩
    subst he
    rw [decode_ascii s i h c1]
    by_cases hc : charB ((s[i].toNat : Nat) : Int) = true
    · refine .inl ⟨?_, rfl⟩
      unfold badD
      simp only [hc, Bool.not_true, Bool.or_false]
      have : (s[i].toNat == 65533) = false := beq_eq_false_iff_ne.2 (by omega)
      rw [this]; rfl
    · rw [Bool.not_eq_true] at hc
      refine .inr (.inl ⟨by unfold badD; simp only [hc, Bool.not_false, Bool.or_true], _, 1, by omega, hc, rfl⟩)
  by_cases c2 : s[i].toNat < 192
  · refine (one_bad s i w h (by omega) (by omega)).mono fun e w' ⟨he, hw⟩ => ⟨?_, hw⟩
    subst he
    rw [one_plain0 s i h (by omega)]
    exact .inr (.inr (.inl ⟨rfl, rfl⟩))
  by_cases c3 : s[i].toNat < 224
  · refine (one_2 s i w h (by omega) (by omega) c3).mono fun e w' ⟨he, hw⟩ => ⟨?_, hw⟩
    subst he
    exact oneTells_of (one_plain2 s i h (by omega) c3) (fun c hc => accN_le (by omega) (by omega) hc)
  by_cases c4 : s[i].toNat < 240
  · refine (one_3 s i w h (by omega) (by omega) c4).mono fun e w' ⟨he, hw⟩ => ⟨?_, hw⟩
    subst he
    exact oneTells_of (one_plain3 s i h (by omega) c4) (fun c hc => accN_le (by omega) (by omega) hc)
  by_cases c5 : s[i].toNat < 248
  · refine (one_4 s i w h (by omega) (by omega) c5).mono fun e w' ⟨he, hw⟩ => ⟨?_, hw⟩
    subst he
    exact oneTells_of (one_plain4 s i h (by omega) c5) (fun c hc => accN_le (by omega) (by omega) hc)
  · refine (one_bad s i w h (by omega) (by omega)).mono fun e w' ⟨he, hw⟩ => ⟨?_, hw⟩
    subst he
    rw [one_plain0 s i h (by omega)]
    exact .inr (.inr (.inl ⟨rfl, rfl⟩))

set_option maxHeartbeats 2000000 in
theorem rChar_any (c : Nat) (w : World) (h1 : c ≤ 8388608) :
    Calls Tryd.prog 39 #[.int .i64 c] w fun e w' => e = .returned (.bool (charB c)) ∧ w = w' := by
  have hsp : (9 ≤ c ∧ c ≤ 9) ∨ (10 ≤ c ∧ c ≤ 10) ∨ (13 ≤ c ∧ c ≤ 13) ∨ (c ≤ 8) ∨ (11 ≤ c ∧ c ≤ 12) ∨ (14 ≤ c ∧ c < 32) ∨ (32 ≤ c ∧ c < 55296) ∨ (55296 ≤ c ∧ c < 57344) ∨ (57344 ≤ c ∧ c < 65534) ∨ (65534 ≤ c ∧ c < 65536) ∨ (65536 ≤ c ∧ c ≤ 1114111) ∨ (1114111 < c) := by omega
  rcases hsp with ⟨h, h'⟩ | ⟨h, h'⟩ | ⟨h, h'⟩ | h | ⟨h, h'⟩ | ⟨h, h'⟩ | ⟨h, h'⟩ | ⟨h, h'⟩ | ⟨h, h'⟩ | ⟨h, h'⟩ | ⟨h, h'⟩ | h
  all_goals
    first
      | have HC := Lib.hid (charB_t (c := (c : Int)) (by omega))
      | have HC := Lib.hid (charB_f (c := (c : Int)) (by omega))
    first | have b9 : ((c : Int) == 9) = true := beq_iff_eq.2 (by omega) | have b9 : ((c : Int) == 9) = false := beq_eq_false_iff_ne.2 (by omega)
    first | have b10 : ((c : Int) == 10) = true := beq_iff_eq.2 (by omega) | have b10 : ((c : Int) == 10) = false := beq_eq_false_iff_ne.2 (by omega)
    first | have b13 : ((c : Int) == 13) = true := beq_iff_eq.2 (by omega) | have b13 : ((c : Int) == 13) = false := beq_eq_false_iff_ne.2 (by omega)
    go_enter Tryd.func39, Tryd.ntmps39
    go_wp2
    go_ret
    exact ⟨c_ret_bool (by rw [HC.out]; try (first | rfl | (simp; done) | (simp <;> omega))), rfl⟩

theorem n_info : (Tryd.prog.info? 3).map (fun i => (i.zero, i.size, i.bytes)) = some (some (.int .i64 0), 1, 8) := by kernel_rfl

/-- The places at which the first characters begin. -/
def offsV (cs : List Nat) (n : Nat) : List Value := (List.range n).map fun j => .int .i64 (offC cs j : Nat)
theorem offC_snoc (cs : List Nat) (c j : Nat) (h : j ≤ cs.length) : offC (cs ++ [c]) j = offC cs j := by
  unfold offC
  rw [List.take_append_of_le_length h]
theorem offsV_snoc (cs : List Nat) (c : Nat) : offsV (cs ++ [c]) (cs ++ [c]).length = offsV cs cs.length ++ [.int .i64 ((cs.flatMap encL).length : Nat)] := by
  unfold offsV
  rw [List.length_append, List.length_singleton, List.range_succ, List.map_append, List.map_singleton]
  congr 1
  · apply List.map_congr_left
    intro j hj
    rw [offC_snoc _ _ _ (Nat.le_of_lt (List.mem_range.1 hj))]
  · rw [offC_snoc _ _ _ (Nat.le_refl _), offC_all _ (Nat.le_refl _)]
theorem offsV_last (cs : List Nat) : offsV cs (cs.length + 1) = offsV cs cs.length ++ [.int .i64 ((cs.flatMap encL).length : Nat)] := by
  unfold offsV
  rw [List.range_succ, List.map_append, List.map_singleton, offC_all _ (Nat.le_refl _)]

/-- What the reference's reader of places leaves. -/
def CharsPost (s : ByteArray) (w : World) (e : Ending) (w' : World) : Prop := ∃ v, e = .returned (.tuple #[v, .bool (textB s)]) ∧ Below w.heap.size w w' ∧
  ∀ cs, chars s.data.toList = some cs → w'.ownsRow w.heap.size 3 1 v (cs.length + 1) (offsV cs (cs.length + 1))

/-- How far the reader has come: the characters so far, and what is left to do. -/
def Upto (s : ByteArray) (i : Nat) (pre : List Nat) : Prop := i = (pre.flatMap encL).length ∧ i ≤ s.size ∧ pre.length ≤ i ∧ chars s.data.toList = (chars (s.data.toList.drop i)).map (pre ++ ·)
theorem Upto.start (s : ByteArray) : Upto s 0 [] := ⟨rfl, by omega, by simp, by simp⟩
theorem drop_ne {s : ByteArray} {i : Nat} (h : i < s.size) : s.data.toList.drop i ≠ [] := by
  intro e
  have := congrArg List.length e
  rw [List.length_drop, List.length_nil, Array.length_toList] at this
  have : s.data.size = s.size := rfl
  omega
theorem Upto.bad {s : ByteArray} {i : Nat} {pre : List Nat} (h : Upto s i pre) (hi : i < s.size) (hb : badD (decodeL (s.data.toList.drop i)) = true) : chars s.data.toList = none := by
  obtain ⟨_, _, _, h4⟩ := h
  rw [h4, chars_step (drop_ne hi), hb]
  rfl
theorem Upto.good {s : ByteArray} {i : Nat} {pre : List Nat} (h : Upto s i pre) (hi : i < s.size) (hb : badD (decodeL (s.data.toList.drop i)) = false) :
    Upto s (i + (decodeL (s.data.toList.drop i)).2) (pre ++ [(decodeL (s.data.toList.drop i)).1]) ∧ charB (decodeL (s.data.toList.drop i)).1 = true ∧ (decodeL (s.data.toList.drop i)).1 ≤ 1114111 ∧ 1 ≤ (decodeL (s.data.toList.drop i)).2 ∧ i + (decodeL (s.data.toList.drop i)).2 ≤ s.size := by
  obtain ⟨h1, h2, h3, h4⟩ := h
  obtain ⟨e1, e2⟩ := enc_dec (drop_ne hi) hb
  have hw := decodeL_width (s.data.toList.drop i)
  have hl : (s.data.toList.drop i).length = s.size - i := by rw [List.length_drop, Array.length_toList]; rfl
  have hlen : (encL (decodeL (s.data.toList.drop i)).1).length = (decodeL (s.data.toList.drop i)).2 := by rw [e1, List.length_take, Nat.min_eq_left e2]
  refine ⟨⟨?_, by omega, by simp; omega, ?_⟩, ?_, Lib.decodeL_rune _, hw, by omega⟩
  · rw [List.flatMap_append, List.length_append, ← h1]
    simp [hlen]
  · rw [h4, chars_step (drop_ne hi), hb, List.drop_drop]
    rw [if_neg (by decide), Option.map_map]
    exact congrArg (fun f => Option.map f _) (funext fun l => by simp)
  · unfold badD at hb
    rw [Bool.or_eq_false_iff] at hb
    simpa using hb.2
theorem Upto.done {s : ByteArray} {i : Nat} {pre : List Nat} (h : Upto s i pre) (hi : s.size ≤ i) : chars s.data.toList = some pre := by
  obtain ⟨_, _, _, h4⟩ := h
  rw [h4, List.drop_of_length_le (by rw [Array.length_toList]; exact hi), chars_nil]
  simp
theorem text_of_none {s : ByteArray} (h : chars s.data.toList = none) : textB s = false := by rw [textB_chars, h]; rfl
theorem text_of_some {s : ByteArray} {cs : List Nat} (h : chars s.data.toList = some cs) : textB s = true := by rw [textB_chars, h]; rfl

set_option maxHeartbeats 2000000 in
theorem rChars_any (s : ByteArray) (w : World) (hs : s.size ≤ 1099511627776) :
    Calls Tryd.prog 34 #[.string s] w (CharsPost s w) := by
  obtain ⟨i0, hi, hz0, hz1, hz2⟩ := info_parts n_info
  have hown0 : w.ownsRow w.heap.size 3 1 (.slice none 0 0) 0 [] := ⟨rfl, Or.inl ⟨rfl, rfl⟩⟩
  have HOwn0 := Lib.hid hown0
  clear hown0
  go_enter Tryd.func34, Tryd.ntmps34
  go_wp2
  go_loopw [4, 5, 6, 7, 8] (fun v iv _ _ _ wr => ∃ (pre : List Nat) (i : Nat), iv = .int .i64 i ∧ i ≤ s.size ∧ pre.length ≤ i ∧ Hid (Upto s i pre) ∧ Hid (wr.ownsRow w.heap.size 3 1 v pre.length (offsV pre pre.length)) ∧ Hid (Below w.heap.size w wr)) (fun _ iv _ _ _ _ => s.size - (intOf iv).toNat)
  case atStart => exact ⟨[], 0, rfl, by omega, by simp, Upto.start s, HOwn0, Below.refl _ _⟩
  case round =>
    obtain ⟨pre, i, rfl, his, hpi, HU, HO, HB⟩ := hrel
    by_cases hlt : i < s.size
    · have hone := one_any s i wr hlt (by omega)
      have HOne := Lib.hid hone
      clear hone
      go_wp2_with fail
      refine HOne.out.mono ?_
      rintro e w1 ⟨hte, rfl⟩
      rcases hte with ⟨hb, rfl⟩ | ⟨hb, c, n, hc, hcb, rfl⟩ | ⟨hb, rfl⟩ | ⟨hb, c, n, hc, rfl⟩
      · obtain ⟨hu, hcb, hc, hn, hin⟩ := HU.out.good hlt hb
        have HU2 := Lib.hid hu
        have HCb := Lib.hid hcb
        have HSn := Lib.hid (offsV_snoc pre (decodeL (s.data.toList.drop i)).1)
        have HI := Lib.hid HU.out.1
        clear hu hcb hb
        generalize decodeL (s.data.toList.drop i) = d at *
        obtain ⟨c, n⟩ := d
        dsimp only at HU2 HCb HSn hc hn hin ⊢
        go_wp2_with fail
        refine (rChar_any c wr (by omega)).mono ?_
        rintro e w1 ⟨rfl, rfl⟩
        rw [HCb.out]
        have hszs := HB.out.size
        have K3 := Lib.hid (show pre.length + 1 ≤ maxLen by unfold maxLen; omega)
        have K4 := Lib.hid (show (pre.length + 1) * 8 ≤ 140737488355328 by omega)
        have K5 := Lib.hid (show w.heap.size ≤ (wr.alloc (.cells #[.int .i64 i] 3)).heap.size by simp; omega)
        go_wp2_with (at_builtin; refine wpList_append_own _ rfl _ _ 68 rfl w.heap.size 3 i0 (.int .i64 0) 1 8 Tryd.underlying68 hi hz0 hz1 hz2 rfl (by decide) _ _ _ rfl (HO.out.alloc _) ⟨wr.heap.size, 0, none⟩ 1 1 [.int .i64 i] rfl rfl ?c1 ?c2 K3.out K4.out K5.out ?_)
        case c1 => exact lit_cells _ _ _
        case c2 => exact lit_one rfl
        intro v' w1 hown1 hgrow1 hnil1
        have hb1 := below_own (HB.out.alloc hszs _) K5.out (HO.out.alloc _) hgrow1
        have HOwn := Lib.hid (show w1.ownsRow w.heap.size 3 1 v' (pre ++ [c]).length (offsV (pre ++ [c]) (pre ++ [c]).length) by
          rw [HSn.out, List.length_append, List.length_singleton, ← HI.out]
          exact hown1)
        have HB1 := Lib.hid hb1
        clear hown1 hgrow1 hnil1 hb1
        go_wp2
        go_roundw
        case rel => exact ⟨pre ++ [c], i + n, by go_num, by omega, HU2.out.2.2.1, HU2, HOwn, HB1⟩
        case measure => simp [intOf]; omega
      · have HN := Lib.hid (text_of_none (HU.out.bad hlt hb))
        have HN2 := Lib.hid (HU.out.bad hlt hb)
        have HCb := Lib.hid hcb
        clear hb hcb
        go_wp2_with fail
        refine (rChar_any c wr (by omega)).mono ?_
        rintro e w1 ⟨rfl, rfl⟩
        rw [HCb.out]
        go_wp2
        go_ret2
        exact ⟨_, by rw [HN.out]; rfl, HB.out, fun cs h => by rw [HN2.out] at h; cases h⟩
      · have HN := Lib.hid (text_of_none (HU.out.bad hlt hb))
        have HN2 := Lib.hid (HU.out.bad hlt hb)
        clear hb
        go_wp2
        go_ret2
        exact ⟨_, by rw [HN.out]; rfl, HB.out, fun cs h => by rw [HN2.out] at h; cases h⟩
      · have HN := Lib.hid (text_of_none (HU.out.bad hlt hb))
        have HN2 := Lib.hid (HU.out.bad hlt hb)
        clear hb
        go_wp2
        go_ret2
        exact ⟨_, by rw [HN.out]; rfl, HB.out, fun cs h => by rw [HN2.out] at h; cases h⟩
    · have HN2 := Lib.hid (HU.out.done (by omega))
      have HN := Lib.hid (text_of_some HN2.out)
      have HSn := Lib.hid (offsV_last pre)
      have HI := Lib.hid HU.out.1
      have hszs := HB.out.size
      have K3 := Lib.hid (show pre.length + 1 ≤ maxLen by unfold maxLen; omega)
      have K4 := Lib.hid (show (pre.length + 1) * 8 ≤ 140737488355328 by omega)
      have K5 := Lib.hid (show w.heap.size ≤ (wr.alloc (.cells #[.int .i64 i] 3)).heap.size by simp; omega)
      go_wp2_with (at_builtin; refine wpList_append_own _ rfl _ _ 68 rfl w.heap.size 3 i0 (.int .i64 0) 1 8 Tryd.underlying68 hi hz0 hz1 hz2 rfl (by decide) _ _ _ rfl (HO.out.alloc _) ⟨wr.heap.size, 0, none⟩ 1 1 [.int .i64 i] rfl rfl ?c1 ?c2 K3.out K4.out K5.out ?_)
      case c1 => exact lit_cells _ _ _
      case c2 => exact lit_one rfl
      intro v' w1 hown1 hgrow1 hnil1
      have hb1 := below_own (HB.out.alloc hszs _) K5.out (HO.out.alloc _) hgrow1
      have HOwn := Lib.hid hown1
      have HB1 := Lib.hid hb1
      clear hown1 hgrow1 hnil1 hb1
      go_wp2
      go_ret2
      refine ⟨_, by rw [HN.out]; rfl, HB1.out, fun cs h => ?_⟩
      rw [HN2.out] at h
      cases h
      rw [HSn.out, ← HI.out]
      exact HOwn.out

/-- The reference's Valid. -/
theorem rValid_any (s : ByteArray) (w : World) (hs : s.size ≤ 1099511627776) :
    Calls Tryd.prog 28 #[.string s] w fun e w' => e = .returned (.bool (textB s)) ∧ Below w.heap.size w w' := by
  have HC := Lib.hid (rChars_any s w hs)
  go_enter Tryd.func28, Tryd.ntmps28
  go_wp2_with fail
  refine HC.out.mono ?_
  rintro e w1 ⟨v, rfl, hb, -⟩
  go_wp2
  go_ret
  exact ⟨rfl, hb⟩
end Go.Proofs.YtamimkekjcjcjaaDoor
