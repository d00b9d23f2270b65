/- The walks over the reference's decoder: a byte that follows, one character, the places of all. -/
import Derived.Test.YtamimkekjcjcjaaDoorProg
import Derived.WalkKit
import Derived.WalkSpells
import Derived.WalkLawsBesides
import Derived.Lib.Hide
import Derived.Lib.Strings
namespace Go.Proofs.YtamimkekjcjcjaaDoor
open Go.RowKit
set_option linter.unusedVariables false
set_option maxRecDepth 100000

theorem and_192F : ∀ b : Fin 256, (bits .and .u8 ((b.val : Nat) : Int) 192 != 128) = !decide (b.val / 64 = 2) := by decide +kernel
theorem and_63F : ∀ b : Fin 256, bits .and .u8 ((b.val : Nat) : Int) 63 = ((b.val % 64 : Nat) : Int) := by decide +kernel
theorem and_192n (b : UInt8) : (bits .and .u8 (b.toNat : Int) 192 != 128) = !decide (b.toNat / 64 = 2) := and_192F ⟨b.toNat, b.toNat_lt⟩
theorem and_63 (b : UInt8) : bits .and .u8 (b.toNat : Int) 63 = ((b.toNat % 64 : Nat) : Int) := and_63F ⟨b.toNat, b.toNat_lt⟩
theorem and_31F : ∀ b : Fin 256, bits .and .i64 ((b.val : Nat) : Int) 31 = ((b.val % 32 : Nat) : Int) := by decide +kernel
theorem and_15F : ∀ b : Fin 256, bits .and .i64 ((b.val : Nat) : Int) 15 = ((b.val % 16 : Nat) : Int) := by decide +kernel
theorem and_7F : ∀ b : Fin 256, bits .and .i64 ((b.val : Nat) : Int) 7 = ((b.val % 8 : Nat) : Int) := by decide +kernel
theorem and_31 (b : UInt8) : bits .and .i64 (b.toNat : Int) 31 = ((b.toNat % 32 : Nat) : Int) := and_31F ⟨b.toNat, b.toNat_lt⟩
theorem and_15 (b : UInt8) : bits .and .i64 (b.toNat : Int) 15 = ((b.toNat % 16 : Nat) : Int) := and_15F ⟨b.toNat, b.toNat_lt⟩
theorem and_7 (b : UInt8) : bits .and .i64 (b.toNat : Int) 7 = ((b.toNat % 8 : Nat) : Int) := and_7F ⟨b.toNat, b.toNat_lt⟩

theorem tail_far (s : ByteArray) (i : Int) (w : World) (h : (s.size : Int) ≤ i) (h1 : i ≤ 9223372036854775807) :
    Calls Tryd.prog 46 #[.string s, .int .i64 i] w fun e w' => e = .returned (.tuple #[.int .i64 0, .bool false]) ∧ w = w' := by
  go_enter Tryd.func46, Tryd.ntmps46
  go_wp2
  go_ret2
  exact ⟨rfl, rfl⟩

theorem tail_in (s : ByteArray) (i : Nat) (w : World) (h : i < s.size) (hs : s.size ≤ 9223372036854775807) :
    Calls Tryd.prog 46 #[.string s, .int .i64 i] w fun e w' => e = .returned (.tuple #[.int .i64 (if s[i].toNat / 64 = 2 then ((s[i].toNat % 64 : Nat) : Int) else 0), .bool (decide (s[i].toNat / 64 = 2))]) ∧ w = w' := by
  have ha := and_192n s[i]
  have hb := and_63 s[i]
  by_cases h2 : s[i].toNat / 64 = 2
  · rw [if_pos h2, decide_eq_true h2]
    rw [decide_eq_true h2] at ha
    clear h2
    go_enter Tryd.func46, Tryd.ntmps46
    go_wp2
    go_ret2
    exact ⟨rfl, rfl⟩
  · rw [if_neg h2, decide_eq_false h2]
    rw [decide_eq_false h2] at ha
    clear h2
    go_enter Tryd.func46, Tryd.ntmps46
    go_wp2
    go_ret2
    exact ⟨rfl, rfl⟩






/-- The six bits of a byte that follows. -/
def tlN (s : ByteArray) (j : Nat) : Option Nat := if h : j < s.size then (if s[j].toNat / 64 = 2 then some (s[j].toNat % 64) else none) else none
/-- The bits so far, behind so many bytes that follow. -/
def accN (s : ByteArray) (i c0 : Nat) : Nat → Option Nat
  | 0 => some c0
  | k + 1 => match accN s i c0 k, tlN s (i + 1 + k) with | some a, some t => some (a * 64 + t) | _, _ => none

theorem tail_some (s : ByteArray) (j t : Nat) (w : World) (h : tlN s j = some t) (hs : s.size ≤ 9223372036854775807) :
    Calls Tryd.prog 46 #[.string s, .int .i64 j] w fun e w' => e = .returned (.tuple #[.int .i64 t, .bool true]) ∧ w = w' := by
  unfold tlN at h
  by_cases hj : j < s.size
  · rw [dif_pos hj] at h
    by_cases h2 : s[j].toNat / 64 = 2
    · rw [if_pos h2] at h
      cases h
      have := tail_in s j w hj hs
      rw [if_pos h2, decide_eq_true h2] at this
      exact this
    · rw [if_neg h2] at h; cases h
  · rw [dif_neg hj] at h; cases h
theorem tail_none (s : ByteArray) (j : Nat) (w : World) (h : tlN s j = none) (hs : s.size ≤ 9223372036854775807) (hj2 : j ≤ 9223372036854775807) :
    Calls Tryd.prog 46 #[.string s, .int .i64 j] w fun e w' => e = .returned (.tuple #[.int .i64 0, .bool false]) ∧ w = w' := by
  unfold tlN at h
  by_cases hj : j < s.size
  · rw [dif_pos hj] at h
    by_cases h2 : s[j].toNat / 64 = 2
    · rw [if_pos h2] at h; cases h
    · have := tail_in s j w hj hs
      rw [if_neg h2, decide_eq_false h2] at this
      exact this
  · exact tail_far s j w (by omega) (by omega)
theorem tlN_lt {s : ByteArray} {j t : Nat} (h : tlN s j = some t) : t < 64 ∧ j < s.size := by
  unfold tlN at h
  by_cases hj : j < s.size
  · rw [dif_pos hj] at h
    by_cases h2 : s[j].toNat / 64 = 2
    · rw [if_pos h2] at h; cases h; omega
    · rw [if_neg h2] at h; cases h
  · rw [dif_neg hj] at h; cases h
theorem accN_lt {s : ByteArray} {i c0 : Nat} (h0 : c0 < 32) : ∀ {k c : Nat}, accN s i c0 k = some c → c < 32 * 64 ^ k
  | 0, c, h => by cases h; simpa using h0
  | k + 1, c, h => by
    unfold accN at h
    cases ha : accN s i c0 k with
    | none => rw [ha] at h; cases h
    | some a =>
      cases ht : tlN s (i + 1 + k) with
      | none => rw [ha, ht] at h; cases h
      | some t =>
        rw [ha, ht] at h
        cases h
        have h1 := accN_lt h0 ha
        have h2 := (tlN_lt ht).1
        rw [Nat.pow_succ]
        omega
theorem accN_prev {s : ByteArray} {i c0 : Nat} : ∀ {k m : Nat}, k ≤ m → accN s i c0 k = none → accN s i c0 m = none
  | k, 0, h, hn => by
    obtain rfl : k = 0 := by omega
    exact hn
  | k, m + 1, h, hn => by
    by_cases e : k = m + 1
    · subst e; exact hn
    · have := accN_prev (k := k) (m := m) (by omega) hn
      unfold accN
      rw [this]

/-- What the reference's reader of one character answers. -/
def oneV (o : Option Nat) (n least : Nat) : Value := match o with
  | some c => .tuple #[.int .i64 c, .int .i64 n, .bool (decide (least ≤ c))]
  | none => .tuple #[.int .i64 0, .int .i64 0, .bool false]

theorem oneV_some (c n least : Nat) : oneV (some c) n least = .tuple #[.int .i64 c, .int .i64 n, .bool (decide ((least : Int) ≤ (c : Int)))] := by
  unfold oneV
  have : decide ((least : Int) ≤ (c : Int)) = decide (least ≤ c) := by simp
  rw [this]

theorem one_ascii (s : ByteArray) (i : Nat) (w : World) (h : i < s.size) (hs : s.size ≤ 9223372036854775807) (hb : s[i].toNat < 128) :
    Calls Tryd.prog 38 #[.string s, .int .i64 i] w fun e w' => e = .returned (.tuple #[.int .i64 s[i].toNat, .int .i64 1, .bool true]) ∧ w = w' := by
  go_enter Tryd.func38, Tryd.ntmps38
  go_wp2
  go_ret3
  exact ⟨rfl, rfl⟩
theorem one_bad (s : ByteArray) (i : Nat) (w : World) (h : i < s.size) (hs : s.size ≤ 9223372036854775807) (hb : 128 ≤ s[i].toNat ∧ s[i].toNat < 192 ∨ 248 ≤ s[i].toNat) :
    Calls Tryd.prog 38 #[.string s, .int .i64 i] w fun e w' => e = .returned (.tuple #[.int .i64 0, .int .i64 0, .bool false]) ∧ w = w' := by
  have hlt := s[i].toNat_lt
  rcases hb with ⟨h1, h2⟩ | h1
  · go_enter Tryd.func38, Tryd.ntmps38
    go_wp2
    go_ret3
    exact ⟨rfl, rfl⟩
  · go_enter Tryd.func38, Tryd.ntmps38
    go_wp2
    go_ret3
    exact ⟨rfl, rfl⟩

set_option maxHeartbeats 1000000 in
theorem one_2 (s : ByteArray) (i : Nat) (w : World) (h : i < s.size) (hs : s.size ≤ 4611686018427387904) (h1 : 192 ≤ s[i].toNat) (h2 : s[i].toNat < 224) :
    Calls Tryd.prog 38 #[.string s, .int .i64 i] w fun e w' => e = .returned (oneV (accN s i (s[i].toNat % 32) 1) 2 128) ∧ w = w' := by
  have ha := and_31 s[i]
  have hm : s[i].toNat % 32 < 32 := by omega
  have hd0 : decide ((s[i].toNat : Int) < 128) = false := decide_eq_false (by omega)
  have hd1 : decide ((s[i].toNat : Int) < 192) = false := decide_eq_false (by omega)
  have hd2 : decide ((s[i].toNat : Int) < 224) = true := by simp; omega
  have hd4 : decide ((s[i].toNat : Int) < 248) = true := by simp; omega
  have hd3 : decide ((s[i].toNat : Int) < 240) = true := by simp; omega
  generalize hM : s[i].toNat % 32 = M at *
  have HM := Lib.hid hM
  clear hM
  go_enter Tryd.func38, Tryd.ntmps38
  go_wp2
  go_loop [7, 10, 11, 12] (fun cv kv _ _ => ∃ k c : Nat, k < 2 ∧ kv = .int .i64 ((k : Int) + 1) ∧ cv = .int .i64 c ∧ Hid (accN s i M k = some c)) (fun _ kv _ _ => (2 - intOf kv).toNat)
  case atStart => exact ⟨0, M, by omega, rfl, rfl, (rfl : accN s i M 0 = some M)⟩
  case round =>
    obtain ⟨k, c, hk, rfl, rfl, HA⟩ := hrel
    have hc := accN_lt hm HA.out
    have hc2 : c ≤ 32 * 64 ^ 3 := Nat.le_trans (Nat.le_of_lt hc) (Nat.mul_le_mul_left _ (Nat.pow_le_pow_right (by omega) (by omega)))
    have hc3 : c ≤ 8388608 := by simpa using hc2
    clear hc hc2
    by_cases hlt : k < 1
    · cases ht : tlN s (i + 1 + k) with
      | some t =>
        have h64 := (tlN_lt ht).1
        have hcall := tail_some s _ _ w ht (by omega)
        have HN := Lib.hid (show accN s i M (k + 1) = some (c * 64 + t) by unfold accN; rw [HA.out, ht])
        have hcast : ((i + 1 + k : Nat) : Int) = (i : Int) + ((k : Int) + 1) := by omega
        rw [hcast] at hcall
        have HC := Lib.hid hcall
        clear ht hcall hcast
        go_wp2_with fail
        refine HC.out.mono ?_
        rintro e w' ⟨rfl, rfl⟩
        go_wp2
        go_round
        case rel => exact ⟨k + 1, c * 64 + t, by omega, by go_num, by go_num, HN⟩
        case measure => simp [intOf]; omega
      | none =>
        have hcall := tail_none s (i + 1 + k) w ht (by omega) (by omega)
        have HN := Lib.hid (show accN s i M 1 = none from accN_prev (k := k + 1) (by omega) (by unfold accN; rw [HA.out, ht]))
        have hcast : ((i + 1 + k : Nat) : Int) = (i : Int) + ((k : Int) + 1) := by omega
        rw [hcast] at hcall
        have HC := Lib.hid hcall
        clear ht hcall hcast
        go_wp2_with fail
        refine HC.out.mono ?_
        rintro e w' ⟨rfl, rfl⟩
        go_wp2
        go_ret3
        exact ⟨by rw [HN.out]; rfl, rfl⟩
    · obtain rfl : k = 1 := by omega
      go_wp2
      go_ret3
      exact ⟨by rw [HA.out, oneV_some]; rfl, rfl⟩

set_option maxHeartbeats 1000000 in
theorem one_3 (s : ByteArray) (i : Nat) (w : World) (h : i < s.size) (hs : s.size ≤ 4611686018427387904) (h1 : 224 ≤ s[i].toNat) (h2 : s[i].toNat < 240) :
    Calls Tryd.prog 38 #[.string s, .int .i64 i] w fun e w' => e = .returned (oneV (accN s i (s[i].toNat % 16) 2) 3 2048) ∧ w = w' := by
  have ha := and_15 s[i]
  have hm : s[i].toNat % 16 < 32 := by omega
  have hd0 : decide ((s[i].toNat : Int) < 128) = false := decide_eq_false (by omega)
  have hd1 : decide ((s[i].toNat : Int) < 224) = false := decide_eq_false (by omega)
  have hd2 : decide ((s[i].toNat : Int) < 224) = false := by simp; omega
  have hd4 : decide ((s[i].toNat : Int) < 248) = true := by simp; omega
  have hd3 : decide ((s[i].toNat : Int) < 240) = true := by simp; omega
  generalize hM : s[i].toNat % 16 = M at *
  have HM := Lib.hid hM
  clear hM
  go_enter Tryd.func38, Tryd.ntmps38
  go_wp2
  go_loop [7, 10, 11, 12] (fun cv kv _ _ => ∃ k c : Nat, k < 3 ∧ kv = .int .i64 ((k : Int) + 1) ∧ cv = .int .i64 c ∧ Hid (accN s i M k = some c)) (fun _ kv _ _ => (3 - intOf kv).toNat)
  case atStart => exact ⟨0, M, by omega, rfl, rfl, (rfl : accN s i M 0 = some M)⟩
  case round =>
    obtain ⟨k, c, hk, rfl, rfl, HA⟩ := hrel
    have hc := accN_lt hm HA.out
    have hc2 : c ≤ 32 * 64 ^ 3 := Nat.le_trans (Nat.le_of_lt hc) (Nat.mul_le_mul_left _ (Nat.pow_le_pow_right (by omega) (by omega)))
    have hc3 : c ≤ 8388608 := by simpa using hc2
    clear hc hc2
    by_cases hlt : k < 2
    · cases ht : tlN s (i + 1 + k) with
      | some t =>
        have h64 := (tlN_lt ht).1
        have hcall := tail_some s _ _ w ht (by omega)
        have HN := Lib.hid (show accN s i M (k + 1) = some (c * 64 + t) by unfold accN; rw [HA.out, ht])
        have hcast : ((i + 1 + k : Nat) : Int) = (i : Int) + ((k : Int) + 1) := by omega
        rw [hcast] at hcall
        have HC := Lib.hid hcall
        clear ht hcall hcast
        go_wp2_with fail
        refine HC.out.mono ?_
        rintro e w' ⟨rfl, rfl⟩
        go_wp2
        go_round
        case rel => exact ⟨k + 1, c * 64 + t, by omega, by go_num, by go_num, HN⟩
        case measure => simp [intOf]; omega
      | none =>
        have hcall := tail_none s (i + 1 + k) w ht (by omega) (by omega)
        have HN := Lib.hid (show accN s i M 2 = none from accN_prev (k := k + 1) (by omega) (by unfold accN; rw [HA.out, ht]))
        have hcast : ((i + 1 + k : Nat) : Int) = (i : Int) + ((k : Int) + 1) := by omega
        rw [hcast] at hcall
        have HC := Lib.hid hcall
        clear ht hcall hcast
        go_wp2_with fail
        refine HC.out.mono ?_
        rintro e w' ⟨rfl, rfl⟩
        go_wp2
        go_ret3
        exact ⟨by rw [HN.out]; rfl, rfl⟩
    · obtain rfl : k = 2 := by omega
      go_wp2
      go_ret3
      exact ⟨by rw [HA.out, oneV_some]; rfl, rfl⟩

set_option maxHeartbeats 1000000 in
theorem one_4 (s : ByteArray) (i : Nat) (w : World) (h : i < s.size) (hs : s.size ≤ 4611686018427387904) (h1 : 240 ≤ s[i].toNat) (h2 : s[i].toNat < 248) :
    Calls Tryd.prog 38 #[.string s, .int .i64 i] w fun e w' => e = .returned (oneV (accN s i (s[i].toNat % 8) 3) 4 65536) ∧ w = w' := by
  have ha := and_7 s[i]
  have hm : s[i].toNat % 8 < 32 := by omega
  have hd0 : decide ((s[i].toNat : Int) < 128) = false := decide_eq_false (by omega)
  have hd1 : decide ((s[i].toNat : Int) < 240) = false := decide_eq_false (by omega)
  have hd2 : decide ((s[i].toNat : Int) < 224) = false := by simp; omega
  have hd4 : decide ((s[i].toNat : Int) < 248) = true := by simp; omega
  have hd3 : decide ((s[i].toNat : Int) < 240) = false := by simp; omega
  generalize hM : s[i].toNat % 8 = M at *
  have HM := Lib.hid hM
  clear hM
  go_enter Tryd.func38, Tryd.ntmps38
  go_wp2
  go_loop [7, 10, 11, 12] (fun cv kv _ _ => ∃ k c : Nat, k < 4 ∧ kv = .int .i64 ((k : Int) + 1) ∧ cv = .int .i64 c ∧ Hid (accN s i M k = some c)) (fun _ kv _ _ => (4 - intOf kv).toNat)
  case atStart => exact ⟨0, M, by omega, rfl, rfl, (rfl : accN s i M 0 = some M)⟩
  case round =>
    obtain ⟨k, c, hk, rfl, rfl, HA⟩ := hrel
    have hc := accN_lt hm HA.out
    have hc2 : c ≤ 32 * 64 ^ 3 := Nat.le_trans (Nat.le_of_lt hc) (Nat.mul_le_mul_left _ (Nat.pow_le_pow_right (by omega) (by omega)))
    have hc3 : c ≤ 8388608 := by simpa using hc2
    clear hc hc2
    by_cases hlt : k < 3
    · cases ht : tlN s (i + 1 + k) with
      | some t =>
        have h64 := (tlN_lt ht).1
        have hcall := tail_some s _ _ w ht (by omega)
        have HN := Lib.hid (show accN s i M (k + 1) = some (c * 64 + t) by unfold accN; rw [HA.out, ht])
        have hcast : ((i + 1 + k : Nat) : Int) = (i : Int) + ((k : Int) + 1) := by omega
        rw [hcast] at hcall
        have HC := Lib.hid hcall
        clear ht hcall hcast
        go_wp2_with fail
        refine HC.out.mono ?_
        rintro e w' ⟨rfl, rfl⟩
        go_wp2
        go_round
        case rel => exact ⟨k + 1, c * 64 + t, by omega, by go_num, by go_num, HN⟩
        case measure => simp [intOf]; omega
      | none =>
        have hcall := tail_none s (i + 1 + k) w ht (by omega) (by omega)
        have HN := Lib.hid (show accN s i M 3 = none from accN_prev (k := k + 1) (by omega) (by unfold accN; rw [HA.out, ht]))
        have hcast : ((i + 1 + k : Nat) : Int) = (i : Int) + ((k : Int) + 1) := by omega
        rw [hcast] at hcall
        have HC := Lib.hid hcall
        clear ht hcall hcast
        go_wp2_with fail
        refine HC.out.mono ?_
        rintro e w' ⟨rfl, rfl⟩
        go_wp2
        go_ret3
        exact ⟨by rw [HN.out]; rfl, rfl⟩
    · obtain rfl : k = 3 := by omega
      go_wp2
      go_ret3
      exact ⟨by rw [HA.out, oneV_some]; rfl, rfl⟩
end Go.Proofs.YtamimkekjcjcjaaDoor
