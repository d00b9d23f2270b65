/- The reference's digit, number and Bytes. (short) -/
import Derived.Test.YtfnodoepeiknhaaGreatDoorNumPlain
import Derived.Test.YtfnodoepeiknhaaGreatDoorEscRefA
namespace Go.Proofs.YtfnodoepeiknhaaGreatDoor
open Go.RowKit
set_option linter.unusedVariables false
set_option linter.unusedSimpArgs false
set_option maxRecDepth 100000

def digI (c : UInt8) : Int := match digV c with | some d => (d : Int) | none => -1
theorem digI_some {c : UInt8} {d : Nat} (h : digV c = some d) : digI c = d := by unfold digI; rw [h]
theorem digI_none {c : UInt8} (h : digV c = none) : digI c = -1 := by unfold digI; rw [h]
theorem digV_not {c : UInt8} (h : ¬ (48 ≤ c.toNat ∧ c.toNat ≤ 57)) (h2 : ¬ (97 ≤ c.toNat ∧ c.toNat ≤ 102)) (h3 : ¬ (65 ≤ c.toNat ∧ c.toNat ≤ 70)) : digV c = none := by
  unfold digV; rw [if_neg h, if_neg h2, if_neg h3]

set_option maxHeartbeats 4000000 in
theorem rdig_any (c : UInt8) (w : World) :
    Calls Tryz.prog 93 #[.int .u8 c.toNat] w fun e w' => e = .returned (.int .i64 (digI c)) ∧ w' = w := by
  have hc := c.toNat_lt
  have hs : (48 ≤ c.toNat ∧ c.toNat ≤ 57) ∨ (97 ≤ c.toNat ∧ c.toNat ≤ 102) ∨ (65 ≤ c.toNat ∧ c.toNat ≤ 70) ∨ (c.toNat < 48) ∨ (57 < c.toNat ∧ c.toNat < 65) ∨ (70 < c.toNat ∧ c.toNat < 97) ∨ (102 < c.toNat) := by omega
  rcases hs with ⟨h1, h2⟩ | ⟨h1, h2⟩ | ⟨h1, h2⟩ | h1 | ⟨h1, h2⟩ | ⟨h1, h2⟩ | h1
  · have HV := Lib.hid (show digI c = (c.toNat : Int) - 48 by
      rw [digI_some (d := c.toNat - 48) (by unfold digV; rw [if_pos ⟨h1, h2⟩])]
      omega)
    as_aux_lemma =>
    rw [HV.out]
    obtain ⟨M, hM⟩ : ∃ M : Int, (c.toNat : Int) = M := ⟨_, rfl⟩
    have b1 : 48 ≤ M := by omega
    have b2 : M ≤ 57 := by omega
    rw [hM]
    clear h1 h2 hc HV hM
    go_enter Tryz.func93, Tryz.ntmps93
    go_wp2
    go_ret
    exact ⟨rfl, rfl⟩
  · have HV := Lib.hid (show digI c = (c.toNat : Int) - 97 + 10 by
      rw [digI_some (d := c.toNat - 87) (by unfold digV; rw [if_neg (by omega), if_pos ⟨h1, h2⟩])]
      omega)
    as_aux_lemma =>
    rw [HV.out]
    obtain ⟨M, hM⟩ : ∃ M : Int, (c.toNat : Int) = M := ⟨_, rfl⟩
    have b1 : 97 ≤ M := by omega
    have b2 : M ≤ 102 := by omega
    rw [hM]
    clear h1 h2 hc HV hM
    go_enter Tryz.func93, Tryz.ntmps93
    go_wp2
    go_ret
    exact ⟨rfl, rfl⟩
  · have HV := Lib.hid (show digI c = (c.toNat : Int) - 65 + 10 by
      rw [digI_some (d := c.toNat - 55) (by unfold digV; rw [if_neg (by omega), if_neg (by omega), if_pos ⟨h1, h2⟩])]
      omega)
    as_aux_lemma =>
    rw [HV.out]
    obtain ⟨M, hM⟩ : ∃ M : Int, (c.toNat : Int) = M := ⟨_, rfl⟩
    have b1 : 65 ≤ M := by omega
    have b2 : M ≤ 70 := by omega
    rw [hM]
    clear h1 h2 hc HV hM
    go_enter Tryz.func93, Tryz.ntmps93
    go_wp2
    go_ret
    exact ⟨rfl, rfl⟩
  · have HV := Lib.hid (digI_none (digV_not (c := c) (by omega) (by omega) (by omega)))
    as_aux_lemma =>
    rw [HV.out]
    obtain ⟨M, hM⟩ : ∃ M : Int, (c.toNat : Int) = M := ⟨_, rfl⟩
    have b1 : 0 ≤ M := by omega
    have b2 : M ≤ 47 := by omega
    rw [hM]
    clear h1 hc HV hM
    go_enter Tryz.func93, Tryz.ntmps93
    go_wp2
    go_ret
    exact ⟨rfl, rfl⟩
  · have HV := Lib.hid (digI_none (digV_not (c := c) (by omega) (by omega) (by omega)))
    as_aux_lemma =>
    rw [HV.out]
    obtain ⟨M, hM⟩ : ∃ M : Int, (c.toNat : Int) = M := ⟨_, rfl⟩
    have b1 : 58 ≤ M := by omega
    have b2 : M ≤ 64 := by omega
    rw [hM]
    clear h1 hc HV hM
    go_enter Tryz.func93, Tryz.ntmps93
    go_wp2
    go_ret
    exact ⟨rfl, rfl⟩
  · have HV := Lib.hid (digI_none (digV_not (c := c) (by omega) (by omega) (by omega)))
    as_aux_lemma =>
    rw [HV.out]
    obtain ⟨M, hM⟩ : ∃ M : Int, (c.toNat : Int) = M := ⟨_, rfl⟩
    have b1 : 71 ≤ M := by omega
    have b2 : M ≤ 96 := by omega
    rw [hM]
    clear h1 hc HV hM
    go_enter Tryz.func93, Tryz.ntmps93
    go_wp2
    go_ret
    exact ⟨rfl, rfl⟩
  · have HV := Lib.hid (digI_none (digV_not (c := c) (by omega) (by omega) (by omega)))
    as_aux_lemma =>
    rw [HV.out]
    obtain ⟨M, hM⟩ : ∃ M : Int, (c.toNat : Int) = M := ⟨_, rfl⟩
    have b1 : 103 ≤ M := by omega
    have b2 : M ≤ 255 := by omega
    rw [hM]
    clear h1 hc HV hM
    go_enter Tryz.func93, Tryz.ntmps93
    go_wp2
    go_ret
    exact ⟨rfl, rfl⟩

/-- As valL, kept at 1114112. -/
def valS (b : Nat) : Nat → List UInt8 → Option Nat
  | n, [] => some n
  | n, c :: r => match digV c with
    | some d => if d < b then valS b (min (n * b + d) 1114112) r else none
    | none => none
theorem valS_val {b : Nat} (hb : 1 ≤ b) : ∀ {l : List UInt8} (m : Nat), valS b (min m 1114112) l = (valL b m l).map (min · 1114112)
  | [], m => rfl
  | c :: r, m => by
    unfold valS valL
    cases digV c with
    | none => rfl
    | some d =>
      simp only
      by_cases h1 : d < b
      · rw [if_pos h1, if_pos h1, ← valS_val hb]
        congr 1
        by_cases hm : m ≤ 1114112
        · rw [Nat.min_eq_left hm]
        · have h2 : 1114112 * 1 ≤ 1114112 * b := Nat.mul_le_mul_left _ hb
          have h3 : m * 1 ≤ m * b := Nat.mul_le_mul_left _ hb
          have e1 : min m 1114112 = 1114112 := Nat.min_eq_right (by omega)
          have e2 : min (1114112 * b + d) 1114112 = 1114112 := Nat.min_eq_right (by omega)
          have e3 : min (m * b + d) 1114112 = 1114112 := Nat.min_eq_right (by omega)
          rw [e1, e2, e3]
      · rw [if_neg h1, if_neg h1]; rfl
theorem numL_sat {b : Nat} (hb : 1 ≤ b) {l : List UInt8} (h0 : l ≠ []) {n : Nat} (h : valS b 0 l = some n) : numL b l = if charB n then some (encL n) else none := by
  have h2 := valS_val hb (l := l) 0
  rw [Nat.zero_min, h] at h2
  unfold numL
  rw [if_neg h0]
  cases hv : valL b 0 l with
  | none => rw [hv] at h2; cases h2
  | some v =>
    rw [hv] at h2
    have hn : n = min v 1114112 := Option.some.inj h2
    simp only
    by_cases hb : v ≤ 1114111
    · rw [Nat.min_eq_left (by omega)] at hn; rw [hn]
    · rw [Nat.min_eq_right (by omega)] at hn
      have c1 : charB v = false := big_char (m := v) (by omega)
      have c2 : charB n = false := big_char (m := n) (by omega)
      rw [c1, c2]
      simp
theorem numL_satno {b : Nat} (hb : 1 ≤ b) {l : List UInt8} (h : valS b 0 l = none) : numL b l = none := by
  have h2 := valS_val hb (l := l) 0
  rw [Nat.zero_min, h] at h2
  unfold numL
  cases hv : valL b 0 l with
  | none => simp
  | some v => rw [hv] at h2; cases h2
theorem valS_step {b n d : Nat} {c : UInt8} {r : List UInt8} (hd : digV c = some d) (h1 : d < b) : valS b n (c :: r) = valS b (min (n * b + d) 1114112) r := by
  show (match digV c with | some d => if d < b then valS b (min (n * b + d) 1114112) r else none | none => none) = _
  rw [hd]; simp only; rw [if_pos h1]
theorem valS_big {b n d : Nat} {c : UInt8} {r : List UInt8} (hd : digV c = some d) (h1 : ¬ d < b) : valS b n (c :: r) = none := by
  show (match digV c with | some d => if d < b then valS b (min (n * b + d) 1114112) r else none | none => none) = _
  rw [hd]; simp only; rw [if_neg h1]
theorem valS_no {b n : Nat} {c : UInt8} {r : List UInt8} (hd : digV c = none) : valS b n (c :: r) = none := by
  show (match digV c with | some d => if d < b then valS b (min (n * b + d) 1114112) r else none | none => none) = _
  rw [hd]
theorem digV_lt {c : UInt8} {d : Nat} (h : digV c = some d) : d < 16 := by
  rcases dig_cases h with h | h | h <;> omega

/-- What number answers. -/
def RNum (b : Nat) (s : ByteArray) (e : Ending) : Prop :=
  (∃ n : Nat, charB n = true ∧ numL b s.data.toList = some (encL n) ∧ e = .returned (.tuple #[.int .i64 n, .bool true])) ∨ (numL b s.data.toList = none ∧ ∃ x : Int, e = .returned (.tuple #[.int .i64 x, .bool false]))

set_option maxHeartbeats 16000000 in
theorem rnum16 (s : ByteArray) (w : World) (hs : s.size ≤ 1099511627776) :
    Calls Tryz.prog 58 #[.string s, .int .i64 16] w fun e w' => RNum 16 s e ∧ w' = w := by
  go_enter Tryz.func58, Tryz.ntmps58
  go_wp2_with fail
  go_loopw [6, 7, 8] (fun nv iv _ wr => ∃ (k n : Nat) (A : Int), nv = .int .i64 A ∧ iv = .int .i64 k ∧ k ≤ s.size ∧ 0 ≤ A ∧ A ≤ 1114112 ∧ Hid (A = (n : Int) ∧ valS 16 0 s.data.toList = valS 16 n (s.data.toList.drop k)) ∧ w = wr) (fun _ iv _ _ => s.size - (intOf iv).toNat)
  case atStart => exact ⟨0, 0, 0, rfl, rfl, by omega, by omega, by omega, Lib.hid ⟨rfl, rfl⟩, rfl⟩
  case round =>
    obtain ⟨k, n, A, rfl, rfl, hk, a0, a1, HH, rfl⟩ := hrel
    by_cases hlt : k < s.size
    · have HAt := Lib.hid (at_byte3 hlt)
      have hdr : s.data.toList.drop k = s[k] :: s.data.toList.drop (k + 1) := by rw [List.drop_eq_getElem_cons (by simpa using hlt)]; rfl
      obtain ⟨hA, hV⟩ := HH.out
      rw [hdr] at hV
      clear hdr HH
      generalize s[k] = c at *
      cases hd : digV c with
      | none =>
        as_aux_lemma =>
        have HN := Lib.hid (numL_satno (by decide) (hV.trans (valS_no hd)))
        have HD := Lib.hid (fun W => by have := rdig_any c W; rw [digI_none hd] at this; exact this)
        clear hV hA hd
        go_wp2_with (first | ((with_reducible refine iat 17 ?_); (refine six rfl rfl rfl HAt.out ?_)) | (go_at_call 93; (refine (HD.out _).mono ?_); rintro e w2 ⟨rfl, rfl⟩))
        go_ret2
        exact ⟨.inr ⟨HN.out, _, rfl⟩, rfl⟩
      | some d =>
        have hd16 := digV_lt hd
        have HD := Lib.hid (fun W => by have := rdig_any c W; rw [digI_some hd] at this; exact this)
        obtain ⟨D, hD⟩ : ∃ D : Int, (d : Int) = D := ⟨_, rfl⟩
        have HDD := Lib.hid hD
        have d0 : 0 ≤ D := by omega
        have d1 : D ≤ 15 := by omega
        as_aux_lemma =>
        have HN := Lib.hid (show min (A * 16 + D) 1114112 = ((min (n * 16 + d) 1114112 : Nat) : Int) ∧ valS 16 0 s.data.toList = _ from ⟨by omega, hV.trans (valS_step hd (by omega))⟩)
        clear hV hA hd hd16 hD
        go_wp2_with (first | ((with_reducible refine iat 17 ?_); (refine six rfl rfl rfl HAt.out ?_)) | (go_at_call 93; (refine (HD.out _).mono ?_); rintro e w2 ⟨rfl, rfl⟩; rw [HDD.out]))
        go_roundw
        case rel => exact ⟨k + 1, min (n * 16 + d) 1114112, _, rfl, by go_num, by omega, by omega, by omega, HN, trivial⟩
        case measure => simp [intOf]; omega
    · have hend : s.data.toList.drop k = [] := List.drop_of_length_le (by rw [size_list]; omega)
      obtain ⟨hA, hV⟩ := HH.out
      rw [hend] at hV
      have hv : valS 16 0 s.data.toList = some n := hV
      clear HH hend hV
      by_cases h0 : s.size = 0
      · as_aux_lemma =>
        have hl : s.data.toList = [] := List.eq_nil_of_length_eq_zero (by rw [size_list]; exact h0)
        have q0 : (s.toList != []) = false := by rw [Lib.toList_data, hl]; rfl
        have q1 : (s.toList == []) = true := by rw [Lib.toList_data, hl]; rfl
        have HN := Lib.hid (show numL 16 s.data.toList = none by rw [hl]; rfl)
        clear hv hl
        go_wp2_with fail
        go_ret2
        exact ⟨.inr ⟨HN.out, _, rfl⟩, rfl⟩
      · have hl : s.data.toList ≠ [] := fun e => h0 (by rw [← size_list, e]; rfl)
        have q1 : (s.toList == []) = false := by rw [Lib.toList_data]; exact beq_eq_false_iff_ne.2 hl
        have q0 : (s.toList != []) = true := by rw [bne, q1]; rfl
        have hN := numL_sat (by decide) hl hv
        have HCh := Lib.hid (fun W => rChar_any n W (by omega))
        subst hA
        cases hch : charB n with
        | true =>
          as_aux_lemma =>
          rw [hch] at hN HCh
          have HN := Lib.hid hN
          have Hch := Lib.hid hch
          clear hN hch hv hl
          go_wp2_with (first | (go_at_call 76; (refine (HCh.out _).mono ?_); rintro e w2 ⟨rfl, rfl⟩))
          go_ret2
          exact ⟨.inl ⟨n, Hch.out, HN.out, rfl⟩, rfl⟩
        | false =>
          as_aux_lemma =>
          rw [hch] at hN HCh
          have HN := Lib.hid hN
          clear hN hch hv hl
          go_wp2_with (first | (go_at_call 76; (refine (HCh.out _).mono ?_); rintro e w2 ⟨rfl, rfl⟩))
          go_ret2
          exact ⟨.inr ⟨HN.out, _, rfl⟩, rfl⟩

set_option maxHeartbeats 16000000 in
theorem rnum10 (s : ByteArray) (w : World) (hs : s.size ≤ 1099511627776) :
    Calls Tryz.prog 58 #[.string s, .int .i64 10] w fun e w' => RNum 10 s e ∧ w' = w := by
  go_enter Tryz.func58, Tryz.ntmps58
  go_wp2_with fail
  go_loopw [6, 7, 8] (fun nv iv _ wr => ∃ (k n : Nat) (A : Int), nv = .int .i64 A ∧ iv = .int .i64 k ∧ k ≤ s.size ∧ 0 ≤ A ∧ A ≤ 1114112 ∧ Hid (A = (n : Int) ∧ valS 10 0 s.data.toList = valS 10 n (s.data.toList.drop k)) ∧ w = wr) (fun _ iv _ _ => s.size - (intOf iv).toNat)
  case atStart => exact ⟨0, 0, 0, rfl, rfl, by omega, by omega, by omega, Lib.hid ⟨rfl, rfl⟩, rfl⟩
  case round =>
    obtain ⟨k, n, A, rfl, rfl, hk, a0, a1, HH, rfl⟩ := hrel
    by_cases hlt : k < s.size
    · have HAt := Lib.hid (at_byte3 hlt)
      have hdr : s.data.toList.drop k = s[k] :: s.data.toList.drop (k + 1) := by rw [List.drop_eq_getElem_cons (by simpa using hlt)]; rfl
      obtain ⟨hA, hV⟩ := HH.out
      rw [hdr] at hV
      clear hdr HH
      generalize s[k] = c at *
      cases hd : digV c with
      | none =>
        as_aux_lemma =>
        have HN := Lib.hid (numL_satno (by decide) (hV.trans (valS_no hd)))
        have HD := Lib.hid (fun W => by have := rdig_any c W; rw [digI_none hd] at this; exact this)
        clear hV hA hd
        go_wp2_with (first | ((with_reducible refine iat 17 ?_); (refine six rfl rfl rfl HAt.out ?_)) | (go_at_call 93; (refine (HD.out _).mono ?_); rintro e w2 ⟨rfl, rfl⟩))
        go_ret2
        exact ⟨.inr ⟨HN.out, _, rfl⟩, rfl⟩
      | some d =>
        have hd16 := digV_lt hd
        have HD := Lib.hid (fun W => by have := rdig_any c W; rw [digI_some hd] at this; exact this)
        obtain ⟨D, hD⟩ : ∃ D : Int, (d : Int) = D := ⟨_, rfl⟩
        have HDD := Lib.hid hD
        have d0 : 0 ≤ D := by omega
        by_cases h10 : d < 10
        · have d1 : D ≤ 9 := by omega
          as_aux_lemma =>
          have HN := Lib.hid (show min (A * 10 + D) 1114112 = ((min (n * 10 + d) 1114112 : Nat) : Int) ∧ valS 10 0 s.data.toList = _ from ⟨by omega, hV.trans (valS_step hd h10)⟩)
          clear hV hA hd hd16 hD
          go_wp2_with (first | ((with_reducible refine iat 17 ?_); (refine six rfl rfl rfl HAt.out ?_)) | (go_at_call 93; (refine (HD.out _).mono ?_); rintro e w2 ⟨rfl, rfl⟩; rw [HDD.out]))
          go_roundw
          case rel => exact ⟨k + 1, min (n * 10 + d) 1114112, _, rfl, by go_num, by omega, by omega, by omega, HN, trivial⟩
          case measure => simp [intOf]; omega
        · have d1 : 10 ≤ D := by omega
          as_aux_lemma =>
          have HN := Lib.hid (numL_satno (by decide) (hV.trans (valS_big hd h10)))
          clear hV hA hd hd16 hD h10
          go_wp2_with (first | ((with_reducible refine iat 17 ?_); (refine six rfl rfl rfl HAt.out ?_)) | (go_at_call 93; (refine (HD.out _).mono ?_); rintro e w2 ⟨rfl, rfl⟩; rw [HDD.out]))
          go_ret2
          exact ⟨.inr ⟨HN.out, _, rfl⟩, rfl⟩
    · have hend : s.data.toList.drop k = [] := List.drop_of_length_le (by rw [size_list]; omega)
      obtain ⟨hA, hV⟩ := HH.out
      rw [hend] at hV
      have hv : valS 10 0 s.data.toList = some n := hV
      clear HH hend hV
      by_cases h0 : s.size = 0
      · as_aux_lemma =>
        have hl : s.data.toList = [] := List.eq_nil_of_length_eq_zero (by rw [size_list]; exact h0)
        have q0 : (s.toList != []) = false := by rw [Lib.toList_data, hl]; rfl
        have q1 : (s.toList == []) = true := by rw [Lib.toList_data, hl]; rfl
        have HN := Lib.hid (show numL 10 s.data.toList = none by rw [hl]; rfl)
        clear hv hl
        go_wp2_with fail
        go_ret2
        exact ⟨.inr ⟨HN.out, _, rfl⟩, rfl⟩
      · have hl : s.data.toList ≠ [] := fun e => h0 (by rw [← size_list, e]; rfl)
        have q1 : (s.toList == []) = false := by rw [Lib.toList_data]; exact beq_eq_false_iff_ne.2 hl
        have q0 : (s.toList != []) = true := by rw [bne, q1]; rfl
        have hN := numL_sat (by decide) hl hv
        have HCh := Lib.hid (fun W => rChar_any n W (by omega))
        subst hA
        cases hch : charB n with
        | true =>
          as_aux_lemma =>
          rw [hch] at hN HCh
          have HN := Lib.hid hN
          have Hch := Lib.hid hch
          clear hN hch hv hl
          go_wp2_with (first | (go_at_call 76; (refine (HCh.out _).mono ?_); rintro e w2 ⟨rfl, rfl⟩))
          go_ret2
          exact ⟨.inl ⟨n, Hch.out, HN.out, rfl⟩, rfl⟩
        | false =>
          as_aux_lemma =>
          rw [hch] at hN HCh
          have HN := Lib.hid hN
          clear hN hch hv hl
          go_wp2_with (first | (go_at_call 76; (refine (HCh.out _).mono ?_); rintro e w2 ⟨rfl, rfl⟩))
          go_ret2
          exact ⟨.inr ⟨HN.out, _, rfl⟩, rfl⟩
end Go.Proofs.YtfnodoepeiknhaaGreatDoor
