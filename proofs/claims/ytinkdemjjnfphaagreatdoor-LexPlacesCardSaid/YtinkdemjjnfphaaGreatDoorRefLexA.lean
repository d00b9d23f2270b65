/- The reference's lexer, its small functions. (fast) -/
import Derived.Test.YtinkdemjjnfphaaGreatDoorLexQuoted
import Derived.Test.YtinkdemjjnfphaaGreatDoorCharsA
namespace Go.Proofs.YtinkdemjjnfphaaGreatDoor
open Go.RowKit
set_option linter.unusedVariables false
set_option linter.unusedSimpArgs false
set_option maxRecDepth 100000
theorem rDg (b : UInt8) (w : World) : Calls Tryz.prog 19 #[.int .u8 b.toNat] w fun e w' => e = .returned (.bool (dg b)) ∧ w = w' := decB_dg b ▸ digit_any b.toNat w
def rqV (r : Option Nat) : Int := match r with | none => -1 | some k => (k : Int)
def RTPost (r : Option (ByteArray × Nat)) (e : Ending) : Prop := match r with
  | none => ∃ (t : ByteArray) (k : Int), e = .returned (.tuple #[.string t, .int .i64 k, .bool false])
  | some (t, k) => e = .returned (.tuple #[.string t, .int .i64 k, .bool true])
theorem rLt (b : UInt8) (w : World) : Calls Tryz.prog 18 #[.int .u8 b.toNat] w fun e w' => e = .returned (.bool (lt1 b)) ∧ w = w' := letter_any b.toNat w


set_option maxHeartbeats 4000000 in
theorem rlDigits (s : ByteArray) (i : Nat) (w : World) (hi : i ≤ s.size) (hs : s.size ≤ 1000) :
    Calls Tryz.prog 42 #[.string s, .int .i64 i] w fun e w' => e = .returned (.int .i64 (spanE dg s.data.toList i : Nat)) ∧ Below w.heap.size w w' := by
  have HM := Lib.hid (Mem.start w)
  have HL := Lib.hid (show s.data.toList.length = s.size by simp)
  obtain ⟨r, hr⟩ : ∃ r, spanE dg s.data.toList i = r := ⟨_, rfl⟩
  rw [hr]
  have HR := Lib.hid hr
  clear hr
  go_enter Tryz.func42, Tryz.ntmps42
  go_wp2_with fail
  go_loopw [1] (fun iv wr => ∃ k : Nat, iv = .int .i64 k ∧ k ≤ s.size ∧ Hid (spanE dg s.data.toList k = r) ∧ Hid (Mem w wr [])) (fun iv _ => s.size - (intOf iv).toNat)
  case atStart => exact ⟨i, rfl, hi, HR, HM⟩
  case round =>
    clear HM HR
    obtain ⟨k, rfl, hk, HR, HM⟩ := hrel
    by_cases hlt : k < s.size
    · obtain ⟨b, hb⟩ : ∃ b, s.data.toList[k]? = some b := ⟨_, List.getElem?_eq_getElem (by rw [HL.out]; exact hlt)⟩
      have HBi := Lib.hid hb
      have d1 : decide ((k : Int) < s.size) = true := decide_eq_true (by omega)
      have hlt3 := Lib.hid (show k + 1 ≤ s.size from hlt)
      cases hp : dg b with
      | true =>
        have HF := Lib.hid (fun W => hp ▸ rDg b W)
        have HR2 := Lib.hid (show spanE dg s.data.toList (k + 1) = r by rw [← HR.out]; exact (spanE_yes hb hp).symm)
        clear hb hp
        go_wp2_with (first | ((with_reducible refine iat 12 ?_); (refine six rfl rfl rfl HBi.out ?_)) | (go_at_call 19; (with_reducible refine (HF.out _).mono ?_); rintro e W2 ⟨rfl, rfl⟩))
        go_roundw
        case rel => exact ⟨k + 1, by go_num, hlt3.out, HR2, HM⟩
        case measure => have := hlt3.out; simp [intOf]; omega
      | false =>
        have HF := Lib.hid (fun W => hp ▸ rDg b W)
        have HR2 := Lib.hid (show k = r by rw [← HR.out]; exact (spanE_no hb hp).symm)
        clear hb hp
        go_wp2_with (first | ((with_reducible refine iat 12 ?_); (refine six rfl rfl rfl HBi.out ?_)) | (go_at_call 19; (with_reducible refine (HF.out _).mono ?_); rintro e W2 ⟨rfl, rfl⟩))
        go_ret
        exact ⟨by rw [HR2.out]; rfl, HM.out.below⟩
    · have HR2 := Lib.hid (show k = r by rw [← HR.out]; exact (spanE_end (by rw [HL.out]; omega)).symm)
      have d1 : decide ((k : Int) < s.size) = false := decide_eq_false (by omega)
      go_wp2_with fail
      go_ret
      exact ⟨by rw [HR2.out]; rfl, HM.out.below⟩

set_option maxHeartbeats 4000000 in
theorem rlWord (s : ByteArray) (i : Nat) (w : World) (hi : i ≤ s.size) (hs : s.size ≤ 1000) :
    Calls Tryz.prog 25 #[.string s, .int .i64 i] w fun e w' => e = .returned (.int .i64 (spanE wdB s.data.toList i : Nat)) ∧ Below w.heap.size w w' := by
  have HM := Lib.hid (Mem.start w)
  have HL := Lib.hid (show s.data.toList.length = s.size by simp)
  obtain ⟨r, hr⟩ : ∃ r, spanE wdB s.data.toList i = r := ⟨_, rfl⟩
  rw [hr]
  have HR := Lib.hid hr
  clear hr
  go_enter Tryz.func25, Tryz.ntmps25
  go_wp2_with fail
  go_loopw [1] (fun iv wr => ∃ k : Nat, iv = .int .i64 k ∧ k ≤ s.size ∧ Hid (spanE wdB s.data.toList k = r) ∧ Hid (Mem w wr [])) (fun iv _ => s.size - (intOf iv).toNat)
  case atStart => exact ⟨i, rfl, hi, HR, HM⟩
  case round =>
    clear HM HR
    obtain ⟨k, rfl, hk, HR, HM⟩ := hrel
    by_cases hlt : k < s.size
    · obtain ⟨b, hb⟩ : ∃ b, s.data.toList[k]? = some b := ⟨_, List.getElem?_eq_getElem (by rw [HL.out]; exact hlt)⟩
      have HBi := Lib.hid hb
      have d1 : decide ((k : Int) < s.size) = true := decide_eq_true (by omega)
      have hlt3 := Lib.hid (show k + 1 ≤ s.size from hlt)
      cases hl : lt1 b with
      | true =>
        have HG := Lib.hid (fun W => hl ▸ rLt b W)
        have hp : wdB b = true := by unfold wdB; rw [hl]; rfl
        have HR2 := Lib.hid (show spanE wdB s.data.toList (k + 1) = r by rw [← HR.out]; exact (spanE_yes hb hp).symm)
        clear hb hp hl
        go_wp2_with (first | ((with_reducible refine iat 12 ?_); (refine six rfl rfl rfl HBi.out ?_)) | ((with_reducible refine iat 17 ?_); (refine six rfl rfl rfl HBi.out ?_)) | (go_at_call 18; (with_reducible refine (HG.out _).mono ?_); rintro e W2 ⟨rfl, rfl⟩))
        go_roundw
        case rel => exact ⟨k + 1, by go_num, hlt3.out, HR2, HM⟩
        case measure => have := hlt3.out; simp [intOf]; omega
      | false =>
        have HG := Lib.hid (fun W => hl ▸ rLt b W)
        cases hd : dg b with
        | true =>
          have HF := Lib.hid (fun W => hd ▸ rDg b W)
          have hp : wdB b = true := by unfold wdB; rw [hl, hd]; rfl
          have HR2 := Lib.hid (show spanE wdB s.data.toList (k + 1) = r by rw [← HR.out]; exact (spanE_yes hb hp).symm)
          clear hb hp hl hd
          go_wp2_with (first | ((with_reducible refine iat 12 ?_); (refine six rfl rfl rfl HBi.out ?_)) | ((with_reducible refine iat 17 ?_); (refine six rfl rfl rfl HBi.out ?_)) | (go_at_call 19; (with_reducible refine (HF.out _).mono ?_); rintro e W2 ⟨rfl, rfl⟩) | (go_at_call 18; (with_reducible refine (HG.out _).mono ?_); rintro e W2 ⟨rfl, rfl⟩))
          go_roundw
          case rel => exact ⟨k + 1, by go_num, hlt3.out, HR2, HM⟩
          case measure => have := hlt3.out; simp [intOf]; omega
        | false =>
          have HF := Lib.hid (fun W => hd ▸ rDg b W)
          have hp : wdB b = false := by unfold wdB; rw [hl, hd]; rfl
          have HR2 := Lib.hid (show k = r by rw [← HR.out]; exact (spanE_no hb hp).symm)
          clear hb hp hl hd
          go_wp2_with (first | ((with_reducible refine iat 12 ?_); (refine six rfl rfl rfl HBi.out ?_)) | ((with_reducible refine iat 17 ?_); (refine six rfl rfl rfl HBi.out ?_)) | (go_at_call 19; (with_reducible refine (HF.out _).mono ?_); rintro e W2 ⟨rfl, rfl⟩) | (go_at_call 18; (with_reducible refine (HG.out _).mono ?_); rintro e W2 ⟨rfl, rfl⟩))
          go_ret
          exact ⟨by rw [HR2.out]; rfl, HM.out.below⟩
    · have HR2 := Lib.hid (show k = r by rw [← HR.out]; exact (spanE_end (by rw [HL.out]; omega)).symm)
      have d1 : decide ((k : Int) < s.size) = false := decide_eq_false (by omega)
      go_wp2_with fail
      go_ret
      exact ⟨by rw [HR2.out]; rfl, HM.out.below⟩

set_option maxHeartbeats 4000000 in
theorem rlNumber (s : ByteArray) (i : Nat) (w : World) (hi : i ≤ s.size) (hs : s.size ≤ 1000) :
    Calls Tryz.prog 21 #[.string s, .int .i64 i] w fun e w' => e = .returned (.int .i64 (numE s.data.toList i : Nat)) ∧ Below w.heap.size w w' := by
  have HM := Lib.hid (Mem.start w)
  have hlen : s.data.toList.length = s.size := by simp
  obtain ⟨k, hk⟩ : ∃ k, spanE dg s.data.toList i = k := ⟨_, rfl⟩
  have hle := spanE_le (p := dg) (l := s.data.toList) (i := i) (by omega)
  rw [hk, hlen] at hle
  have H1 := Lib.hid (fun W => hk ▸ rlDigits s i W hi hs)
  by_cases hk1 : k + 1 < s.size
  · obtain ⟨b1, hb1⟩ : ∃ b, s.data.toList[k]? = some b := ⟨_, List.getElem?_eq_getElem (by omega)⟩
    obtain ⟨b2, hb2⟩ : ∃ b, s.data.toList[k + 1]? = some b := ⟨_, List.getElem?_eq_getElem (by omega)⟩
    have HB1 := Lib.hid hb1
    have HB2 := Lib.hid hb2
    have d1 : decide ((k : Int) < (s.size : Int) - 1) = true := decide_eq_true (by omega)
    by_cases hdot : b1 = 46
    · subst hdot
      have H2 := Lib.hid (fun W => rDg b2 W)
      cases hp : dg b2 with
      | true =>
        have hE : numE s.data.toList i = spanE dg s.data.toList (k + 1) := numE_dot hk hb1 hb2 hp
        obtain ⟨r, hr⟩ : ∃ r, spanE dg s.data.toList (k + 1) = r := ⟨_, rfl⟩
        have H3 := Lib.hid (fun W => (show Calls Tryz.prog 42 #[.string s, .int .i64 ((k : Int) + 1)] W fun e w' => e = .returned (.int .i64 r) ∧ Below W.heap.size W w' from hr ▸ rlDigits s (k + 1) W (by omega) hs))
        rw [hE, hr]
        rw [hp] at H2
        clear hE hr hp hb1 hb2 hk
        go_enter Tryz.func21, Tryz.ntmps21
        go_wp2_with (first | (go_at_call 42; first | ((with_reducible refine (H1.out _).mono ?_); rintro e W1 ⟨rfl, hb⟩; replace HM := Lib.hid (HM.out.next hb); clear hb) | ((with_reducible refine (H3.out _).mono ?_); rintro e W1 ⟨rfl, hb⟩; replace HM := Lib.hid (HM.out.next hb); clear hb)) | ((with_reducible refine iat 17 ?_); (refine six rfl rfl rfl HB1.out ?_)) | ((with_reducible refine iat 24 ?_); (refine six rfl rfl (i := k + 1) rfl HB2.out ?_)) | (go_at_call 19; (with_reducible refine (H2.out _).mono ?_); rintro e W2 ⟨rfl, rfl⟩))
        go_ret
        exact ⟨rfl, HM.out.below⟩
      | false =>
        have hE : numE s.data.toList i = k := numE_one hk (fun h => by rw [hb2] at h; have := Option.some.inj h.2; rw [hp] at this; cases this)
        rw [hE]
        rw [hp] at H2
        clear hE hp hb1 hb2 hk
        go_enter Tryz.func21, Tryz.ntmps21
        go_wp2_with (first | (go_at_call 42; (with_reducible refine (H1.out _).mono ?_); rintro e W1 ⟨rfl, hb⟩; replace HM := Lib.hid (HM.out.next hb); clear hb) | ((with_reducible refine iat 17 ?_); (refine six rfl rfl rfl HB1.out ?_)) | ((with_reducible refine iat 24 ?_); (refine six rfl rfl (i := k + 1) rfl HB2.out ?_)) | (go_at_call 19; (with_reducible refine (H2.out _).mono ?_); rintro e W2 ⟨rfl, rfl⟩))
        go_ret
        exact ⟨rfl, HM.out.below⟩
    · have hE : numE s.data.toList i = k := numE_one hk (fun h => by rw [hb1] at h; exact hdot (Option.some.inj h.1))
      have hq : ((b1.toNat : Int) == 46) = false := by simpa using fun e : (b1.toNat : Int) = 46 => hdot (UInt8.toNat_inj.1 (by show b1.toNat = 46; omega))
      rw [hE]
      clear hE hdot hb1 hb2 hk
      go_enter Tryz.func21, Tryz.ntmps21
      go_wp2_with (first | (go_at_call 42; (with_reducible refine (H1.out _).mono ?_); rintro e W1 ⟨rfl, hb⟩; replace HM := Lib.hid (HM.out.next hb); clear hb) | ((with_reducible refine iat 17 ?_); (refine six rfl rfl rfl HB1.out ?_)))
      go_ret
      exact ⟨rfl, HM.out.below⟩
  · have hE : numE s.data.toList i = k := numE_one hk (fun h => by rw [List.getElem?_eq_none (show s.data.toList.length ≤ k + 1 by omega)] at h; exact absurd h.2 (by simp))
    have d1 : decide ((k : Int) < (s.size : Int) - 1) = false := decide_eq_false (by omega)
    rw [hE]
    clear hE hk
    go_enter Tryz.func21, Tryz.ntmps21
    go_wp2_with (first | (go_at_call 42; (with_reducible refine (H1.out _).mono ?_); rintro e W1 ⟨rfl, hb⟩; replace HM := Lib.hid (HM.out.next hb); clear hb))
    go_ret
    exact ⟨rfl, HM.out.below⟩

set_option maxHeartbeats 4000000 in
theorem rlQuoted (s : ByteArray) (i : Nat) (w : World) (hi : i < s.size) (hs : s.size ≤ 1000) :
    Calls Tryz.prog 46 #[.string s, .int .i64 i] w fun e w' => e = .returned (.int .i64 (rqV (QE s.data.toList (i + 1)))) ∧ Below w.heap.size w w' := by
  have HM := Lib.hid (Mem.start w)
  have HL := Lib.hid (show s.data.toList.length = s.size by simp)
  obtain ⟨r, hr⟩ : ∃ r, QE s.data.toList (i + 1) = r := ⟨_, rfl⟩
  rw [hr]
  have HR := Lib.hid hr
  clear hr
  go_enter Tryz.func46, Tryz.ntmps46
  go_wp2_with fail
  go_loopw [5] (fun iv wr => ∃ k : Nat, iv = .int .i64 k ∧ k ≤ s.size + 1 ∧ Hid (QE s.data.toList k = r) ∧ Hid (Mem w wr [])) (fun iv _ => s.size + 2 - (intOf iv).toNat)
  case atStart => exact ⟨i + 1, by go_num, by omega, HR, HM⟩
  case round =>
    clear HM HR
    obtain ⟨k, rfl, hk, HR, HM⟩ := hrel
    by_cases hlt : k < s.size
    · obtain ⟨b, hb⟩ : ∃ b, s.data.toList[k]? = some b := ⟨_, List.getElem?_eq_getElem (by rw [HL.out]; exact hlt)⟩
      have HBi := Lib.hid hb
      have d1 : decide ((k : Int) < s.size) = true := decide_eq_true (by omega)
      by_cases h92 : b = 92
      · subst h92
        have HR2 := Lib.hid (show QE s.data.toList (k + 2) = r by rw [← HR.out]; exact (QE_two hb).symm)
        have hlt3 := Lib.hid (show k + 2 ≤ s.size + 1 by omega)
        clear hb
        go_wp2_with (first | ((with_reducible refine iat 16 ?_); (refine six rfl rfl rfl HBi.out ?_)) | ((with_reducible refine iat 22 ?_); (refine six rfl rfl rfl HBi.out ?_)))
        go_roundw
        case rel => exact ⟨k + 2, by go_num, hlt3.out, HR2, HM⟩
        case measure => have := hlt3.out; simp [intOf]; omega
      · have q1 : ((b.toNat : Int) == 92) = false := by simpa using fun e : (b.toNat : Int) = 92 => h92 (UInt8.toNat_inj.1 (by show b.toNat = 92; omega))
        by_cases h34 : b = 34
        · subst h34
          have HR2 := Lib.hid (show r = some (k + 1) by rw [← HR.out]; exact QE_at hb)
          clear hb
          go_wp2_with (first | ((with_reducible refine iat 16 ?_); (refine six rfl rfl rfl HBi.out ?_)) | ((with_reducible refine iat 22 ?_); (refine six rfl rfl rfl HBi.out ?_)))
          go_ret
          exact ⟨by rw [HR2.out]; rfl, HM.out.below⟩
        · have q2 : ((b.toNat : Int) == 34) = false := by simpa using fun e : (b.toNat : Int) = 34 => h34 (UInt8.toNat_inj.1 (by show b.toNat = 34; omega))
          have HR2 := Lib.hid (show QE s.data.toList (k + 1) = r by rw [← HR.out]; exact (QE_one hb h92 h34).symm)
          have hlt3 := Lib.hid (show k + 1 ≤ s.size + 1 by omega)
          clear hb
          go_wp2_with (first | ((with_reducible refine iat 16 ?_); (refine six rfl rfl rfl HBi.out ?_)) | ((with_reducible refine iat 22 ?_); (refine six rfl rfl rfl HBi.out ?_)))
          go_roundw
          case rel => exact ⟨k + 1, by go_num, hlt3.out, HR2, HM⟩
          case measure => have := hlt3.out; simp [intOf]; omega
    · have HR2 := Lib.hid (show r = none by rw [← HR.out]; exact QE_end (by rw [HL.out]; omega))
      have d1 : decide ((k : Int) < s.size) = false := decide_eq_false (by omega)
      go_wp2_with fail
      go_ret
      exact ⟨by rw [HR2.out]; rfl, HM.out.below⟩

set_option maxHeartbeats 4000000 in
theorem rlText (s : ByteArray) (i : Nat) (w : World) (hi : i ≤ s.size) (hs : s.size ≤ 1000) :
    Calls Tryz.prog 23 #[.string s, .int .i64 i] w fun e w' => RTPost (textF s i) e ∧ Below w.heap.size w w' := by
  have HM := Lib.hid (Mem.start w)
  have hlen : s.data.toList.length = s.size := by simp
  by_cases hil : i < s.size
  · obtain ⟨c, hc⟩ : ∃ c, s.data.toList[i]? = some c := ⟨_, List.getElem?_eq_getElem (by rw [hlen]; exact hil)⟩
    have HC := Lib.hid hc
    have d1 : decide ((s.size : Int) ≤ i) = false := decide_eq_false (by omega)
    have d1' : decide (s.size ≤ i) = false := decide_eq_false (by omega)
    by_cases h34 : c = 34
    · subst h34
      have HQ := Lib.hid (fun W => rlQuoted s i W hil hs)
      cases hq : QE s.data.toList (i + 1) with
      | none =>
        rw [hq] at HQ
        have HQ := Lib.hid (show ∀ W, Calls Tryz.prog 46 #[.string s, .int .i64 i] W fun e w' => e = .returned (.int .i64 (-1)) ∧ Below W.heap.size W w' from HQ.out)
        have hn := textF_open hc hq
        have HN := Lib.hid hn
        clear hc hq hn
        go_enter Tryz.func23, Tryz.ntmps23
        go_wp2_with (first | ((with_reducible refine iat 17 ?_); (refine six rfl rfl rfl HC.out ?_)) | (go_at_call 46; (with_reducible refine (HQ.out _).mono ?_); rintro e W1 ⟨rfl, hb⟩; replace HM := Lib.hid (HM.out.next hb); clear hb))
        go_ret3
        rw [HN.out]
        exact ⟨⟨_, _, rfl⟩, HM.out.below⟩
      | some k =>
        rw [hq] at HQ
        have HQ := Lib.hid (show ∀ W, Calls Tryz.prog 46 #[.string s, .int .i64 i] W fun e w' => e = .returned (.int .i64 k) ∧ Below W.heap.size W w' from HQ.out)
        have hk := quoE_le _ _ _ hq
        have HG := Lib.hid (textF_at hc hq)
        obtain ⟨⟨ut, ue⟩, hu⟩ : ∃ x, unqR (s.extract i k) = x := ⟨_, rfl⟩
        have hxs : (s.extract i k).size ≤ 1000 := by rw [ByteArray.size_extract]; omega
        have HU := Lib.hid (show ∀ W, Calls Tryz.prog 47 #[.string (s.extract i k)] W fun e w' => e = .returned (.tuple #[.string ut, .int .i64 ue]) ∧ Below W.heap.size W w' from fun W => by
          have h := runquote_any (s.extract i k) W (by omega)
          rw [unquoteV_R, hu] at h
          exact h)
        rw [hu] at HG
        have hik : i ≤ k := by omega
        have hks : k ≤ s.size := by omega
        have g1 : decide ((k : Int) < 0) = false := decide_eq_false (by omega)
        clear hc hq hu hxs
        go_enter Tryz.func23, Tryz.ntmps23
        go_wp2_with (first | ((with_reducible refine iat 17 ?_); (refine six rfl rfl rfl HC.out ?_)) | ((with_reducible refine iat 29 ?_); (refine ssls rfl rfl rfl rfl rfl hik hks ?_)) | (go_at_call 46; (with_reducible refine (HQ.out _).mono ?_); rintro e W1 ⟨rfl, hb⟩; replace HM := Lib.hid (HM.out.next hb); clear hb) | (go_at_call 47; (with_reducible refine (HU.out _).mono ?_); rintro e W1 ⟨rfl, hb⟩; replace HM := Lib.hid (HM.out.next hb); clear hb))
        go_ret3
        rw [HG.out]
        by_cases h0 : ue = 0
        · subst h0
          exact ⟨rfl, HM.out.below⟩
        · rw [if_neg h0]
          have he : (ue == 0) = false := by simpa using h0
          exact ⟨⟨ut, k, by rw [← he]; rfl⟩, HM.out.below⟩
    · have hn := textF_no (s := s) (i := i) (by rw [hc]; exact fun e => h34 (Option.some.inj e))
      have HN := Lib.hid hn
      have q2 : ((c.toNat : Int) == 34) = false := by simpa using fun e : (c.toNat : Int) = 34 => h34 (UInt8.toNat_inj.1 (by show c.toNat = 34; omega))
      clear hc hn
      go_enter Tryz.func23, Tryz.ntmps23
      go_wp2_with (first | ((with_reducible refine iat 17 ?_); (refine six rfl rfl rfl HC.out ?_)))
      go_ret3
      rw [HN.out]
      exact ⟨⟨_, _, rfl⟩, HM.out.below⟩
  · have hn := textF_no (s := s) (i := i) (by rw [List.getElem?_eq_none (by omega)]; simp)
    have HN := Lib.hid hn
    have d1 : decide ((s.size : Int) ≤ i) = true := decide_eq_true (by omega)
    have d1' : decide (s.size ≤ i) = true := decide_eq_true (by omega)
    clear hn
    go_enter Tryz.func23, Tryz.ntmps23
    go_wp2_with fail
    go_ret3
    rw [HN.out]
    exact ⟨⟨_, _, rfl⟩, HM.out.below⟩
end Go.Proofs.YtinkdemjjnfphaaGreatDoor
