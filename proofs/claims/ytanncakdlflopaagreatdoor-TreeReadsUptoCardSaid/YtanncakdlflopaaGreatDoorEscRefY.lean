/- The reference's Bytes and named. (short) The reference's named. (short) The reference's DocUnescape. (short) -/
import Derived.Test.YtanncakdlflopaaGreatDoorEscRefX
import Derived.Test.YtanncakdlflopaaGreatDoorMeantB
import Derived.Lib.SlBytesConst
import Derived.Test.YtanncakdlflopaaGreatDoorUnesc
namespace Go.Proofs.YtanncakdlflopaaGreatDoor
open Go.RowKit
set_option linter.unusedVariables false
set_option linter.unusedSimpArgs false
set_option maxRecDepth 100000

/-- A row of new bytes. -/
def RRow (l : List UInt8) (w : World) (v : Value) (w' : World) : Prop := ∃ g, v = .slice (some ⟨g, 0, none⟩) l.length l.length ∧ Cells w' ⟨g, 0, none⟩ (bC l) ∧ Below w.heap.size w w'
theorem rrow_new (w : World) (l : List UInt8) (cs : Array Value) (h : cs.toList = bC l) : RRow l w (.slice (some ⟨w.heap.size, 0, none⟩) l.length l.length) (w.alloc (.cells cs 5)) := by
  refine ⟨_, rfl, fun j u hj => ?_, (Below.refl _ w).alloc (Nat.le_refl _) _⟩
  rw [add_none, Nat.zero_add]
  rw [← h] at hj
  simp only [World.cell?, World.alloc]
  simpa using hj

theorem t64 (n : Nat) : (n : Int).tdiv 64 = ((n / 64 : Nat) : Int) := rfl
theorem t4096 (n : Nat) : (n : Int).tdiv 4096 = ((n / 4096 : Nat) : Int) := rfl
theorem t262144 (n : Nat) : (n : Int).tdiv 262144 = ((n / 262144 : Nat) : Int) := rfl
theorem m64 (n : Nat) : (n : Int).tmod 64 = ((n % 64 : Nat) : Int) := rfl
theorem wrN {m : Nat} (h : m < 4294967296) : wrap64 (m : Int) = m := by unfold wrap64; omega
theorem wrA {b m : Nat} (h : b + m < 256) : wrap64 ((b : Int) + (m : Int)) % 256 = ((b + m : Nat) : Int) := by unfold wrap64; omega

set_option maxHeartbeats 4000000 in
theorem rbytes_any (n : Nat) (h : charB n = true) (w : World) :
    Calls Tryz.prog 112 #[.int .i64 n] w fun e w' => ∃ v, e = .returned v ∧ RRow (encL n) w v w' := by
  have hl := charB_lt h
  rcases encL_cases n hl with ⟨h1, e⟩ | ⟨h1, h2, e⟩ | ⟨h1, h2, e⟩ | ⟨h1, e⟩
  · as_aux_lemma =>
    have HE := Lib.hid e
    obtain ⟨A, hA⟩ : ∃ A : Int, (n : Int) = A := ⟨_, rfl⟩
    have a0 : 0 ≤ A := by omega
    have a1 : A < 128 := by omega
    have HA := Lib.hid (show n < 256 ∧ A = n from ⟨by omega, hA.symm⟩)
    rw [hA]
    clear e h hl h1 hA
    go_enter Tryz.func112, Tryz.ntmps112
    go_wp2
    go_ret
    exact ⟨_, rfl, by
      have := rrow_new w (encL n) #[.int .u8 A] (by rw [HE.out]; simp [bC, byte_nat HA.out.1, HA.out.2])
      rw [HE.out] at this ⊢
      exact this⟩
  · as_aux_lemma =>
    have HE := Lib.hid e
    have hb : n < 2048 := by omega
    have e0 : wrap64 (192 + wrap64 ((n : Int).tdiv 64)) % 256 = ((UInt8.ofNat (192 + n / 64)).toNat : Int) := by rw [byte_nat (by omega), t64, wrN (by omega)]; exact wrA (b := 192) (m := n / 64) (by omega)
    have e1 : wrap64 (128 + (n : Int).tmod 64) % 256 = ((UInt8.ofNat (128 + n % 64)).toNat : Int) := by rw [byte_nat (by omega), m64]; exact wrA (b := 128) (m := n % 64) (by omega)
    have HX := Lib.hid (show ([.int .u8 (wrap64 (192 + wrap64 ((n : Int).tdiv 64)) % 256), .int .u8 (wrap64 (128 + (n : Int).tmod 64) % 256)] : List Value) = bC (encL n) by rw [e]; simp only [e0, e1]; rfl)
    obtain ⟨A, hA⟩ : ∃ A : Int, (n : Int) = A := ⟨_, rfl⟩
    have q128 : decide (A < 128) = false := decide_eq_false (by omega)
    have q2048 : decide (A < 2048) = true := decide_eq_true (by omega)
    rw [hA] at HX ⊢
    clear e h hl h1 h2 hA hb e0 e1
    go_enter Tryz.func112, Tryz.ntmps112
    go_wp2
    go_ret
    exact ⟨_, rfl, by
      have := rrow_new w (encL n) #[.int .u8 (wrap64 (192 + wrap64 (A.tdiv 64)) % 256), .int .u8 (wrap64 (128 + A.tmod 64) % 256)] HX.out
      rw [HE.out] at this ⊢
      exact this⟩
  · as_aux_lemma =>
    have HE := Lib.hid e
    have hb : n < 65536 := by omega
    have e0 : wrap64 (224 + wrap64 ((n : Int).tdiv 4096)) % 256 = ((UInt8.ofNat (224 + n / 4096)).toNat : Int) := by rw [byte_nat (by omega), t4096, wrN (by omega)]; exact wrA (b := 224) (m := n / 4096) (by omega)
    have e1 : wrap64 (128 + (wrap64 ((n : Int).tdiv 64)).tmod 64) % 256 = ((UInt8.ofNat (128 + n / 64 % 64)).toNat : Int) := by rw [byte_nat (by omega), t64, wrN (by omega), m64]; exact wrA (b := 128) (m := n / 64 % 64) (by omega)
    have e2 : wrap64 (128 + (n : Int).tmod 64) % 256 = ((UInt8.ofNat (128 + n % 64)).toNat : Int) := by rw [byte_nat (by omega), m64]; exact wrA (b := 128) (m := n % 64) (by omega)
    have HX := Lib.hid (show ([.int .u8 (wrap64 (224 + wrap64 ((n : Int).tdiv 4096)) % 256), .int .u8 (wrap64 (128 + (wrap64 ((n : Int).tdiv 64)).tmod 64) % 256), .int .u8 (wrap64 (128 + (n : Int).tmod 64) % 256)] : List Value) = bC (encL n) by rw [e]; simp only [e0, e1, e2]; rfl)
    obtain ⟨A, hA⟩ : ∃ A : Int, (n : Int) = A := ⟨_, rfl⟩
    have q128 : decide (A < 128) = false := decide_eq_false (by omega)
    have q2048 : decide (A < 2048) = false := decide_eq_false (by omega)
    have q65536 : decide (A < 65536) = true := decide_eq_true (by omega)
    rw [hA] at HX ⊢
    clear e h hl h1 h2 hA hb e0 e1 e2
    go_enter Tryz.func112, Tryz.ntmps112
    go_wp2
    go_ret
    exact ⟨_, rfl, by
      have := rrow_new w (encL n) #[.int .u8 (wrap64 (224 + wrap64 (A.tdiv 4096)) % 256), .int .u8 (wrap64 (128 + (wrap64 (A.tdiv 64)).tmod 64) % 256), .int .u8 (wrap64 (128 + A.tmod 64) % 256)] HX.out
      rw [HE.out] at this ⊢
      exact this⟩
  · as_aux_lemma =>
    have HE := Lib.hid e
    have hb : n ≤ 1114111 := by omega
    have e0 : wrap64 (240 + wrap64 ((n : Int).tdiv 262144)) % 256 = ((UInt8.ofNat (240 + n / 262144)).toNat : Int) := by rw [byte_nat (by omega), t262144, wrN (by omega)]; exact wrA (b := 240) (m := n / 262144) (by omega)
    have e1 : wrap64 (128 + (wrap64 ((n : Int).tdiv 4096)).tmod 64) % 256 = ((UInt8.ofNat (128 + n / 4096 % 64)).toNat : Int) := by rw [byte_nat (by omega), t4096, wrN (by omega), m64]; exact wrA (b := 128) (m := n / 4096 % 64) (by omega)
    have e2 : wrap64 (128 + (wrap64 ((n : Int).tdiv 64)).tmod 64) % 256 = ((UInt8.ofNat (128 + n / 64 % 64)).toNat : Int) := by rw [byte_nat (by omega), t64, wrN (by omega), m64]; exact wrA (b := 128) (m := n / 64 % 64) (by omega)
    have e3 : wrap64 (128 + (n : Int).tmod 64) % 256 = ((UInt8.ofNat (128 + n % 64)).toNat : Int) := by rw [byte_nat (by omega), m64]; exact wrA (b := 128) (m := n % 64) (by omega)
    have HX := Lib.hid (show ([.int .u8 (wrap64 (240 + wrap64 ((n : Int).tdiv 262144)) % 256), .int .u8 (wrap64 (128 + (wrap64 ((n : Int).tdiv 4096)).tmod 64) % 256), .int .u8 (wrap64 (128 + (wrap64 ((n : Int).tdiv 64)).tmod 64) % 256), .int .u8 (wrap64 (128 + (n : Int).tmod 64) % 256)] : List Value) = bC (encL n) by rw [e]; simp only [e0, e1, e2, e3]; rfl)
    obtain ⟨A, hA⟩ : ∃ A : Int, (n : Int) = A := ⟨_, rfl⟩
    have q128 : decide (A < 128) = false := decide_eq_false (by omega)
    have q2048 : decide (A < 2048) = false := decide_eq_false (by omega)
    have q65536 : decide (A < 65536) = false := decide_eq_false (by omega)
    rw [hA] at HX ⊢
    clear e h hl h1 hA hb e0 e1 e2 e3
    go_enter Tryz.func112, Tryz.ntmps112
    go_wp2
    go_ret
    exact ⟨_, rfl, by
      have := rrow_new w (encL n) #[.int .u8 (wrap64 (240 + wrap64 (A.tdiv 262144)) % 256), .int .u8 (wrap64 (128 + (wrap64 (A.tdiv 4096)).tmod 64) % 256), .int .u8 (wrap64 (128 + (wrap64 (A.tdiv 64)).tmod 64) % 256), .int .u8 (wrap64 (128 + A.tmod 64) % 256)] HX.out
      rw [HE.out] at this ⊢
      exact this⟩
end Go.Proofs.YtanncakdlflopaaGreatDoor

namespace Go.Proofs.YtanncakdlflopaaGreatDoor
open Go.RowKit
set_option linter.unusedVariables false
set_option linter.unusedSimpArgs false
set_option maxRecDepth 100000

/-- What named answers. -/
def RNamed (s : ByteArray) (w : World) (e : Ending) (w' : World) : Prop :=
  (∃ l v, meanL s.data.toList = some l ∧ e = .returned (.tuple #[v, .bool true]) ∧ RRow l w v w') ∨ (meanL s.data.toList = none ∧ e = .returned (.tuple #[.slice none 0 0, .bool false]) ∧ Below w.heap.size w w')
theorem rrow_mark (w : World) (c : UInt8) (z : Nat × Nat) : RRow [c] w (.slice (some ⟨w.heap.size, 0, none⟩) 1 1) (w.alloc (.cells #[.int .u8 c.toNat] 5 z)) := by
  refine ⟨_, rfl, fun j u hj => ?_, (Below.refl _ w).alloc (Nat.le_refl _) _⟩
  rw [add_none, Nat.zero_add]
  simp only [World.cell?, World.alloc]
  simpa [bC] using hj
theorem rn16 (s : ByteArray) (w : World) (hs : s.size ≤ 1099511627776) : Calls Tryz.prog 111 #[.string s, .int .i64 16] w fun e w' => RNum 16 s e ∧ w' = w := rnum16 s w hs

set_option maxHeartbeats 16000000 in
theorem rnamed_any (s : ByteArray) (w : World) (hs : s.size ≤ 1099511627776) :
    Calls Tryz.prog 93 #[.string s] w fun e w' => RNamed s w e w' := by
  by_cases h1 : s.data.toList = [108, 116]
  · obtain rfl : s = ⟨#[108, 116]⟩ := ba_eq h1
    as_aux_lemma =>
    have hcv := fun (w : World) (C : Array Value) (n c : Nat) => Lib.run_convert_bytes_const (P := Tryz.prog) w 62 5 C n c Tryz.underlying62 Tryz.underlying5
    have HR := Lib.hid (rrow_mark w 60 (1, 2))
    go_enter Tryz.func93, Tryz.ntmps93
    go_wp2
    go_ret2
    exact .inl ⟨[60], _, by decide, rfl, HR.out⟩
  by_cases h2 : s.data.toList = [103, 116]
  · obtain rfl : s = ⟨#[103, 116]⟩ := ba_eq h2
    as_aux_lemma =>
    have hcv := fun (w : World) (C : Array Value) (n c : Nat) => Lib.run_convert_bytes_const (P := Tryz.prog) w 62 5 C n c Tryz.underlying62 Tryz.underlying5
    have HR := Lib.hid (rrow_mark w 62 (1, 2))
    go_enter Tryz.func93, Tryz.ntmps93
    go_wp2
    go_ret2
    exact .inl ⟨[62], _, by decide, rfl, HR.out⟩
  by_cases h3 : s.data.toList = [97, 109, 112]
  · obtain rfl : s = ⟨#[97, 109, 112]⟩ := ba_eq h3
    as_aux_lemma =>
    have hcv := fun (w : World) (C : Array Value) (n c : Nat) => Lib.run_convert_bytes_const (P := Tryz.prog) w 62 5 C n c Tryz.underlying62 Tryz.underlying5
    have HR := Lib.hid (rrow_mark w 38 (1, 2))
    go_enter Tryz.func93, Tryz.ntmps93
    go_wp2
    go_ret2
    exact .inl ⟨[38], _, by decide, rfl, HR.out⟩
  by_cases h4 : s.data.toList = [113, 117, 111, 116]
  · obtain rfl : s = ⟨#[113, 117, 111, 116]⟩ := ba_eq h4
    as_aux_lemma =>
    have hcv := fun (w : World) (C : Array Value) (n c : Nat) => Lib.run_convert_bytes_const (P := Tryz.prog) w 62 5 C n c Tryz.underlying62 Tryz.underlying5
    have HR := Lib.hid (rrow_mark w 34 (1, 2))
    go_enter Tryz.func93, Tryz.ntmps93
    go_wp2
    go_ret2
    exact .inl ⟨[34], _, by decide, rfl, HR.out⟩
  by_cases h5 : s.data.toList = [97, 112, 111, 115]
  · obtain rfl : s = ⟨#[97, 112, 111, 115]⟩ := ba_eq h5
    as_aux_lemma =>
    have hcv := fun (w : World) (C : Array Value) (n c : Nat) => Lib.run_convert_bytes_const (P := Tryz.prog) w 62 5 C n c Tryz.underlying62 Tryz.underlying5
    have HR := Lib.hid (rrow_mark w 39 (1, 2))
    go_enter Tryz.func93, Tryz.ntmps93
    go_wp2
    go_ret2
    exact .inl ⟨[39], _, by decide, rfl, HR.out⟩
  have q1 := eq_false_of h1
  have q2 := eq_false_of h2
  have q3 := eq_false_of h3
  have q4 := eq_false_of h4
  have q5 := eq_false_of h5
  have hbase : meanL s.data.toList = if s.data.toList.head? = some 35 then (if s.data.toList[1]? = some 120 then numL 16 (s.data.toList.drop 2) else numL 10 (s.data.toList.drop 1)) else none := by
    unfold meanL
    rw [if_neg h1, if_neg h2, if_neg h3, if_neg h4, if_neg h5]
  have hhd : s.data.toList.head? = s.data.toList[0]? := by rw [List.head?_eq_getElem?]
  rw [hhd] at hbase
  clear h1 h2 h3 h4 h5 hhd
  by_cases hz : s.size = 0
  · have hM : meanL s.data.toList = none := by
      rw [hbase, List.getElem?_eq_none (by rw [size_list]; omega)]; rfl
    have d1 : decide ((s.size : Int) > 1) = false := decide_eq_false (by omega)
    have d0 : decide ((s.size : Int) > 0) = false := decide_eq_false (by omega)
    have hz' : ¬ 0 < s.size := by omega
    clear hbase hz
    as_aux_lemma =>
    have HN := Lib.hid hM
    clear hM
    go_enter Tryz.func93, Tryz.ntmps93
    go_wp2_with fail
    go_ret2
    exact .inr ⟨HN.out, rfl, Below.refl _ _⟩
  · have HA0 := Lib.hid (at_byte3 (s := s) (k := 0) (by omega))
    have d0 : decide ((s.size : Int) > 0) = true := decide_eq_true (by omega)
    generalize s[0] = a at *
    by_cases ha : a = 35
    · subst ha
      by_cases hz1 : s.size = 1
      · have hM : meanL s.data.toList = numL 10 (s.data.toList.drop 1) := by
          rw [hbase, HA0.out, if_pos rfl, List.getElem?_eq_none (by rw [size_list]; omega), if_neg (by simp)]
        have d1 : decide ((s.size : Int) > 1) = false := decide_eq_false (by omega)
        clear hbase
        have hD : (s.extract 1 s.size).data.toList = s.data.toList.drop 1 := by
          rw [Lib.extract_data]
          exact List.take_of_length_le (by simp)
        obtain ⟨D, hDe⟩ : ∃ D, s.extract 1 s.size = D := ⟨_, rfl⟩
        rw [hDe] at hD
        rw [← hD] at hM
        have hds : D.size ≤ s.size := by rw [← size_list, hD, List.length_drop, size_list]; omega
        have HDe := Lib.hid hDe
        have HNu := Lib.hid (fun W => rnum10 D W (by omega))
        have HM := Lib.hid hM
        clear hD hDe hM
        as_aux_lemma =>
        go_enter Tryz.func93, Tryz.ntmps93
        go_wp2_with (first | ((with_reducible refine iat 32 ?_); (refine six rfl rfl (i := 0) rfl HA0.out ?_)) | ((with_reducible refine iat 51 ?_); (refine six rfl rfl (i := 0) rfl HA0.out ?_)) | ((with_reducible refine iat 56 ?_); (refine sslf rfl rfl (i := 1) rfl (by omega) ?_; rw [HDe.out])))
        refine (HNu.out _).mono ?_
        rintro e w2 ⟨⟨n, hch, hv, rfl⟩ | ⟨hv, x, rfl⟩, rfl⟩
        · have HV := Lib.hid (HM.out.trans hv)
          have HBy := Lib.hid (fun W => rbytes_any n hch W)
          clear hv hch
          go_wp2_with fail
          refine (HBy.out _).mono ?_
          rintro e w3 ⟨v, rfl, hr⟩
          have HR := Lib.hid hr
          obtain ⟨g, rfl, -⟩ := hr
          go_wp2_with fail
          go_ret2
          exact .inl ⟨_, _, HV.out, rfl, HR.out⟩
        · have HV := Lib.hid (HM.out.trans hv)
          clear hv
          go_wp2_with fail
          go_ret2
          exact .inr ⟨HV.out, rfl, Below.refl _ _⟩
      · have HA1 := Lib.hid (at_byte3 (s := s) (k := 1) (by omega))
        have d1 : decide ((s.size : Int) > 1) = true := decide_eq_true (by omega)
        generalize s[1] = b at *
        by_cases hb : b = 120
        · subst hb
          have hM : meanL s.data.toList = numL 16 (s.data.toList.drop 2) := by
            rw [hbase, HA0.out, if_pos rfl, HA1.out, if_pos rfl]
          clear hbase
          have hD : (s.extract 2 s.size).data.toList = s.data.toList.drop 2 := by
            rw [Lib.extract_data]
            exact List.take_of_length_le (by simp)
          obtain ⟨D, hDe⟩ : ∃ D, s.extract 2 s.size = D := ⟨_, rfl⟩
          rw [hDe] at hD
          rw [← hD] at hM
          have hds : D.size ≤ s.size := by rw [← size_list, hD, List.length_drop, size_list]; omega
          have HDe := Lib.hid hDe
          have HNu := Lib.hid (fun W => rnum16 D W (by omega))
          have HM := Lib.hid hM
          clear hD hDe hM
          as_aux_lemma =>
          go_enter Tryz.func93, Tryz.ntmps93
          go_wp2_with (first | ((with_reducible refine iat 32 ?_); (refine six rfl rfl (i := 0) rfl HA0.out ?_)) | ((with_reducible refine iat 37 ?_); (refine six rfl rfl (i := 1) rfl HA1.out ?_)) | ((with_reducible refine iat 42 ?_); (refine sslf rfl rfl (i := 2) rfl (by omega) ?_; rw [HDe.out])))
          refine (HNu.out _).mono ?_
          rintro e w2 ⟨⟨n, hch, hv, rfl⟩ | ⟨hv, x, rfl⟩, rfl⟩
          · have HV := Lib.hid (HM.out.trans hv)
            have HBy := Lib.hid (fun W => rbytes_any n hch W)
            clear hv hch
            go_wp2_with fail
            refine (HBy.out _).mono ?_
            rintro e w3 ⟨v, rfl, hr⟩
            have HR := Lib.hid hr
            obtain ⟨g, rfl, -⟩ := hr
            go_wp2_with fail
            go_ret2
            exact .inl ⟨_, _, HV.out, rfl, HR.out⟩
          · have HV := Lib.hid (HM.out.trans hv)
            clear hv
            go_wp2_with fail
            go_ret2
            exact .inr ⟨HV.out, rfl, Below.refl _ _⟩
        · have hM : meanL s.data.toList = numL 10 (s.data.toList.drop 1) := by
            rw [hbase, HA0.out, if_pos rfl, HA1.out, if_neg (by simpa using hb)]
          have qb : ((b.toNat : Int) == 120) = false := ne13 hb
          clear hbase hb
          have hD : (s.extract 1 s.size).data.toList = s.data.toList.drop 1 := by
            rw [Lib.extract_data]
            exact List.take_of_length_le (by simp)
          obtain ⟨D, hDe⟩ : ∃ D, s.extract 1 s.size = D := ⟨_, rfl⟩
          rw [hDe] at hD
          rw [← hD] at hM
          have hds : D.size ≤ s.size := by rw [← size_list, hD, List.length_drop, size_list]; omega
          have HDe := Lib.hid hDe
          have HNu := Lib.hid (fun W => rnum10 D W (by omega))
          have HM := Lib.hid hM
          clear hD hDe hM
          as_aux_lemma =>
          go_enter Tryz.func93, Tryz.ntmps93
          go_wp2_with (first | ((with_reducible refine iat 32 ?_); (refine six rfl rfl (i := 0) rfl HA0.out ?_)) | ((with_reducible refine iat 37 ?_); (refine six rfl rfl (i := 1) rfl HA1.out ?_)) | ((with_reducible refine iat 51 ?_); (refine six rfl rfl (i := 0) rfl HA0.out ?_)) | ((with_reducible refine iat 56 ?_); (refine sslf rfl rfl (i := 1) rfl (by omega) ?_; rw [HDe.out])))
          refine (HNu.out _).mono ?_
          rintro e w2 ⟨⟨n, hch, hv, rfl⟩ | ⟨hv, x, rfl⟩, rfl⟩
          · have HV := Lib.hid (HM.out.trans hv)
            have HBy := Lib.hid (fun W => rbytes_any n hch W)
            clear hv hch
            go_wp2_with fail
            refine (HBy.out _).mono ?_
            rintro e w3 ⟨v, rfl, hr⟩
            have HR := Lib.hid hr
            obtain ⟨g, rfl, -⟩ := hr
            go_wp2_with fail
            go_ret2
            exact .inl ⟨_, _, HV.out, rfl, HR.out⟩
          · have HV := Lib.hid (HM.out.trans hv)
            clear hv
            go_wp2_with fail
            go_ret2
            exact .inr ⟨HV.out, rfl, Below.refl _ _⟩
    · have hM : meanL s.data.toList = none := by
        rw [hbase, HA0.out, if_neg (by simpa using ha)]
      have qa : ((a.toNat : Int) == 35) = false := ne13 ha
      clear hbase ha
      by_cases hz1 : s.size = 1
      · have d1 : decide ((s.size : Int) > 1) = false := decide_eq_false (by omega)
        as_aux_lemma =>
        have HN := Lib.hid hM
        clear hM
        go_enter Tryz.func93, Tryz.ntmps93
        go_wp2_with (first | ((with_reducible refine iat 32 ?_); (refine six rfl rfl (i := 0) rfl HA0.out ?_)) | ((with_reducible refine iat 51 ?_); (refine six rfl rfl (i := 0) rfl HA0.out ?_)))
        go_ret2
        exact .inr ⟨HN.out, rfl, Below.refl _ _⟩
      · have d1 : decide ((s.size : Int) > 1) = true := decide_eq_true (by omega)
        as_aux_lemma =>
        have HN := Lib.hid hM
        clear hM
        go_enter Tryz.func93, Tryz.ntmps93
        go_wp2_with (first | ((with_reducible refine iat 32 ?_); (refine six rfl rfl (i := 0) rfl HA0.out ?_)) | ((with_reducible refine iat 51 ?_); (refine six rfl rfl (i := 0) rfl HA0.out ?_)))
        go_ret2
        exact .inr ⟨HN.out, rfl, Below.refl _ _⟩
end Go.Proofs.YtanncakdlflopaaGreatDoor

namespace Go.Proofs.YtanncakdlflopaaGreatDoor
open Go.RowKit
set_option linter.unusedVariables false
set_option linter.unusedSimpArgs false
set_option maxRecDepth 100000

theorem bC_one (l : List UInt8) : ∀ u ∈ bC l, u.oneCell' = true := by
  intro u hu
  obtain ⟨b, _, rfl⟩ := List.mem_map.1 hu
  rfl
theorem scan_amp {pre t : List UInt8} (h : ∀ x ∈ pre, x ≠ 59 ∧ x ≠ 38) : unes (38 :: (pre ++ 38 :: t)) = none := by
  cases hc : cutL 59 (pre ++ 38 :: t) with
  | none => exact unes_open hc
  | some p =>
    obtain ⟨m, t'⟩ := p
    rw [unes_amp hc]
    cases hv : meanL m with
    | none => rfl
    | some v =>
      exfalso
      obtain ⟨e, h59⟩ := cutL_some hc
      have hm := (mean_has hv).2.2
      rcases List.append_eq_append_iff.1 e with ⟨a, h1, h2⟩ | ⟨c, h1, h2⟩
      · cases a with
        | nil => simp at h2
        | cons x a =>
          have : x = 38 := by simpa using (List.cons.inj h2).1.symm
          subst this
          exact hm (by rw [h1]; simp)
      · cases c with
        | nil => simp at h2
        | cons x c =>
          have : x = 59 := by simpa using (List.cons.inj h2).1.symm
          subst this
          exact (h 59 (by rw [h1]; simp)).1 rfl
theorem scan_no {pre : List UInt8} (h : ∀ x ∈ pre, x ≠ 59 ∧ x ≠ 38) : cutL 59 pre = none := cutL_not fun hm => (h 59 hm).1 rfl
theorem scan_semi {pre t : List UInt8} (h : ∀ x ∈ pre, x ≠ 59 ∧ x ≠ 38) : cutL 59 (pre ++ 59 :: t) = some (pre, t) := cutL_of fun hm => (h 59 hm).1 rfl

set_option maxHeartbeats 16000000 in
theorem runescape_any (s : ByteArray) (at_ : Bool) (w : World) (hs : s.size ≤ 1073741824) :
    Calls Tryz.prog 58 #[.string s, .bool at_] w fun e w' => e = .returned (unescV at_ s) ∧ Below w.heap.size w w' := by
  have HC := Lib.hid (rValid_any s w (by omega))
  cases hc : chars s.data.toList with
  | none =>
    have HT := Lib.hid (text_of_none hc)
    have HV := Lib.hid (unescV_no (at_ := at_) hc)
    clear hc
    go_enter Tryz.func58, Tryz.ntmps58
    go_wp2_with fail
    refine HC.out.mono ?_
    rintro e w1 ⟨rfl, hb⟩
    rw [HT.out]
    go_wp2_with fail
    go_ret2
    exact ⟨(congrArg Ending.returned HV.out).symm, hb⟩
  | some cs =>
    have HT := Lib.hid (text_of_some hc)
    have HBad := Lib.hid (unescV_bad (at_ := at_) hc)
    have HOk := Lib.hid (fun r => unescV_ok (at_ := at_) (r := r) hc)
    obtain ⟨P, hP⟩ : ∃ P : ByteArray, (⟨(plainL at_ s.data.toList).toArray⟩ : ByteArray) = P := ⟨_, rfl⟩
    have hPl : P.data.toList = plainL at_ s.data.toList := by rw [← hP]
    have hps : P.size ≤ 1073741824 := by have h1 := plainL_len at_ s.data.toList; rw [← hPl, size_list, size_list] at h1; omega
    have HPn := Lib.hid (fun W => by have := rplain_any s at_ W (by omega); rw [hP] at this; exact this)
    rw [← hPl] at HBad HOk
    clear hc hP hPl hs
    go_enter Tryz.func58, Tryz.ntmps58
    go_wp2_with fail
    refine HC.out.mono ?_
    rintro e w0 ⟨rfl, hb⟩
    rw [HT.out]
    have HB0 := Lib.hid hb
    clear hb HC HT
    go_wp2_with fail
    refine (HPn.out _).mono ?_
    rintro e w1 ⟨rfl, hb⟩
    have HB1 := Lib.hid (HB0.out.trans (hb.mono HB0.out.size))
    have HM := Lib.hid ((Mem.start w1).row0 5 1)
    clear hb HB0 HPn
    go_wp2_with fail
    go_loopw [6, 7, 8] (fun ov iv _ wr => ∃ (k : Nat) (o : List UInt8) (p : Option Addr) (cap : Nat), ov = .slice p o.length cap ∧ iv = .int .i64 k ∧ k ≤ P.size ∧ o.length ≤ k ∧ Hid (unes P.data.toList = (unes (P.data.toList.drop k)).map (o ++ ·)) ∧ Hid (Mem w1 wr [.row p cap 5 1 o.length (bC o)])) (fun _ iv _ _ => P.size - (intOf iv).toNat)
    case atStart => exact ⟨0, [], none, 0, rfl, rfl, by omega, by simp, Lib.hid (by simp), HM⟩
    case round =>
      clear HM
      obtain ⟨k, o, p, cap, rfl, rfl, hk, hol, HU, HM⟩ := hrel
      by_cases hlt : k < P.size
      · have HAt := Lib.hid (at_byte3 hlt)
        have hdr : P.data.toList.drop k = P[k] :: P.data.toList.drop (k + 1) := by rw [List.drop_eq_getElem_cons (by simpa using hlt)]; rfl
        have hU := HU.out
        rw [hdr] at hU
        clear hdr HU
        generalize P[k] = c at *
        by_cases h60 : c = 60
        · subst h60
          as_aux_lemma =>
          have HV := Lib.hid (HBad.out (by rw [hU, unes_lt]; rfl))
          clear hU
          go_wp2_with (first | ((with_reducible refine iat 25 ?_); (refine six rfl rfl rfl HAt.out ?_)))
          go_ret2
          exact ⟨congrArg Ending.returned HV.out.symm, HB1.out.trans (HM.out.below.mono HB1.out.size)⟩
        · have q60 : ((c.toNat : Int) == 60) = false := ne13 h60
          by_cases h38 : c = 38
          · subst h38
            go_wp2_with (first | ((with_reducible refine iat 25 ?_); (refine six rfl rfl rfl HAt.out ?_)) | ((with_reducible refine iat 29 ?_); (refine six rfl rfl rfl HAt.out ?_)))
            go_loopw [8] (fun jv wr => ∃ (j : Nat) (pre : List UInt8), jv = .int .i64 j ∧ k + 1 ≤ j ∧ j ≤ P.size ∧ pre.length + (k + 1) = j ∧ Hid (P.data.toList.drop (k + 1) = pre ++ P.data.toList.drop j ∧ ∀ x ∈ pre, x ≠ 59 ∧ x ≠ 38) ∧ Hid (Mem w1 wr [.row p cap 5 1 o.length (bC o)])) (fun jv _ => P.size - (intOf jv).toNat)
            case atStart => exact ⟨k + 1, [], by go_num, by omega, by omega, by simp, Lib.hid ⟨by simp, by simp⟩, HM⟩
            case round =>
              clear HM
              obtain ⟨j, pre, rfl, hj1, hj2, hpl, HJ, HM⟩ := hrel
              obtain ⟨hdrop, hpre⟩ := HJ.out
              clear HJ
              by_cases hjl : j < P.size
              · have HAj := Lib.hid (at_byte3 hjl)
                have hdj : P.data.toList.drop j = P[j] :: P.data.toList.drop (j + 1) := by rw [List.drop_eq_getElem_cons (by simpa using hjl)]; rfl
                rw [hdj] at hdrop
                clear hdj
                generalize P[j] = x at *
                have g1 : decide ((j : Int) ≥ (P.size : Int)) = false := decide_eq_false (by omega)
                by_cases hx59 : x = 59
                · subst hx59
                  have hexl : (P.extract (k + 1) j).data.toList = pre := by
                    rw [Lib.extract_data, hdrop, show j - (k + 1) = pre.length by omega, List.take_left']
                    rfl
                  obtain ⟨R, hR⟩ : ∃ R, P.extract (k + 1) j = R := ⟨_, rfl⟩
                  rw [hR] at hexl
                  have hrs : R.size ≤ P.size := by rw [← size_list, hexl]; omega
                  have HR := Lib.hid hR
                  have HNm := Lib.hid (fun W => rnamed_any R W (by omega))
                  have hU2 := hU
                  rw [hdrop, unes_amp (scan_semi hpre)] at hU2
                  clear hU hdrop hR
                  as_aux_lemma =>
                  go_wp2_with (first | ((with_reducible refine iat 46 ?_); (refine six rfl rfl rfl HAj.out ?_)) | ((with_reducible refine iat 64 ?_); (refine six rfl rfl rfl HAj.out ?_)) | ((with_reducible refine iat 72 ?_); (refine ssls rfl rfl (i := k + 1) (by go_num) rfl (j := j) rfl hj1 hj2 ?_; rw [HR.out])))
                  refine (HNm.out _).mono ?_
                  rintro e w2 (⟨l, v, hm, rfl, hr⟩ | ⟨hm, rfl, hb⟩)
                  · rw [hexl] at hm
                    rw [hm] at hU2
                    have hll := (mean_has hm).1
                    have HN := Lib.hid (show unes P.data.toList = (unes (P.data.toList.drop (j + 1))).map ((o ++ l) ++ ·) by rw [hU2]; simp only [Option.map_map]; congr 1; funext z; simp)
                    obtain ⟨g, rfl, hcl, hb⟩ := hr
                    have HCl := Lib.hid hcl
                    have HM1 := Lib.hid (HM.out.next hb)
                    clear HM hb hcl hm hU2 hexl hpre HNm
                    have HM := HM1
                    clear HM1
                    go_wp2_with (first | ((with_reducible refine iat 80 ?_); (refine apr (news := bC l) rfl HM.out 0 rfl rfl rfl (by rw [bC_len]; omega) (by simp) (fun b hb => by cases hb; exact HCl.out) (bC_one l) (by unfold maxLen; omega) (by omega) ?_; intro p1 cap1 W2 HM1 hnil; clear hnil HM; (try clear W1); rename World => W1; have HM := Lib.hid HM1; clear HM1; simp only [List.set] at HM)))
                    go_roundw
                    case rel => exact ⟨j + 1, o ++ l, p1, cap1, by simp, by go_num, by omega, by simp; omega, HN, Lib.hid (by rw [List.length_append, bC_append]; exact HM.out)⟩
                    case measure => simp [intOf]; omega
                  · rw [hexl] at hm
                    rw [hm] at hU2
                    have HV := Lib.hid (HBad.out (by rw [hU2]; rfl))
                    have HM1 := Lib.hid (HM.out.next hb)
                    clear HM hb hm hU2 hexl hpre HNm
                    go_wp2_with fail
                    go_ret2
                    exact ⟨congrArg Ending.returned HV.out.symm, HB1.out.trans (HM1.out.below.mono HB1.out.size)⟩
                · have qx : ((x.toNat : Int) != 59) = true := by rw [bne, show ((x.toNat : Int) == 59) = false from ne13 hx59]; rfl
                  by_cases hx38 : x = 38
                  · subst hx38
                    as_aux_lemma =>
                    have HV := Lib.hid (HBad.out (by rw [hU, hdrop, scan_amp hpre]; rfl))
                    clear hU hdrop hpre
                    go_wp2_with (first | ((with_reducible refine iat 46 ?_); (refine six rfl rfl rfl HAj.out ?_)) | ((with_reducible refine iat 52 ?_); (refine six rfl rfl rfl HAj.out ?_)) | ((with_reducible refine iat 64 ?_); (refine six rfl rfl rfl HAj.out ?_)))
                    go_ret2
                    exact ⟨congrArg Ending.returned HV.out.symm, HB1.out.trans (HM.out.below.mono HB1.out.size)⟩
                  · have qx2 : ((x.toNat : Int) != 38) = true := by rw [bne, show ((x.toNat : Int) == 38) = false from ne13 hx38]; rfl
                    as_aux_lemma =>
                    have HN := Lib.hid (show P.data.toList.drop (k + 1) = (pre ++ [x]) ++ P.data.toList.drop (j + 1) ∧ ∀ y ∈ pre ++ [x], y ≠ 59 ∧ y ≠ 38 from ⟨by rw [hdrop]; simp, fun y hy => by
                      rcases List.mem_append.1 hy with hy | hy
                      · exact hpre y hy
                      · simp at hy; subst hy; exact ⟨hx59, hx38⟩⟩)
                    clear hU hdrop hpre hx59 hx38
                    go_wp2_with (first | ((with_reducible refine iat 46 ?_); (refine six rfl rfl rfl HAj.out ?_)) | ((with_reducible refine iat 52 ?_); (refine six rfl rfl rfl HAj.out ?_)))
                    go_roundw
                    case rel => exact ⟨j + 1, pre ++ [x], by go_num, by omega, by omega, by simp; omega, HN, HM⟩
                    case measure => simp [intOf]; omega
              · have hend : P.data.toList.drop j = [] := List.drop_of_length_le (by rw [size_list]; omega)
                have g1 : decide ((j : Int) ≥ (P.size : Int)) = true := decide_eq_true (by omega)
                as_aux_lemma =>
                have HV := Lib.hid (HBad.out (by rw [hU, hdrop, hend, List.append_nil, unes_open (scan_no hpre)]; rfl))
                clear hU hdrop hpre hend
                go_wp2_with fail
                go_ret2
                exact ⟨congrArg Ending.returned HV.out.symm, HB1.out.trans (HM.out.below.mono HB1.out.size)⟩
          · have q38 : ((c.toNat : Int) != 38) = true := by rw [bne, show ((c.toNat : Int) == 38) = false from ne13 h38]; rfl
            as_aux_lemma =>
            have HN := Lib.hid (show unes P.data.toList = (unes (P.data.toList.drop (k + 1))).map ((o ++ [c]) ++ ·) by rw [hU, unes_other h60 h38, Option.map_map]; congr 1; funext z; simp)
            clear hU h60 h38
            go_wp2_with (first | ((with_reducible refine iat 25 ?_); (refine six rfl rfl rfl HAt.out ?_)) | ((with_reducible refine iat 29 ?_); (refine six rfl rfl rfl HAt.out ?_)) | ((with_reducible refine iat 34 ?_); (refine six rfl rfl rfl HAt.out ?_)) | ((with_reducible refine skip_op ?_ ?_); exact rfl) | (refine mL ?_; clear HM; intro g1 W1 HM) | ((with_reducible refine iat 36 ?_); (refine apb rfl HM.out 1 0 rfl rfl rfl rfl rfl rfl (by omega) (by omega) (by omega) ?_; intro p1 cap1 W1 HM1; replace HM := Lib.hid HM1; clear HM1; simp only [List.set] at HM)))
            go_roundw
            case rel => exact ⟨k + 1, o ++ [c], p1, cap1, by simp, by go_num, by omega, by simp; omega, HN, Lib.hid (put_row HM.out c rfl)⟩
            case measure => simp [intOf]; omega
      · have HV := Lib.hid (HOk.out o (by rw [HU.out, List.drop_of_length_le (by rw [size_list]; omega), unes_nil]; simp))
        clear HU
        as_aux_lemma =>
        go_wp2_with (first | ((with_reducible refine iat 83 ?_); (refine cvr (l := o) (by kernel_rfl) (by kernel_rfl) (by kernel_rfl) rfl rfl (HM.out.get (k := 0) rfl) ?_)))
        go_ret2
        exact ⟨congrArg Ending.returned HV.out.symm, HB1.out.trans (HM.out.below.mono HB1.out.size)⟩
end Go.Proofs.YtanncakdlflopaaGreatDoor
