/- The reference's Bytes and named. (short) -/
import Derived.Test.YtfnodoepeiknhaaGreatDoorEscRefB
namespace Go.Proofs.YtfnodoepeiknhaaGreatDoor
open Go.RowKit
set_option linter.unusedVariables false
set_option linter.unusedSimpArgs false
set_option maxRecDepth 100000

/-- A row of new bytes. -/
def RRow (l : List UInt8) (w : World) (v : Value) (w' : World) : Prop := ∃ g, v = .slice (some ⟨g, 0, none⟩) l.length l.length ∧ Cells w' ⟨g, 0, none⟩ (bC l) ∧ Below w.heap.size w w'
theorem rrow_new (w : World) (l : List UInt8) (cs : Array Value) (h : cs.toList = bC l) : RRow l w (.slice (some ⟨w.heap.size, 0, none⟩) l.length l.length) (w.alloc (.cells cs 5)) := by
  refine ⟨_, rfl, fun j u hj => ?_, (Below.refl _ w).alloc (Nat.le_refl _) _⟩
  rw [add_none, Nat.zero_add]
  rw [← h] at hj
  simp only [World.cell?, World.alloc]
  simpa using hj

theorem t64 (n : Nat) : (n : Int).tdiv 64 = ((n / 64 : Nat) : Int) := rfl
theorem t4096 (n : Nat) : (n : Int).tdiv 4096 = ((n / 4096 : Nat) : Int) := rfl
theorem t262144 (n : Nat) : (n : Int).tdiv 262144 = ((n / 262144 : Nat) : Int) := rfl
theorem m64 (n : Nat) : (n : Int).tmod 64 = ((n % 64 : Nat) : Int) := rfl
theorem wrN {m : Nat} (h : m < 4294967296) : wrap64 (m : Int) = m := by unfold wrap64; omega
theorem wrA {b m : Nat} (h : b + m < 256) : wrap64 ((b : Int) + (m : Int)) % 256 = ((b + m : Nat) : Int) := by unfold wrap64; omega

set_option maxHeartbeats 4000000 in
theorem rbytes_any (n : Nat) (h : charB n = true) (w : World) :
    Calls Tryz.prog 59 #[.int .i64 n] w fun e w' => ∃ v, e = .returned v ∧ RRow (encL n) w v w' := by
  have hl := charB_lt h
  rcases encL_cases n hl with ⟨h1, e⟩ | ⟨h1, h2, e⟩ | ⟨h1, h2, e⟩ | ⟨h1, e⟩
  · as_aux_lemma =>
    have HE := Lib.hid e
    obtain ⟨A, hA⟩ : ∃ A : Int, (n : Int) = A := ⟨_, rfl⟩
    have a0 : 0 ≤ A := by omega
    have a1 : A < 128 := by omega
    have HA := Lib.hid (show n < 256 ∧ A = n from ⟨by omega, hA.symm⟩)
    rw [hA]
    clear e h hl h1 hA
    go_enter Tryz.func59, Tryz.ntmps59
    go_wp2
    go_ret
    exact ⟨_, rfl, by
      have := rrow_new w (encL n) #[.int .u8 A] (by rw [HE.out]; simp [bC, byte_nat HA.out.1, HA.out.2])
      rw [HE.out] at this ⊢
      exact this⟩
  · as_aux_lemma =>
    have HE := Lib.hid e
    have hb : n < 2048 := by omega
    have e0 : wrap64 (192 + wrap64 ((n : Int).tdiv 64)) % 256 = ((UInt8.ofNat (192 + n / 64)).toNat : Int) := by rw [byte_nat (by omega), t64, wrN (by omega)]; exact wrA (b := 192) (m := n / 64) (by omega)
    have e1 : wrap64 (128 + (n : Int).tmod 64) % 256 = ((UInt8.ofNat (128 + n % 64)).toNat : Int) := by rw [byte_nat (by omega), m64]; exact wrA (b := 128) (m := n % 64) (by omega)
    have HX := Lib.hid (show ([.int .u8 (wrap64 (192 + wrap64 ((n : Int).tdiv 64)) % 256), .int .u8 (wrap64 (128 + (n : Int).tmod 64) % 256)] : List Value) = bC (encL n) by rw [e]; simp only [e0, e1]; rfl)
    obtain ⟨A, hA⟩ : ∃ A : Int, (n : Int) = A := ⟨_, rfl⟩
    have q128 : decide (A < 128) = false := decide_eq_false (by omega)
    have q2048 : decide (A < 2048) = true := decide_eq_true (by omega)
    rw [hA] at HX ⊢
    clear e h hl h1 h2 hA hb e0 e1
    go_enter Tryz.func59, Tryz.ntmps59
    go_wp2
    go_ret
    exact ⟨_, rfl, by
      have := rrow_new w (encL n) #[.int .u8 (wrap64 (192 + wrap64 (A.tdiv 64)) % 256), .int .u8 (wrap64 (128 + A.tmod 64) % 256)] HX.out
      rw [HE.out] at this ⊢
      exact this⟩
  · as_aux_lemma =>
    have HE := Lib.hid e
    have hb : n < 65536 := by omega
    have e0 : wrap64 (224 + wrap64 ((n : Int).tdiv 4096)) % 256 = ((UInt8.ofNat (224 + n / 4096)).toNat : Int) := by rw [byte_nat (by omega), t4096, wrN (by omega)]; exact wrA (b := 224) (m := n / 4096) (by omega)
    have e1 : wrap64 (128 + (wrap64 ((n : Int).tdiv 64)).tmod 64) % 256 = ((UInt8.ofNat (128 + n / 64 % 64)).toNat : Int) := by rw [byte_nat (by omega), t64, wrN (by omega), m64]; exact wrA (b := 128) (m := n / 64 % 64) (by omega)
    have e2 : wrap64 (128 + (n : Int).tmod 64) % 256 = ((UInt8.ofNat (128 + n % 64)).toNat : Int) := by rw [byte_nat (by omega), m64]; exact wrA (b := 128) (m := n % 64) (by omega)
    have HX := Lib.hid (show ([.int .u8 (wrap64 (224 + wrap64 ((n : Int).tdiv 4096)) % 256), .int .u8 (wrap64 (128 + (wrap64 ((n : Int).tdiv 64)).tmod 64) % 256), .int .u8 (wrap64 (128 + (n : Int).tmod 64) % 256)] : List Value) = bC (encL n) by rw [e]; simp only [e0, e1, e2]; rfl)
    obtain ⟨A, hA⟩ : ∃ A : Int, (n : Int) = A := ⟨_, rfl⟩
    have q128 : decide (A < 128) = false := decide_eq_false (by omega)
    have q2048 : decide (A < 2048) = false := decide_eq_false (by omega)
    have q65536 : decide (A < 65536) = true := decide_eq_true (by omega)
    rw [hA] at HX ⊢
    clear e h hl h1 h2 hA hb e0 e1 e2
    go_enter Tryz.func59, Tryz.ntmps59
    go_wp2
    go_ret
    exact ⟨_, rfl, by
      have := rrow_new w (encL n) #[.int .u8 (wrap64 (224 + wrap64 (A.tdiv 4096)) % 256), .int .u8 (wrap64 (128 + (wrap64 (A.tdiv 64)).tmod 64) % 256), .int .u8 (wrap64 (128 + A.tmod 64) % 256)] HX.out
      rw [HE.out] at this ⊢
      exact this⟩
  · as_aux_lemma =>
    have HE := Lib.hid e
    have hb : n ≤ 1114111 := by omega
    have e0 : wrap64 (240 + wrap64 ((n : Int).tdiv 262144)) % 256 = ((UInt8.ofNat (240 + n / 262144)).toNat : Int) := by rw [byte_nat (by omega), t262144, wrN (by omega)]; exact wrA (b := 240) (m := n / 262144) (by omega)
    have e1 : wrap64 (128 + (wrap64 ((n : Int).tdiv 4096)).tmod 64) % 256 = ((UInt8.ofNat (128 + n / 4096 % 64)).toNat : Int) := by rw [byte_nat (by omega), t4096, wrN (by omega), m64]; exact wrA (b := 128) (m := n / 4096 % 64) (by omega)
    have e2 : wrap64 (128 + (wrap64 ((n : Int).tdiv 64)).tmod 64) % 256 = ((UInt8.ofNat (128 + n / 64 % 64)).toNat : Int) := by rw [byte_nat (by omega), t64, wrN (by omega), m64]; exact wrA (b := 128) (m := n / 64 % 64) (by omega)
    have e3 : wrap64 (128 + (n : Int).tmod 64) % 256 = ((UInt8.ofNat (128 + n % 64)).toNat : Int) := by rw [byte_nat (by omega), m64]; exact wrA (b := 128) (m := n % 64) (by omega)
    have HX := Lib.hid (show ([.int .u8 (wrap64 (240 + wrap64 ((n : Int).tdiv 262144)) % 256), .int .u8 (wrap64 (128 + (wrap64 ((n : Int).tdiv 4096)).tmod 64) % 256), .int .u8 (wrap64 (128 + (wrap64 ((n : Int).tdiv 64)).tmod 64) % 256), .int .u8 (wrap64 (128 + (n : Int).tmod 64) % 256)] : List Value) = bC (encL n) by rw [e]; simp only [e0, e1, e2, e3]; rfl)
    obtain ⟨A, hA⟩ : ∃ A : Int, (n : Int) = A := ⟨_, rfl⟩
    have q128 : decide (A < 128) = false := decide_eq_false (by omega)
    have q2048 : decide (A < 2048) = false := decide_eq_false (by omega)
    have q65536 : decide (A < 65536) = false := decide_eq_false (by omega)
    rw [hA] at HX ⊢
    clear e h hl h1 hA hb e0 e1 e2 e3
    go_enter Tryz.func59, Tryz.ntmps59
    go_wp2
    go_ret
    exact ⟨_, rfl, by
      have := rrow_new w (encL n) #[.int .u8 (wrap64 (240 + wrap64 (A.tdiv 262144)) % 256), .int .u8 (wrap64 (128 + (wrap64 (A.tdiv 4096)).tmod 64) % 256), .int .u8 (wrap64 (128 + (wrap64 (A.tdiv 64)).tmod 64) % 256), .int .u8 (wrap64 (128 + A.tmod 64) % 256)] HX.out
      rw [HE.out] at this ⊢
      exact this⟩
end Go.Proofs.YtfnodoepeiknhaaGreatDoor
