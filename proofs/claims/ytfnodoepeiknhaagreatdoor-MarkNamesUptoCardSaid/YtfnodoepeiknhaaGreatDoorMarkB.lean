/- mark's reader: blanks, name, take, until. (short) -/
import Derived.Test.YtfnodoepeiknhaaGreatDoorMarkA
import Derived.Test.YtfnodoepeiknhaaGreatDoorShelf2
import Derived.Test.YtfnodoepeiknhaaGreatDoorCut
import Derived.Test.YtfnodoepeiknhaaGreatDoorTypes
namespace Go.Proofs.YtfnodoepeiknhaaGreatDoor
open Go.RowKit
set_option linter.unusedVariables false
set_option linter.unusedSimpArgs false
set_option maxRecDepth 100000

/-- The place behind the bytes of a kind. -/
def spE (p : UInt8 → Bool) (l : List UInt8) (i : Nat) : Nat := i + ((l.drop i).takeWhile p).length
theorem spE_yes {p : UInt8 → Bool} {l : List UInt8} {i : Nat} {b : UInt8} (h : l[i]? = some b) (hp : p b = true) : spE p l (i + 1) = spE p l i := by
  obtain ⟨hi, e⟩ := List.getElem?_eq_some_iff.1 h
  unfold spE
  rw [List.drop_eq_getElem_cons hi, e, List.takeWhile_cons, if_pos hp, List.length_cons]
  omega
theorem spE_no {p : UInt8 → Bool} {l : List UInt8} {i : Nat} {b : UInt8} (h : l[i]? = some b) (hp : p b = false) : spE p l i = i := by
  obtain ⟨hi, e⟩ := List.getElem?_eq_some_iff.1 h
  unfold spE
  rw [List.drop_eq_getElem_cons hi, e, List.takeWhile_cons, if_neg (by rw [hp]; decide)]
  rfl
theorem spE_end {p : UInt8 → Bool} {l : List UInt8} {i : Nat} (h : l.length ≤ i) : spE p l i = i := by
  unfold spE; rw [List.drop_of_length_le h]; rfl
theorem spE_le {p : UInt8 → Bool} {l : List UInt8} {i : Nat} (h : i ≤ l.length) : i ≤ spE p l i ∧ spE p l i ≤ l.length := by
  unfold spE
  have h1 : ((l.drop i).takeWhile p).length ≤ (l.drop i).length := (List.takeWhile_sublist p).length_le
  rw [List.length_drop] at h1
  omega

/-- mark's reader, as it lies. -/
abbrev mdC (S : ByteArray) (i : Nat) (ov : Value) (lg dp : Bool) : List Value := [.string S, .int .i64 i, ov, .bool lg, .bool dp]
theorem mrd_at {w0 W : World} {R : Nat} {T : List Res} {S : ByteArray} {k : Nat} {ov : Value} {lg dp : Bool} (h : Mem w0 W (.box R 72 [.string S, .int .i64 k, ov, .bool lg, .bool dp] :: T)) : (intOf ((W.cell? ⟨R, 1, none⟩).getD undef)).toNat = k := by
  have h1 := box_cells (h.get (k := 0) rfl) 1 0 (.int .i64 k) rfl
  rw [add_none] at h1
  rw [h1]
  simp [intOf]
def blkB (b : UInt8) : Bool := b == 32 || b == 9 || b == 10 || b == 13
theorem blk_idx (b : UInt8) : decide (Lib.indexByte [32, 9, 10, 13] b ≥ 0) = blkB b := by
  have h : ∀ n : Fin 256, decide (Lib.indexByte [32, 9, 10, 13] (UInt8.ofNat n.val) ≥ 0) = blkB (UInt8.ofNat n.val) := by decide +kernel
  have := h ⟨b.toNat, b.toNat_lt⟩
  simpa using this
theorem blk_is (b : UInt8) (w : World) : Calls Tryz.prog 95 #[.string ⟨#[32, 9, 10, 13]⟩, .int .u8 b.toNat] w fun e w' => e = .returned (.int .i64 (Lib.indexByte [32, 9, 10, 13] b)) ∧ w = w' := by
  refine (Tryz.strings_IndexByte ⟨#[32, 9, 10, 13]⟩ b.toNat w).mono ?_
  rintro e w' ⟨rfl, rfl⟩
  have e1 : ((b.toNat : Int)).toNat.toUInt8 = b := by simp
  rw [e1]
  exact ⟨rfl, rfl⟩
def insU (b : UInt8) : Bool := insB b.toNat

end Go.Proofs.YtfnodoepeiknhaaGreatDoor
