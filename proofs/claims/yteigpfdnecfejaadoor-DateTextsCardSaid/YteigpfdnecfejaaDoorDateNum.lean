/- Texts of decimal digits, the text of a day, and what Parse reads out of a text: lists of bytes, no program in sight. -/
import Derived.Test.YteigpfdnecfejaaDoorDatePlain
import Derived.Test.YteigpfdnecfejaaDoorDateText
import Derived.Lib.Atoi
import Derived.Lib.SlTrimSet
namespace Cal
open Go

def digB (b : UInt8) : Bool := decide (48 ≤ b.toNat ∧ b.toNat ≤ 57)
def digs (l : List UInt8) : Bool := l.all digB
def val (l : List UInt8) : Nat := (Lib.decFrom 0 l).getD 0
def digV (l : List UInt8) : Int := if digs l = true then (val l : Int) else 0
def digitsC : List UInt8 := [48, 49, 50, 51, 52, 53, 54, 55, 56, 57]

theorem digB_iff (b : UInt8) : digB b = true ↔ 48 ≤ b.toNat ∧ b.toNat ≤ 57 := by unfold digB; simp
theorem digB_not (b : UInt8) : digB b = false ↔ ¬ (48 ≤ b.toNat ∧ b.toNat ≤ 57) := by unfold digB; simp

theorem contains_digB (b : UInt8) : digitsC.contains b = digB b := by
  rw [Bool.eq_iff_iff, digB_iff]
  unfold digitsC
  simp only [List.contains_iff_mem, List.mem_cons, List.mem_nil_iff, or_false]
  constructor
  · rintro (rfl | rfl | rfl | rfl | rfl | rfl | rfl | rfl | rfl | rfl) <;> decide
  · rintro ⟨h1, h2⟩
    have h : b.toNat = 48 ∨ b.toNat = 49 ∨ b.toNat = 50 ∨ b.toNat = 51 ∨ b.toNat = 52 ∨ b.toNat = 53 ∨ b.toNat = 54 ∨ b.toNat = 55 ∨ b.toNat = 56 ∨ b.toNat = 57 := by omega
    rcases h with h | h | h | h | h | h | h | h | h | h
    all_goals simp [← UInt8.toNat_inj, h]

theorem mem_dropWhile {p : UInt8 → Bool} {b : UInt8} (hb : p b = false) : ∀ {l : List UInt8}, b ∈ l → b ∈ l.dropWhile p
  | [], h => by cases h
  | x :: l, h => by
    rw [List.dropWhile_cons]
    split
    · rename_i hx
      rcases List.mem_cons.1 h with rfl | h
      · rw [hb] at hx; cases hx
      · exact mem_dropWhile hb h
    · exact h

theorem dropWhile_all {p : UInt8 → Bool} : ∀ {l : List UInt8}, (∀ b ∈ l, p b = true) → l.dropWhile p = []
  | [], _ => rfl
  | x :: l, h => by
    rw [List.dropWhile_cons, if_pos (h x (List.mem_cons_self ..))]
    exact dropWhile_all fun b hb => h b (List.mem_cons_of_mem _ hb)

theorem trim_digs {l : List UInt8} (h : digs l = true) : Lib.trimS l digitsC = [] := by
  have hall : ∀ b ∈ l.reverse, digitsC.contains b = true := fun b hb => by
    rw [contains_digB]
    exact List.all_eq_true.1 h b (List.mem_reverse.1 hb)
  unfold Lib.trimS Lib.trimRightS Lib.trimLeftS
  rw [dropWhile_all hall]
  rfl

theorem trim_not {l : List UInt8} (h : digs l = false) : Lib.trimS l digitsC ≠ [] := by
  have hex : ∃ b ∈ l, digB b = false := by
    unfold digs at h
    rw [List.all_eq_false] at h
    obtain ⟨b, hb, hn⟩ := h
    exact ⟨b, hb, by simpa using hn⟩
  obtain ⟨b, hb, hn⟩ := hex
  have hc : digitsC.contains b = false := by rw [contains_digB]; exact hn
  have : b ∈ Lib.trimS l digitsC := by
    unfold Lib.trimS Lib.trimRightS Lib.trimLeftS
    exact mem_dropWhile hc (List.mem_reverse.2 (mem_dropWhile hc (List.mem_reverse.2 hb)))
  intro e
  rw [e] at this
  cases this

theorem decFrom_digs : ∀ (l : List UInt8) (acc : Nat), digs l = true → ∃ n, Lib.decFrom acc l = some n ∧ n < (acc + 1) * 10 ^ l.length
  | [], acc, _ => ⟨acc, rfl, by simp⟩
  | b :: l, acc, h => by
    unfold digs at h
    rw [List.all_cons, Bool.and_eq_true] at h
    have hb := (digB_iff b).1 h.1
    obtain ⟨n, hn, hlt⟩ := decFrom_digs l (acc * 10 + (b.toNat - 48)) h.2
    refine ⟨n, ?_, ?_⟩
    · unfold Lib.decFrom Lib.digitVal
      rw [if_pos hb]
      exact hn
    · refine Nat.lt_of_lt_of_le hlt ?_
      rw [List.length_cons, Nat.pow_succ, Nat.mul_comm (10 ^ l.length) 10, ← Nat.mul_assoc]
      exact Nat.mul_le_mul_right _ (by omega)

theorem val_lt {l : List UInt8} (h : digs l = true) : val l < 10 ^ l.length := by
  obtain ⟨n, hn, hlt⟩ := decFrom_digs l 0 h
  unfold val
  rw [hn]
  simpa using hlt

theorem decFrom_val {l : List UInt8} (h : digs l = true) : Lib.decFrom 0 l = some (val l) := by
  obtain ⟨n, hn, _⟩ := decFrom_digs l 0 h
  unfold val
  rw [hn]
  rfl

/-- Atoi of a row of digits, at least one. -/
theorem atoi_digs {l : List UInt8} (h : digs l = true) (hl : l ≠ []) : Lib.atoi l = some (val l : Int) := by
  cases l with
  | nil => exact absurd rfl hl
  | cons b r =>
    have hb : digB b = true := by
      unfold digs at h
      rw [List.all_cons, Bool.and_eq_true] at h
      exact h.1
    have hb := (digB_iff b).1 hb
    have h1 : (b == 45) = false := by
      rw [beq_eq_false_iff_ne]
      intro e
      subst e
      exact absurd hb (by decide)
    have h2 : (b == 43) = false := by
      rw [beq_eq_false_iff_ne]
      intro e
      subst e
      exact absurd hb (by decide)
    simp only [Lib.atoi, h1, h2, Bool.false_eq_true, if_false, Lib.decNat, List.isEmpty_cons]
    rw [decFrom_val h]
    rfl

theorem digs_take {l : List UInt8} {k : Nat} {b : UInt8} (hb : l[k]? = some b) : digs (l.take (k + 1)) = (digs (l.take k) && digB b) := by
  unfold digs
  rw [List.take_add_one, hb]
  simp

theorem val_take {l : List UInt8} {k : Nat} {b : UInt8} (hb : l[k]? = some b) (h : digs (l.take (k + 1)) = true) : (val (l.take (k + 1)) : Int) = 10 * (val (l.take k) : Int) + ((b.toNat : Int) - 48) := by
  rw [digs_take hb, Bool.and_eq_true] at h
  have hd := (digB_iff b).1 h.2
  have h1 := Lib.decFrom_take l k 0 (val (l.take k)) b (b.toNat - 48) (decFrom_val h.1) hb (by unfold Lib.digitVal; rw [if_pos hd])
  have : val (l.take (k + 1)) = val (l.take k) * 10 + (b.toNat - 48) := by
    unfold val at h1 ⊢
    rw [h1]
    rfl
  omega

theorem digs_not_take {l : List UInt8} {k : Nat} (h : digs (l.take k) = false) : digs l = false := by
  unfold digs at h ⊢
  rw [List.all_eq_false] at h ⊢
  obtain ⟨b, hb, hn⟩ := h
  exact ⟨b, List.mem_of_mem_take hb, hn⟩

/-- What Parse reads: the text's shape. -/
def shapeB (l : List UInt8) : Bool := l.length == 10 && l[4]? == some 45 && l[7]? == some 45 && digs (l.take 4) && digs ((l.drop 5).take 2) && digs (l.drop 8)
def parY (l : List UInt8) : Int := val (l.take 4)
def parM (l : List UInt8) : Int := val ((l.drop 5).take 2)
def parD (l : List UInt8) : Int := val (l.drop 8)
def parseV (l : List UInt8) : Int := if shapeB l = true then dayV (parY l) (parM l) (parD l) else 0
def parseE (l : List UInt8) : Int := if shapeB l = true then (if vldB (parY l) (parM l) (parD l) = true then 0 else 17) else 5
end Cal
