/- One of less, equal, more for two of one ordered kind: plain. -/
import Derived.Test.YtgobdcmoelcckaaGreatDoorValP
import Derived.Test.YtgobdcmoelcckaaGreatDoorValLogic
namespace Go.Proofs.YtgobdcmoelcckaaGreatDoor
open Go.RowKit
set_option linter.unusedVariables false
set_option linter.unusedSimpArgs false
set_option maxRecDepth 100000

theorem bless_tri : ∀ a b : List UInt8, (Op.bytesLess a b = true ∧ Op.bytesLess b a = false ∧ a ≠ b) ∨ (Op.bytesLess a b = false ∧ Op.bytesLess b a = true ∧ a ≠ b) ∨ (Op.bytesLess a b = false ∧ Op.bytesLess b a = false ∧ a = b)
  | [], [] => Or.inr (Or.inr ⟨rfl, rfl, rfl⟩)
  | [], _ :: _ => Or.inl ⟨rfl, rfl, by simp⟩
  | _ :: _, [] => Or.inr (Or.inl ⟨rfl, rfl, by simp⟩)
  | x :: r, y :: s => by
    have ih := bless_tri r s
    have h1 : Op.bytesLess (x :: r) (y :: s) = (x < y || (x == y && Op.bytesLess r s)) := rfl
    have h2 : Op.bytesLess (y :: s) (x :: r) = (y < x || (y == x && Op.bytesLess s r)) := rfl
    rw [h1, h2]
    have hlt : ∀ a b : UInt8, decide (a < b) = decide (a.toNat < b.toNat) := fun a b => by rw [Bool.eq_iff_iff]; simp [UInt8.lt_iff_toNat_lt]
    rw [hlt, hlt]
    by_cases e : x = y
    · subst e
      have d : decide (x.toNat < x.toNat) = false := by simp
      rw [d]
      simpa using ih
    · have hne : x.toNat ≠ y.toNat := fun h => e (UInt8.toNat_inj.1 h)
      have e1 : (x == y) = false := by simp [e]
      have e2 : (y == x) = false := beq_false_of_ne (fun h => e h.symm)
      rw [e1, e2]
      rcases Nat.lt_or_ge x.toNat y.toNat with h | h
      · have d1 : decide (x.toNat < y.toNat) = true := decide_eq_true h
        have d2 : decide (y.toNat < x.toNat) = false := decide_eq_false (by omega)
        rw [d1, d2]
        exact Or.inl ⟨rfl, rfl, fun h => e (List.cons.inj h).1⟩
      · have d1 : decide (x.toNat < y.toNat) = false := decide_eq_false (by omega)
        have d2 : decide (y.toNat < x.toNat) = true := decide_eq_true (by omega)
        rw [d1, d2]
        exact Or.inr (Or.inl ⟨rfl, rfl, fun h => e (List.cons.inj h).1⟩)
theorem dcd_val {a b : DcD} (ha : a.ok = true) (hb : b.ok = true) (haw : a.wf) (hbw : b.wf) : a.val = b.val ↔ a = b := by
  refine ⟨fun h => ?_, fun h => by rw [h]⟩
  obtain ⟨h1, h2, h3⟩ := DcD.val_one ha hb h
  obtain ⟨an, ah, al, asc⟩ := a
  obtain ⟨bn, bh, bl, bs⟩ := b
  unfold DcD.wf at haw hbw
  unfold DcD.n at h2
  simp only at h1 h2 h3 haw hbw
  subst h1 h3
  have : ah = bh ∧ al = bl := by omega
  obtain ⟨rfl, rfl⟩ := this
  rfl
theorem bare_parts {v : VD} (h : v.bare = true) : (v.k ≠ 1 → v.yes = false) ∧ (v.k ≠ 2 → v.num = ⟨false, 0, 0, 0⟩) ∧ (v.k ≠ 3 → v.text.toList = []) ∧ (v.k ≠ 4 → v.day = 0) ∧ (v.k ≠ 6 → v.ns = []) ∧ (v.k ≠ 5 → v.k ≠ 6 → v.l = []) := by
  unfold VD.bare at h
  simp only [Bool.and_eq_true, Bool.or_eq_true, decide_eq_true_eq, Bool.not_eq_true'] at h
  obtain ⟨⟨⟨⟨⟨h1, h2⟩, h3⟩, h4⟩, h5⟩, h6⟩ := h
  refine ⟨fun n => h1.resolve_right n, fun n => h2.resolve_right n, fun n => h3.resolve_right n, fun n => h4.resolve_right n, fun n => h5.resolve_right n, fun n m => ?_⟩
  rcases h6 with h | h | h
  · exact h
  · exact absurd h n
  · exact absurd h m
theorem same_plain {x y : VD} (hx : x.bare = true) (hy : y.bare = true) (hk : x.k = y.k) (h5 : x.k ≠ 5) (h6 : x.k ≠ 6) (h1 : x.k ≠ 1) : VD.same x y = decide (x.num = y.num ∧ x.text.toList = y.text.toList ∧ x.day = y.day) := by
  obtain ⟨a1, a2, a3, a4, a5, a6⟩ := bare_parts hx
  obtain ⟨b1, b2, b3, b4, b5, b6⟩ := bare_parts hy
  have e1 := a1 h1
  have e2 := b1 (hk ▸ h1)
  have e3 := a5 h6
  have e4 := b5 (hk ▸ h6)
  have e5 := a6 h5 h6
  have e6 := b6 (hk ▸ h5) (hk ▸ h6)
  obtain ⟨k1, y1, n1, t1, d1, l1, ns1⟩ := x
  obtain ⟨k2, y2, n2, t2, d2, l2, ns2⟩ := y
  simp only [VD.k, VD.yes, VD.ns, VD.l] at hk e1 e2 e3 e4 e5 e6
  subst hk e1 e2 e3 e4 e5 e6
  rw [Bool.eq_iff_iff]
  simp [VD.same, VD.sameL, VD.num, VD.text, VD.day]
  exact ⟨fun h => decide_eq_true h, fun h => of_decide_eq_true h⟩
theorem eq_plain {x y : VD} (hk : x.k = y.k) (h0 : x.k ≠ 0) (h5 : x.k ≠ 5) (h6 : x.k ≠ 6) : VD.eq x y = some (VD.same x y) := by
  rw [VD.eq_def', if_neg (fun h => h.elim h0 (hk ▸ h0)), if_neg (fun h => h hk), if_pos ⟨h5, h6⟩]
theorem less_law {B : Nat} {x y : VD} (hx : x.form = true) (hy : y.form = true) (hxw : x.wf B) (hyw : y.wf B) : (VD.less x y = none ∧ VD.less y x = none) ∨ (VD.less x y = some true ∧ VD.less y x = some false ∧ VD.eq x y = some false) ∨ (VD.less x y = some false ∧ VD.less y x = some true ∧ VD.eq x y = some false) ∨ (VD.less x y = some false ∧ VD.less y x = some false ∧ VD.eq x y = some true) := by
  by_cases hk : x.k = y.k
  · have hk' : ¬ y.k ≠ x.k := fun h => h hk.symm
    have bx := VD.form_bare hx
    have by_ := VD.form_bare hy
    obtain ⟨a1, a2, a3, a4, a5, a6⟩ := bare_parts bx
    obtain ⟨b1, b2, b3, b4, b5, b6⟩ := bare_parts by_
    by_cases h2 : x.k = 2
    · have h2' : y.k = 2 := hk ▸ h2
      right
      have hl : VD.less x y = some (decide (x.num.val < y.num.val)) := by unfold VD.less; rw [if_neg (fun h => h hk), if_pos h2]
      have hm : VD.less y x = some (decide (y.num.val < x.num.val)) := by unfold VD.less; rw [if_neg hk', if_pos h2']
      have he : VD.eq x y = some (decide (x.num.val = y.num.val)) := by
        rw [eq_plain hk (by omega) (by omega) (by omega), same_plain bx by_ hk (by omega) (by omega) (by omega)]
        congr 1
        rw [Bool.eq_iff_iff, decide_eq_true_iff, decide_eq_true_iff, dcd_val (form_num hx h2) (form_num hy h2') (VD.wf_num hxw) (VD.wf_num hyw)]
        refine ⟨fun h => h.1, fun h => ⟨h, ?_, ?_⟩⟩
        · rw [a3 (by omega), b3 (by omega)]
        · rw [a4 (by omega), b4 (by omega)]
      rw [hl, hm, he]
      rcases Int.lt_trichotomy x.num.val y.num.val with h | h | h
      · exact Or.inl ⟨by simp [h], by simp; omega, by simp; omega⟩
      · exact Or.inr (Or.inr ⟨by simp [h], by simp [h], by simp [h]⟩)
      · exact Or.inr (Or.inl ⟨by simp; omega, by simp [h], by simp; omega⟩)
    · by_cases h3 : x.k = 3
      · have h3' : y.k = 3 := hk ▸ h3
        right
        have hl : VD.less x y = some (Op.bytesLess x.text.toList y.text.toList) := by unfold VD.less; rw [if_neg (fun h => h hk), if_neg h2, if_pos h3]
        have hm : VD.less y x = some (Op.bytesLess y.text.toList x.text.toList) := by unfold VD.less; rw [if_neg hk', if_neg (by omega), if_pos h3']
        have he : VD.eq x y = some (decide (x.text.toList = y.text.toList)) := by
          rw [eq_plain hk (by omega) (by omega) (by omega), same_plain bx by_ hk (by omega) (by omega) (by omega)]
          congr 1
          rw [Bool.eq_iff_iff, decide_eq_true_iff, decide_eq_true_iff]
          refine ⟨fun h => h.2.1, fun h => ⟨?_, h, ?_⟩⟩
          · rw [a2 (by omega), b2 (by omega)]
          · rw [a4 (by omega), b4 (by omega)]
        rw [hl, hm, he]
        rcases bless_tri x.text.toList y.text.toList with ⟨p1, p2, p3⟩ | ⟨p1, p2, p3⟩ | ⟨p1, p2, p3⟩
        · exact Or.inl ⟨by rw [p1], by rw [p2], by rw [decide_eq_false p3]⟩
        · exact Or.inr (Or.inl ⟨by rw [p1], by rw [p2], by rw [decide_eq_false p3]⟩)
        · exact Or.inr (Or.inr ⟨by rw [p1], by rw [p2], by rw [decide_eq_true p3]⟩)
      · by_cases h4 : x.k = 4
        · have h4' : y.k = 4 := hk ▸ h4
          right
          have hl : VD.less x y = some (decide (x.day < y.day)) := by unfold VD.less; rw [if_neg (fun h => h hk), if_neg h2, if_neg h3, if_pos h4]
          have hm : VD.less y x = some (decide (y.day < x.day)) := by unfold VD.less; rw [if_neg hk', if_neg (by omega), if_neg (by omega), if_pos h4']
          have he : VD.eq x y = some (decide (x.day = y.day)) := by
            rw [eq_plain hk (by omega) (by omega) (by omega), same_plain bx by_ hk (by omega) (by omega) (by omega)]
            congr 1
            rw [Bool.eq_iff_iff, decide_eq_true_iff, decide_eq_true_iff]
            refine ⟨fun h => h.2.2, fun h => ⟨?_, ?_, h⟩⟩
            · rw [a2 (by omega), b2 (by omega)]
            · rw [a3 (by omega), b3 (by omega)]
          rw [hl, hm, he]
          rcases Int.lt_trichotomy x.day y.day with h | h | h
          · exact Or.inl ⟨by simp [h], by simp; omega, by simp; omega⟩
          · exact Or.inr (Or.inr ⟨by simp [h], by simp [h], by simp [h]⟩)
          · exact Or.inr (Or.inl ⟨by simp; omega, by simp [h], by simp; omega⟩)
        · left
          unfold VD.less
          rw [if_neg (fun h => h hk), if_neg h2, if_neg h3, if_neg h4, if_neg hk', if_neg (by omega), if_neg (by omega), if_neg (by omega)]
          exact ⟨rfl, rfl⟩
  · left
    unfold VD.less
    rw [if_pos hk, if_pos (fun h => hk h.symm)]
    exact ⟨rfl, rfl⟩
end Go.Proofs.YtgobdcmoelcckaaGreatDoor
