/- Package kind and its reference: Form, under, Under; number. Package kind's under and Under; the reference's Under and Join. The reference's Under and Join. The reference's Fits of samples, Under. The reference's Under. check.meet and the reference's Meet, of types in form. Package kind's Join. The reference's of, Join. -/
import Derived.Test.YtpjcjgikfplgnaaDoorShelf
import Derived.Test.YtpjcjgikfplgnaaDoorSepA
import Derived.Lib.QuietBelow
import Derived.Deep.DeepCutAuto
namespace Go.Proofs.YtpjcjgikfplgnaaDoor
open Go.RowKit
set_option linter.unusedVariables false
set_option maxRecDepth 100000

/-- A type's value. -/
def tyV (k o : Int) : Value := .agg #[.int .i64 k, .int .i64 o]
/-- Which of the ten types; -1: none. -/
def tyN (k o : Int) : Int := if 0 ≤ k ∧ k ≤ 4 ∧ o = 0 then k else if k = 5 ∧ 0 ≤ o ∧ o ≤ 4 then 5 + o else -1
def formB (k o : Int) : Bool := decide (0 ≤ tyN k o)

set_option maxHeartbeats 2000000 in
theorem number_any (k o : Int) (w : World) :
    Calls Tryd.prog 47 #[.agg #[.int .i64 k, .int .i64 o]] w fun e w' => e = .returned (.int .i64 (tyN k o)) ∧ Below w.heap.size w w' := by
  have HA := Lib.hid (At.new w 25 #[.int .i64 k, .int .i64 o])
  have HB := Lib.hid ((Below.refl _ w).alloc (Nat.le_refl _) (.cells #[.int .i64 k, .int .i64 o] 25))
  have k0 := HA.out.cell 0 (v := .int .i64 k) rfl
  have k1 := HA.out.cell 1 (v := .int .i64 o) rfl
  by_cases h5 : k = 5
  · subst h5
    by_cases h0 : 0 ≤ o
    · by_cases h4 : o ≤ 4
      · have HV := Lib.hid (show tyN 5 o = 5 + o by unfold tyN; rw [if_neg (by omega), if_pos ⟨rfl, h0, h4⟩])
        go_enter Tryd.func47, Tryd.ntmps47
        go_wp2
        go_ret
        exact ⟨ret_i64 HV.out.symm, HB.out⟩
      · have HV := Lib.hid (show tyN 5 o = -1 by unfold tyN; rw [if_neg (by omega), if_neg (by omega)])
        go_enter Tryd.func47, Tryd.ntmps47
        go_wp2
        go_ret
        exact ⟨ret_i64 HV.out.symm, HB.out⟩
    · have HV := Lib.hid (show tyN 5 o = -1 by unfold tyN; rw [if_neg (by omega), if_neg (by omega)])
      go_enter Tryd.func47, Tryd.ntmps47
      go_wp2
      go_ret
      exact ⟨ret_i64 HV.out.symm, HB.out⟩
  · have e5 : (k == 5) = false := beq_false_of_ne h5
    by_cases h0 : 0 ≤ k
    · have d0 : decide (0 ≤ k) = true := decide_eq_true h0
      by_cases h4 : k ≤ 4
      · have d4 : decide (k ≤ 4) = true := decide_eq_true h4
        by_cases ho : o = 0
        · have HV := Lib.hid (show tyN k o = k by unfold tyN; rw [if_pos ⟨h0, h4, ho⟩])
          have e0 : (o == 0) = true := beq_iff_eq.2 ho
          clear h0 h4 h5 ho
          go_enter Tryd.func47, Tryd.ntmps47
          go_wp2
          go_ret
          exact ⟨ret_i64 HV.out.symm, HB.out⟩
        · have HV := Lib.hid (show tyN k o = -1 by unfold tyN; rw [if_neg (by omega), if_neg (by omega)])
          have e0 : (o == 0) = false := beq_false_of_ne ho
          clear h0 h4 h5 ho
          go_enter Tryd.func47, Tryd.ntmps47
          go_wp2
          go_ret
          exact ⟨ret_i64 HV.out.symm, HB.out⟩
      · have d4 : decide (k ≤ 4) = false := decide_eq_false h4
        have HV := Lib.hid (show tyN k o = -1 by unfold tyN; rw [if_neg (by omega), if_neg (by omega)])
        clear h0 h4 h5
        go_enter Tryd.func47, Tryd.ntmps47
        go_wp2
        go_ret
        exact ⟨ret_i64 HV.out.symm, HB.out⟩
    · have d0 : decide (0 ≤ k) = false := decide_eq_false h0
      have HV := Lib.hid (show tyN k o = -1 by unfold tyN; rw [if_neg (by omega), if_neg (by omega)])
      clear h0 h5
      go_enter Tryd.func47, Tryd.ntmps47
      go_wp2
      go_ret
      exact ⟨ret_i64 HV.out.symm, HB.out⟩

theorem rTForm_any (k o : Int) (w : World) :
    Calls Tryd.prog 27 #[.agg #[.int .i64 k, .int .i64 o]] w fun e w' => e = .returned (.bool (formB k o)) ∧ Below w.heap.size w w' := by
  have HA := Lib.hid (At.new w 25 #[.int .i64 k, .int .i64 o])
  have HB := Lib.hid ((Below.refl _ w).alloc (Nat.le_refl _) (.cells #[.int .i64 k, .int .i64 o] 25))
  have HV := Lib.hid (show formB k o = decide (0 ≤ tyN k o) from rfl)
  have k0 := HA.out.cell 0 (v := .int .i64 k) rfl
  have k1 := HA.out.cell 1 (v := .int .i64 o) rfl
  go_enter Tryd.func27, Tryd.ntmps27
  go_wp2_with fail
  refine (number_any k o _).mono ?_
  rintro e w1 ⟨rfl, hb⟩
  have HB1 := Lib.hid (HB.out.trans (hb.mono HB.out.size))
  clear hb
  go_wp2
  go_ret
  exact ⟨ret_bool HV.out.symm, HB1.out⟩

set_option maxHeartbeats 2000000 in
theorem kForm_any (k o : Int) (w : World) :
    Calls Tryd.prog 25 #[.agg #[.int .i64 k, .int .i64 o]] w fun e w' => e = .returned (.bool (formB k o)) ∧ Below w.heap.size w w' := by
  have HA := Lib.hid (At.new w 25 #[.int .i64 k, .int .i64 o])
  have HB := Lib.hid ((Below.refl _ w).alloc (Nat.le_refl _) (.cells #[.int .i64 k, .int .i64 o] 25))
  have k0 := HA.out.cell 0 (v := .int .i64 k) rfl
  have k1 := HA.out.cell 1 (v := .int .i64 o) rfl
  obtain ⟨b, hb⟩ : ∃ b, formB k o = b := ⟨_, rfl⟩
  have hf : (formB k o = true ↔ (0 ≤ k ∧ k ≤ 4 ∧ o = 0) ∨ (k = 5 ∧ 0 ≤ o ∧ o ≤ 4)) := by
    unfold formB tyN
    rw [decide_eq_true_eq]
    split
    · omega
    · split <;> omega
  rw [hb] at hf
  have HV := Lib.hid hb
  clear hb
  by_cases h5 : k = 5
  · have e5 : (k == 5) = true := beq_iff_eq.2 h5
    by_cases h0 : 0 ≤ o
    · have d0 : decide (0 ≤ o) = true := decide_eq_true h0
      have d5 : decide (o < 5) = b := by
        rw [Bool.eq_iff_iff, hf, decide_eq_true_eq]; omega
      clear h0 h5 hf
      go_enter Tryd.func25, Tryd.ntmps25
      go_wp2
      go_ret
      exact ⟨ret_bool HV.out.symm, HB.out⟩
    · have d0 : decide (0 ≤ o) = false := decide_eq_false h0
      have hb : b = false := by rw [← Bool.not_eq_true, hf]; omega
      subst hb
      clear h0 h5 hf
      go_enter Tryd.func25, Tryd.ntmps25
      go_wp2
      go_ret
      exact ⟨ret_bool HV.out.symm, HB.out⟩
  · have e5 : (k == 5) = false := beq_false_of_ne h5
    by_cases h0 : 0 ≤ k
    · have d0 : decide (0 ≤ k) = true := decide_eq_true h0
      by_cases h4 : k < 5
      · have d4 : decide (k < 5) = true := decide_eq_true h4
        have e0 : (o == 0) = b := by
          rw [Bool.eq_iff_iff, hf, beq_iff_eq]; omega
        clear h0 h4 h5 hf
        go_enter Tryd.func25, Tryd.ntmps25
        go_wp2
        go_ret
        exact ⟨ret_bool HV.out.symm, HB.out⟩
      · have d4 : decide (k < 5) = false := decide_eq_false h4
        have hb : b = false := by rw [← Bool.not_eq_true, hf]; omega
        subst hb
        clear h0 h4 h5 hf
        go_enter Tryd.func25, Tryd.ntmps25
        go_wp2
        go_ret
        exact ⟨ret_bool HV.out.symm, HB.out⟩
    · have d0 : decide (0 ≤ k) = false := decide_eq_false h0
      have hb : b = false := by rw [← Bool.not_eq_true, hf]; omega
      subst hb
      clear h0 h5 hf
      go_enter Tryd.func25, Tryd.ntmps25
      go_wp2
      go_ret
      exact ⟨ret_bool HV.out.symm, HB.out⟩
end Go.Proofs.YtpjcjgikfplgnaaDoor

namespace Go.Proofs.YtpjcjgikfplgnaaDoor
open Go.Shelf Go.RowKit Go.Sort
set_option linter.unusedVariables false
set_option maxRecDepth 100000

def underB (k o k' o' : Int) : Bool := decide ((k = k' ∧ o = o') ∨ k' = 0 ∨ (k = 5 ∧ k' = 5 ∧ o' = 0))

set_option maxHeartbeats 2000000 in
theorem under_any (k o k' o' : Int) (w : World) :
    Calls Tryd.prog 88 #[.agg #[.int .i64 k, .int .i64 o], .agg #[.int .i64 k', .int .i64 o']] w fun e w' => e = .returned (.bool (underB k o k' o')) ∧ Below w.heap.size w w' := by
  go_enter Tryd.func88, Tryd.ntmps88
  go_wp2
  all_goals go_ret
  all_goals refine ⟨ret_bool ?_, ((RowKit.Below.refl _ _).alloc (Nat.le_refl _) _).alloc (by simp) _⟩
  all_goals unfold underB
  all_goals first
    | (symm; rw [decide_eq_true_eq]; omega)
    | (symm; rw [decide_eq_false_iff_not]; omega)
    | (rw [Bool.eq_iff_iff, beq_iff_eq, decide_eq_true_eq]; omega)

/-- Two boxed types, known whole. -/
def Two (w0 W : World) (k o k' o' : Int) : Prop := At W w0.heap.size 25 #[.int .i64 k, .int .i64 o] ∧ At W (w0.heap.size + 1) 25 #[.int .i64 k', .int .i64 o'] ∧ RowKit.Below w0.heap.size w0 W
theorem Two.start (w : World) (k o k' o' : Int) : Two w ((w.alloc (.cells #[.int .i64 k, .int .i64 o] 25)).alloc (.cells #[.int .i64 k', .int .i64 o'] 25)) k o k' o' :=
  ⟨(At.new w _ _).alloc _, At.new1 w _ _ _, ((RowKit.Below.refl _ _).alloc (Nat.le_refl _) _).alloc (by simp) _⟩
theorem Two.next {w0 W W' : World} {k o k' o' : Int} (h : Two w0 W k o k' o') (hb : RowKit.Below W.heap.size W W') : Two w0 W' k o k' o' :=
  ⟨h.1.below hb h.1.lt, h.2.1.below hb h.2.1.lt, h.2.2.trans (hb.mono h.2.2.size)⟩
theorem Two.cells {w0 W : World} {k o k' o' : Int} (h : Two w0 W k o k' o') : W.cell? ⟨w0.heap.size, 0, none⟩ = some (.int .i64 k) ∧ W.cell? ⟨w0.heap.size, 1, none⟩ = some (.int .i64 o) ∧ W.cell? ⟨w0.heap.size + 1, 0, none⟩ = some (.int .i64 k') ∧ W.cell? ⟨w0.heap.size + 1, 1, none⟩ = some (.int .i64 o') :=
  ⟨h.1.cell 0 rfl, h.1.cell 1 rfl, h.2.1.cell 0 rfl, h.2.1.cell 1 rfl⟩

def underR (k o k' o' : Int) : Value := if formB k o && formB k' o' then .tuple #[.bool (underB k o k' o'), .int .i64 0] else .tuple #[.bool false, .int .i64 2]
theorem underR_no {k o k' o' : Int} (h : (formB k o && formB k' o') = false) : underR k o k' o' = .tuple #[.bool false, .int .i64 2] := by unfold underR; rw [h]; rfl
theorem underR_yes {k o k' o' : Int} (h : (formB k o && formB k' o') = true) : underR k o k' o' = .tuple #[.bool (underB k o k' o'), .int .i64 0] := by unfold underR; rw [h]; rfl

set_option maxHeartbeats 2000000 in
theorem kUnder_any (k o k' o' : Int) (w : World) :
    Calls Tryd.prog 64 #[.agg #[.int .i64 k, .int .i64 o], .agg #[.int .i64 k', .int .i64 o']] w fun e w' => e = .returned (underR k o k' o') ∧ RowKit.Below w.heap.size w w' := by
  have HT := Lib.hid (Two.start w k o k' o')
  go_enter Tryd.func64, Tryd.ntmps64
  go_wp2_with fail
  generalize (w.alloc (.cells #[.int .i64 k, .int .i64 o] 25)).alloc (.cells #[.int .i64 k', .int .i64 o'] 25) = W0 at HT ⊢
  refine (kForm_any k o _).mono ?_
  rintro e w1 ⟨rfl, hb⟩
  have HT1 := Lib.hid (HT.out.next hb)
  obtain ⟨k0, k1, k2, k3⟩ := HT1.out.cells
  clear hb HT
  cases hf : formB k o
  · go_wp2_with fail
    go_ret2
    exact ⟨by rw [underR_no (by rw [hf]; rfl)]; rfl, HT1.out.2.2⟩
  · go_wp2_with fail
    refine (kForm_any k' o' _).mono ?_
    rintro e w2 ⟨rfl, hb⟩
    have HT2 := Lib.hid (HT1.out.next hb)
    clear k0 k1 k2 k3
    obtain ⟨k0, k1, k2, k3⟩ := HT2.out.cells
    clear hb HT1
    cases hf' : formB k' o'
    · go_wp2_with fail
      go_ret2
      exact ⟨by rw [underR_no (by rw [hf, hf']; rfl)]; rfl, HT2.out.2.2⟩
    · go_wp2_with fail
      refine (under_any k o k' o' _).mono ?_
      rintro e w3 ⟨rfl, hb⟩
      have HT3 := Lib.hid (HT2.out.next hb)
      clear hb HT2
      go_wp2_with fail
      go_ret2
      exact ⟨by rw [underR_yes (by rw [hf, hf']; rfl)]; rfl, HT3.out.2.2⟩
end Go.Proofs.YtpjcjgikfplgnaaDoor

namespace Go.Proofs.YtpjcjgikfplgnaaDoor
open Go.Shelf Go.RowKit Go.Sort
set_option linter.unusedVariables false
set_option maxRecDepth 100000

/-- A sample's value; its cells. -/
def sampC (kd day : Int) (l : Value) : Array Value := #[.int .i64 kd, .bool false, .bool false, .int .u64 0, .int .u64 0, .int .i64 0, .string ⟨#[]⟩, .int .i64 day, l, .slice none 0 0]
def sampKd (k : Int) : Int := if k = 0 then 6 else k
def sampDay (k : Int) : Int := if k = 4 then 1 else 0
def sampOf (o : Int) : Int := if o = 0 then 5 else o

set_option maxHeartbeats 4000000 in
theorem sample_simple (k : Int) (w : World) (h0 : 0 ≤ k) (h4 : k ≤ 4) :
    Calls Tryd.prog 99 #[.agg #[.int .i64 k, .int .i64 0]] w fun e w' => e = .returned (.agg (sampC (sampKd k) (sampDay k) (.slice none 0 0))) ∧ RowKit.Below w.heap.size w w' := by
  have h : k = 0 ∨ k = 1 ∨ k = 2 ∨ k = 3 ∨ k = 4 := by omega
  clear h0 h4
  rcases h with rfl | rfl | rfl | rfl | rfl
  all_goals
    go_enter Tryd.func99, Tryd.ntmps99
    go_wp2
    refine bodyPost_ret (v := .agg (sampC _ _ (.slice none 0 0))) (by simp [results, Tryd.results99, go_sem]; rfl) rfl ⟨rfl, ?_⟩
    exact (((RowKit.Below.refl _ _).alloc (Nat.le_refl _) _).alloc (by simp) _).alloc (by simp; omega) _

def SampList (w : World) (o : Int) (e : Ending) (w' : World) : Prop := ∃ g, e = .returned (.agg (sampC 5 0 (.slice (some ⟨g, 0, none⟩) 1 1))) ∧ g < w'.heap.size ∧ w'.cell? ⟨g, 0, none⟩ = some (.int .i64 (sampOf o)) ∧ RowKit.Below w.heap.size w w'

set_option maxHeartbeats 4000000 in
theorem sample_any0 (w : World) :
    Calls Tryd.prog 99 #[.agg #[.int .i64 5, .int .i64 0]] w (SampList w 0) := by
  go_enter Tryd.func99, Tryd.ntmps99
  go_wp2
  refine bodyPost_ret (v := .agg (sampC 5 0 (.slice (some ⟨w.heap.size + 1 + 1 + 1, 0, none⟩) 1 1))) (by simp [results, Tryd.results99, go_sem]; rfl) rfl ⟨_, rfl, by simp, ?_, ?_⟩
  · exact (At.newAt (by simp) _ _).cell 0 rfl
  · exact ((((RowKit.Below.refl _ _).alloc (Nat.le_refl _) _).alloc (by simp) _).alloc (by simp; omega) _).alloc (by simp; omega) _

/-- The world that a sample of a simple type leaves. -/
def sampW (w : World) (k : Int) : World := ((w.alloc (.cells #[.int .i64 k, .int .i64 0] 25)).alloc (.cells (sampC (sampKd k) (sampDay k) (.slice none 0 0)) 146)).alloc (.cells (sampC (sampKd k) (sampDay k) (.slice none 0 0)) 146)

set_option maxHeartbeats 4000000 in
theorem sample_exact (k : Int) (w : World) (h0 : 1 ≤ k) (h4 : k ≤ 4) :
    Calls Tryd.prog 99 #[.agg #[.int .i64 k, .int .i64 0]] w fun e w' => e = .returned (.agg (sampC (sampKd k) (sampDay k) (.slice none 0 0))) ∧ sampW w k = w' := by
  have h : k = 1 ∨ k = 2 ∨ k = 3 ∨ k = 4 := by omega
  clear h0 h4
  rcases h with rfl | rfl | rfl | rfl
  all_goals
    go_enter Tryd.func99, Tryd.ntmps99
    go_wp2
    refine bodyPost_ret (v := .agg (sampC _ _ (.slice none 0 0))) (by simp [results, Tryd.results99, go_sem]; rfl) rfl ⟨rfl, rfl⟩

set_option maxHeartbeats 1000000 in
theorem sample_one1 (w : World) :
    Calls Tryd.prog 99 #[.agg #[.int .i64 5, .int .i64 1]] w (SampList w 1) := by
  go_enter Tryd.func99, Tryd.ntmps99
  go_wp2_with fail
  refine (sample_exact 1 _ (by decide) (by decide)).mono ?_
  rintro e w1 ⟨rfl, rfl⟩
  rw [show sampKd 1 = 1 from rfl, show sampDay 1 = 0 from rfl]
  unfold sampW
  rw [show sampKd 1 = 1 from rfl, show sampDay 1 = 0 from rfl]
  unfold sampC
  go_wp2
  refine bodyPost_ret (v := .agg (sampC 5 0 (.slice (some ⟨w.heap.size + 1 + 1 + 1 + 1 + 1 + 1, 0, none⟩) 1 1))) (by simp [results, Tryd.results99, go_sem]; rfl) rfl ⟨_, rfl, by simp, ?_, ?_⟩
  · exact (At.newAt (by simp) _ _).cell 0 rfl
  · exact (((((((RowKit.Below.refl _ _).alloc (Nat.le_refl _) _).alloc (by simp) _).alloc (by simp; omega) _).alloc (by simp; omega) _).alloc (by simp; omega) _).alloc (by simp; omega) _).alloc (by simp; omega) _

set_option maxHeartbeats 1000000 in
theorem sample_one2 (w : World) :
    Calls Tryd.prog 99 #[.agg #[.int .i64 5, .int .i64 2]] w (SampList w 2) := by
  go_enter Tryd.func99, Tryd.ntmps99
  go_wp2_with fail
  refine (sample_exact 2 _ (by decide) (by decide)).mono ?_
  rintro e w1 ⟨rfl, rfl⟩
  rw [show sampKd 2 = 2 from rfl, show sampDay 2 = 0 from rfl]
  unfold sampW
  rw [show sampKd 2 = 2 from rfl, show sampDay 2 = 0 from rfl]
  unfold sampC
  go_wp2
  refine bodyPost_ret (v := .agg (sampC 5 0 (.slice (some ⟨w.heap.size + 1 + 1 + 1 + 1 + 1 + 1, 0, none⟩) 1 1))) (by simp [results, Tryd.results99, go_sem]; rfl) rfl ⟨_, rfl, by simp, ?_, ?_⟩
  · exact (At.newAt (by simp) _ _).cell 0 rfl
  · exact (((((((RowKit.Below.refl _ _).alloc (Nat.le_refl _) _).alloc (by simp) _).alloc (by simp; omega) _).alloc (by simp; omega) _).alloc (by simp; omega) _).alloc (by simp; omega) _).alloc (by simp; omega) _

set_option maxHeartbeats 1000000 in
theorem sample_one3 (w : World) :
    Calls Tryd.prog 99 #[.agg #[.int .i64 5, .int .i64 3]] w (SampList w 3) := by
  go_enter Tryd.func99, Tryd.ntmps99
  go_wp2_with fail
  refine (sample_exact 3 _ (by decide) (by decide)).mono ?_
  rintro e w1 ⟨rfl, rfl⟩
  rw [show sampKd 3 = 3 from rfl, show sampDay 3 = 0 from rfl]
  unfold sampW
  rw [show sampKd 3 = 3 from rfl, show sampDay 3 = 0 from rfl]
  unfold sampC
  go_wp2
  refine bodyPost_ret (v := .agg (sampC 5 0 (.slice (some ⟨w.heap.size + 1 + 1 + 1 + 1 + 1 + 1, 0, none⟩) 1 1))) (by simp [results, Tryd.results99, go_sem]; rfl) rfl ⟨_, rfl, by simp, ?_, ?_⟩
  · exact (At.newAt (by simp) _ _).cell 0 rfl
  · exact (((((((RowKit.Below.refl _ _).alloc (Nat.le_refl _) _).alloc (by simp) _).alloc (by simp; omega) _).alloc (by simp; omega) _).alloc (by simp; omega) _).alloc (by simp; omega) _).alloc (by simp; omega) _

set_option maxHeartbeats 1000000 in
theorem sample_one4 (w : World) :
    Calls Tryd.prog 99 #[.agg #[.int .i64 5, .int .i64 4]] w (SampList w 4) := by
  go_enter Tryd.func99, Tryd.ntmps99
  go_wp2_with fail
  refine (sample_exact 4 _ (by decide) (by decide)).mono ?_
  rintro e w1 ⟨rfl, rfl⟩
  rw [show sampKd 4 = 4 from rfl, show sampDay 4 = 1 from rfl]
  unfold sampW
  rw [show sampKd 4 = 4 from rfl, show sampDay 4 = 1 from rfl]
  unfold sampC
  go_wp2
  refine bodyPost_ret (v := .agg (sampC 5 0 (.slice (some ⟨w.heap.size + 1 + 1 + 1 + 1 + 1 + 1, 0, none⟩) 1 1))) (by simp [results, Tryd.results99, go_sem]; rfl) rfl ⟨_, rfl, by simp, ?_, ?_⟩
  · exact (At.newAt (by simp) _ _).cell 0 rfl
  · exact (((((((RowKit.Below.refl _ _).alloc (Nat.le_refl _) _).alloc (by simp) _).alloc (by simp; omega) _).alloc (by simp; omega) _).alloc (by simp; omega) _).alloc (by simp; omega) _).alloc (by simp; omega) _

theorem sample_list (o : Int) (w : World) (h0 : 0 ≤ o) (h4 : o ≤ 4) :
    Calls Tryd.prog 99 #[.agg #[.int .i64 5, .int .i64 o]] w (SampList w o) := by
  have h : o = 0 ∨ o = 1 ∨ o = 2 ∨ o = 3 ∨ o = 4 := by omega
  rcases h with rfl | rfl | rfl | rfl | rfl
  · exact sample_any0 w
  · exact sample_one1 w
  · exact sample_one2 w
  · exact sample_one3 w
  · exact sample_one4 w
end Go.Proofs.YtpjcjgikfplgnaaDoor

namespace Go.Proofs.YtpjcjgikfplgnaaDoor
open Go.Shelf Go.RowKit Go.Sort
set_option linter.unusedVariables false
set_option maxRecDepth 100000

set_option maxHeartbeats 2000000 in
theorem fits_simple (kd day k' o' : Int) (w : World) (hkd : kd ≠ 0) :
    Calls Tryd.prog 98 #[.agg (sampC kd day (.slice none 0 0)), .agg #[.int .i64 k', .int .i64 o']] w fun e w' => e = .returned (.bool (decide (k' = 0 ∨ kd = k'))) ∧ RowKit.Below w.heap.size w w' := by
  unfold sampC
  have HB := Lib.hid (show RowKit.Below w.heap.size w ((w.alloc (.cells #[.int .i64 kd, .bool false, .bool false, .int .u64 0, .int .u64 0, .int .i64 0, .string ⟨#[]⟩, .int .i64 day, .slice none 0 0, .slice none 0 0] 146)).alloc (.cells #[.int .i64 k', .int .i64 o'] 25)) from ((RowKit.Below.refl _ _).alloc (Nat.le_refl _) _).alloc (by simp) _)
  have bd : (kd == 0) = false := beq_false_of_ne hkd
  by_cases h0 : k' = 0
  · have HV := Lib.hid (show decide (k' = 0 ∨ kd = k') = true from decide_eq_true (Or.inl h0))
    have b0 : (k' == 0) = true := beq_iff_eq.2 h0
    clear h0 hkd
    go_enter Tryd.func98, Tryd.ntmps98
    go_wp2
    go_ret
    exact ⟨ret_bool HV.out.symm, HB.out⟩
  · have b0 : (k' == 0) = false := beq_false_of_ne h0
    by_cases h1 : kd = k'
    · have HV := Lib.hid (show decide (k' = 0 ∨ kd = k') = true from decide_eq_true (Or.inr h1))
      have b1 : (kd != k') = false := by rw [h1]; simp
      clear h0 h1 hkd
      go_enter Tryd.func98, Tryd.ntmps98
      go_wp2
      go_loopw [5] (fun iv wr => iv = .int .i64 0 ∧ wr = (w.alloc (.cells #[.int .i64 kd, .bool false, .bool false, .int .u64 0, .int .u64 0, .int .i64 0, .string ⟨#[]⟩, .int .i64 day, .slice none 0 0, .slice none 0 0] 146)).alloc (.cells #[.int .i64 k', .int .i64 o'] 25)) (fun _ _ => 0)
      case atStart => exact ⟨rfl, rfl⟩
      case round =>
        obtain ⟨rfl, rfl⟩ := hrel
        by_cases ho : o' = 0
        · have b2 : (o' != 0) = false := by rw [ho]; rfl
          clear ho
          go_wp2
          go_ret
          exact ⟨ret_bool HV.out.symm, HB.out⟩
        · have b2 : (o' != 0) = true := by simp [ho]
          clear ho
          go_wp2
          go_ret
          exact ⟨ret_bool HV.out.symm, HB.out⟩
    · have HV := Lib.hid (show decide (k' = 0 ∨ kd = k') = false from decide_eq_false (by omega))
      have b1 : (kd != k') = true := by simp [h1]
      clear h0 h1 hkd
      go_enter Tryd.func98, Tryd.ntmps98
      go_wp2
      go_ret
      exact ⟨ret_bool HV.out.symm, HB.out⟩

/-- A sample of a list and a type, boxed. -/
def FitAt (w0 W : World) (g : Nat) (c k' o' : Int) : Prop := At W w0.heap.size 146 (sampC 5 0 (.slice (some ⟨g, 0, none⟩) 1 1)) ∧ At W (w0.heap.size + 1) 25 #[.int .i64 k', .int .i64 o'] ∧ W.cell? ⟨g, 0, none⟩ = some (.int .i64 c) ∧ RowKit.Below w0.heap.size w0 W
theorem FitAt.next {w0 W W' : World} {g : Nat} {c k' o' : Int} (h : FitAt w0 W g c k' o') (hg : g < w0.heap.size) (hb : RowKit.Below W.heap.size W W') : FitAt w0 W' g c k' o' :=
  ⟨h.1.below hb h.1.lt, h.2.1.below hb h.2.1.lt, (hb.cell (p := ⟨g, 0, none⟩) (Nat.lt_of_lt_of_le hg h.2.2.2.size)).trans h.2.2.1, h.2.2.2.trans (hb.mono h.2.2.2.size)⟩
theorem FitAt.start {w : World} {g : Nat} {c : Int} (k' o' : Int) (hg : g < w.heap.size) (hc : w.cell? ⟨g, 0, none⟩ = some (.int .i64 c)) : FitAt w ((w.alloc (.cells (sampC 5 0 (.slice (some ⟨g, 0, none⟩) 1 1)) 146)).alloc (.cells #[.int .i64 k', .int .i64 o'] 25)) g c k' o' := by
  have hb : RowKit.Below w.heap.size w ((w.alloc (.cells (sampC 5 0 (.slice (some ⟨g, 0, none⟩) 1 1)) 146)).alloc (.cells #[.int .i64 k', .int .i64 o'] 25)) := ((RowKit.Below.refl _ _).alloc (Nat.le_refl _) _).alloc (by simp) _
  exact ⟨(At.new w _ _).alloc _, At.new1 w _ _ _, (hb.cell (p := ⟨g, 0, none⟩) hg).trans hc, hb⟩

set_option maxHeartbeats 2000000 in
theorem fits_list (g : Nat) (c k' o' : Int) (w : World) (hg : g < w.heap.size) (hcell : w.cell? ⟨g, 0, none⟩ = some (.int .i64 c)) (hc : c ≠ 0) :
    Calls Tryd.prog 98 #[.agg (sampC 5 0 (.slice (some ⟨g, 0, none⟩) 1 1)), .agg #[.int .i64 k', .int .i64 o']] w fun e w' => e = .returned (.bool (decide (k' = 0 ∨ (k' = 5 ∧ (o' = 0 ∨ c = o'))))) ∧ RowKit.Below w.heap.size w w' := by
  have HF := Lib.hid (FitAt.start k' o' hg hcell)
  clear hcell
  have bc : (c != 0) = true := by simp [hc]
  obtain ⟨r, hr⟩ : ∃ r, decide (k' = 0 ∨ (k' = 5 ∧ (o' = 0 ∨ c = o'))) = r := ⟨_, rfl⟩
  rw [hr]
  unfold sampC
  by_cases h0 : k' = 0
  · have hr1 : r = true := by rw [← hr]; exact decide_eq_true (Or.inl h0)
    have b0 : (k' == 0) = true := beq_iff_eq.2 h0
    subst hr1
    clear h0 hc hr
    go_enter Tryd.func98, Tryd.ntmps98
    go_wp2
    go_ret
    exact ⟨rfl, HF.out.2.2.2⟩
  · have b0 : (k' == 0) = false := beq_false_of_ne h0
    by_cases h1 : k' = 5
    · have b1 : ((5 : Int) != k') = false := by rw [h1]; rfl
      have hr2 : r = decide (o' = 0 ∨ c = o') := by
        rw [← hr]
        apply decide_eq_decide.2
        omega
      clear h0 h1 hc hr
      have HR := Lib.hid hr2
      clear hr2
      go_enter Tryd.func98, Tryd.ntmps98
      go_wp2
      go_loopw [5] (fun iv wr => ∃ i : Nat, iv = .int .i64 i ∧ i ≤ 1 ∧ (i = 1 → c = o') ∧ Hid (FitAt w wr g c k' o')) (fun iv _ => 1 - (intOf iv).toNat)
      case atStart => exact ⟨0, rfl, by omega, fun h => by omega, HF⟩
      case round =>
        obtain ⟨i, rfl, hi, hio, HF1⟩ := hrel
        have k0 := HF1.out.1.cell 0 (v := .int .i64 5) rfl
        have k8 := HF1.out.1.cell 8 (v := .slice (some ⟨g, 0, none⟩) 1 1) rfl
        have t0 := HF1.out.2.1.cell 0 (v := .int .i64 k') rfl
        have t1 := HF1.out.2.1.cell 1 (v := .int .i64 o') rfl
        have kc := HF1.out.2.2.1
        by_cases ho : o' = 0
        · have b2 : (o' != 0) = false := by rw [ho]; rfl
          have hr1 : r = true := by rw [HR.out]; exact decide_eq_true (Or.inl ho)
          subst hr1
          clear ho
          go_wp2
          go_ret
          exact ⟨rfl, HF1.out.2.2.2⟩
        · have b2 : (o' != 0) = true := by simp [ho]
          by_cases hi0 : i = 0
          · subst hi0
            by_cases hco : c = o'
            · have b3 : (c != o') = false := by rw [hco]; simp
              have HC := Lib.hid hco
              clear ho hco hio
              go_wp2_with fail
              have q0 := cell_regrown k0
              have q8 := cell_regrown k8
              have s0 := cell_regrown t0
              have s1 := cell_regrown t1
              have qc := cell_regrown kc
              refine wp_region_quiet_below (by kernel_rfl) (by kernel_rfl) ?_
              repeat (any_goals (first | go_big_quiet_step (fail) | quiet_step (fail)))
              refine wpQuiet_nil ?_
              intro _ hw'
              obtain ⟨⟨dq, osq⟩, hw''⟩ := hw'
              subst hw''
              have HF2 := Lib.hid (HF1.out.next hg (below_regrown wr dq osq))
              clear q0 q8 s0 s1 qc k0 k8 t0 t1 kc
              generalize grow (redrawn wr dq) osq = W2 at HF2 ⊢
              go_wp2
              go_roundw
              case rel => exact ⟨1, by go_num, by omega, fun _ => HC.out, HF2⟩
              case measure => simp [intOf]
            · have b3 : (c != o') = true := by simp [hco]
              have hr1 : r = false := by rw [HR.out]; exact decide_eq_false (by omega)
              subst hr1
              clear ho hco hio
              go_wp2_with fail
              have q0 := cell_regrown k0
              have q8 := cell_regrown k8
              have s0 := cell_regrown t0
              have s1 := cell_regrown t1
              have qc := cell_regrown kc
              refine wp_region_quiet_below (by kernel_rfl) (by kernel_rfl) ?_
              repeat (any_goals (first | go_big_quiet_step (fail) | quiet_step (fail)))
              refine wpQuiet_nil ?_
              intro _ hw'
              obtain ⟨⟨dq, osq⟩, hw''⟩ := hw'
              subst hw''
              have HF2 := Lib.hid (HF1.out.next hg (below_regrown wr dq osq))
              clear q0 q8 s0 s1 qc k0 k8 t0 t1 kc
              generalize grow (redrawn wr dq) osq = W2 at HF2 ⊢
              go_wp2
              go_ret
              exact ⟨rfl, HF2.out.2.2.2⟩
          · have hi1 : i = 1 := by omega
            subst hi1
            have hr1 : r = true := by rw [HR.out]; exact decide_eq_true (Or.inr (hio rfl))
            subst hr1
            clear ho hio hi0
            go_wp2
            go_ret
            exact ⟨rfl, HF1.out.2.2.2⟩
    · have hr1 : r = false := by rw [← hr]; exact decide_eq_false (by omega)
      have b1 : ((5 : Int) != k') = true := by simp; omega
      subst hr1
      clear h0 h1 hc hr
      go_enter Tryd.func98, Tryd.ntmps98
      go_wp2
      go_ret
      exact ⟨rfl, HF.out.2.2.2⟩
end Go.Proofs.YtpjcjgikfplgnaaDoor

namespace Go.Proofs.YtpjcjgikfplgnaaDoor
open Go.Shelf Go.RowKit Go.Sort
set_option linter.unusedVariables false
set_option maxRecDepth 100000

theorem formB_iff (k o : Int) : formB k o = true ↔ (0 ≤ k ∧ k ≤ 4 ∧ o = 0) ∨ (k = 5 ∧ 0 ≤ o ∧ o ≤ 4) := by
  unfold formB tyN
  rw [decide_eq_true_eq]
  split
  · omega
  · split <;> omega

/-- A sample of a type: whatever comes later, Fits answers of it what lies under what. -/
def RSamp (k o : Int) (w : World) (e : Ending) (w' : World) : Prop := ∃ v, e = .returned v ∧ RowKit.Below w.heap.size w w' ∧
  ∀ (k' o' : Int) (W : World), RowKit.Below w'.heap.size w' W → formB k' o' = true → Calls Tryd.prog 98 #[v, .agg #[.int .i64 k', .int .i64 o']] W fun e w'' => e = .returned (.bool (underB k o k' o')) ∧ RowKit.Below W.heap.size W w''

theorem sample_fits (k o : Int) (w : World) (h : formB k o = true) :
    Calls Tryd.prog 99 #[.agg #[.int .i64 k, .int .i64 o]] w (RSamp k o w) := by
  rcases (formB_iff k o).1 h with ⟨h0, h4, rfl⟩ | ⟨rfl, h0, h4⟩
  · refine (sample_simple k w h0 h4).mono ?_
    rintro e w' ⟨rfl, hb⟩
    refine ⟨_, rfl, hb, fun k' o' W hW hf => ?_⟩
    refine (fits_simple (sampKd k) (sampDay k) k' o' W (by unfold sampKd; split <;> omega)).mono ?_
    rintro e w'' ⟨rfl, hb'⟩
    refine ⟨ret_bool ?_, hb'⟩
    have hf' := (formB_iff k' o').1 hf
    unfold underB
    apply decide_eq_decide.2
    unfold sampKd
    split <;> omega
  · refine (sample_list o w h0 h4).mono ?_
    rintro e w' ⟨g, rfl, hg, hc, hb⟩
    refine ⟨_, rfl, hb, fun k' o' W hW hf => ?_⟩
    refine (fits_list g (sampOf o) k' o' W (Nat.lt_of_lt_of_le hg hW.size) ((hW.cell (p := ⟨g, 0, none⟩) hg).trans hc) (by unfold sampOf; split <;> omega)).mono ?_
    rintro e w'' ⟨rfl, hb'⟩
    refine ⟨ret_bool ?_, hb'⟩
    have hf' := (formB_iff k' o').1 hf
    unfold underB
    apply decide_eq_decide.2
    unfold sampOf
    split <;> omega

set_option maxHeartbeats 2000000 in
theorem rUnder_any (k o k' o' : Int) (w : World) (h : formB k o = true) (h' : formB k' o' = true) :
    Calls Tryd.prog 89 #[.agg #[.int .i64 k, .int .i64 o], .agg #[.int .i64 k', .int .i64 o']] w fun e w' => e = .returned (.bool (underB k o k' o')) ∧ RowKit.Below w.heap.size w w' := by
  have HT := Lib.hid (Two.start w k o k' o')
  have H1 := Lib.hid h
  have H2 := Lib.hid h'
  clear h h'
  go_enter Tryd.func89, Tryd.ntmps89
  go_wp2_with fail
  generalize (w.alloc (.cells #[.int .i64 k, .int .i64 o] 25)).alloc (.cells #[.int .i64 k', .int .i64 o'] 25) = W0 at HT ⊢
  obtain ⟨k0, k1, k2, k3⟩ := HT.out.cells
  have HTd : Hid (Two w W0.drew k o k' o') := Lib.hid ⟨HT.out.1.drew, HT.out.2.1.drew, HT.out.2.2.drew⟩
  go_region_with (first
    | (go_at_call 99; refine (sample_fits k o _ H1.out).mono ?_; rintro e w1 ⟨v, rfl, hb, hv⟩; have HT1 := Lib.hid (Two.next (Hid.out HTd) hb); have HV := Lib.hid hv; obtain ⟨k0', k1', k2', k3'⟩ := HT1.out.cells; clear hb hv)
    | (go_at_call 98; refine (HV.out k' o' _ (RowKit.Below.refl _ _) H2.out).mono ?_; rintro e w2 ⟨rfl, hb⟩; have HT2 := Lib.hid (Two.next (Hid.out HT1) hb); clear hb))
  all_goals
    go_wp2_with fail
    go_ret
    exact ⟨rfl, HT2.out.2.2⟩
end Go.Proofs.YtpjcjgikfplgnaaDoor

namespace Go.Proofs.YtpjcjgikfplgnaaDoor
open Go.Shelf Go.RowKit Go.Sort
set_option linter.unusedVariables false
set_option maxRecDepth 100000

def meetB (k o k' o' : Int) : Bool := underB k o k' o' || underB k' o' k o

set_option maxHeartbeats 2000000 in
theorem meet_any (k o k' o' : Int) (w : World) (h : formB k o = true) (h' : formB k' o' = true) :
    Calls Tryd.prog 46 #[.agg #[.int .i64 k, .int .i64 o], .agg #[.int .i64 k', .int .i64 o']] w fun e w' => e = .returned (.bool (meetB k o k' o')) ∧ RowKit.Below w.heap.size w w' := by
  have HT := Lib.hid (Two.start w k o k' o')
  have HM := Lib.hid (show meetB k o k' o' = (underB k o k' o' || underB k' o' k o) from rfl)
  go_enter Tryd.func46, Tryd.ntmps46
  go_wp2_with fail
  generalize (w.alloc (.cells #[.int .i64 k, .int .i64 o] 25)).alloc (.cells #[.int .i64 k', .int .i64 o'] 25) = W0 at HT ⊢
  refine (kUnder_any k o k' o' _).mono ?_
  rintro e w1 ⟨rfl, hb⟩
  rw [underR_yes (by rw [h, h']; rfl)]
  have HT1 := Lib.hid (HT.out.next hb)
  obtain ⟨k0, k1, k2, k3⟩ := HT1.out.cells
  clear hb HT
  go_wp2_with fail
  refine (kUnder_any k' o' k o _).mono ?_
  rintro e w2 ⟨rfl, hb⟩
  rw [underR_yes (by rw [h, h']; rfl)]
  have HT2 := Lib.hid (HT1.out.next hb)
  clear hb HT1
  cases hu : underB k o k' o'
  · rw [hu] at HM
    go_wp2_with fail
    go_ret
    exact ⟨by rw [HM.out]; rfl, HT2.out.2.2⟩
  · rw [hu] at HM
    go_wp2_with fail
    go_ret
    exact ⟨by rw [HM.out]; rfl, HT2.out.2.2⟩

set_option maxHeartbeats 2000000 in
theorem rMeet_any (k o k' o' : Int) (w : World) (h : formB k o = true) (h' : formB k' o' = true) :
    Calls Tryd.prog 65 #[.agg #[.int .i64 k, .int .i64 o], .agg #[.int .i64 k', .int .i64 o']] w fun e w' => e = .returned (.bool (meetB k o k' o')) ∧ RowKit.Below w.heap.size w w' := by
  have HT := Lib.hid (Two.start w k o k' o')
  have HM := Lib.hid (show meetB k o k' o' = (underB k o k' o' || underB k' o' k o) from rfl)
  go_enter Tryd.func65, Tryd.ntmps65
  go_wp2_with fail
  generalize (w.alloc (.cells #[.int .i64 k, .int .i64 o] 25)).alloc (.cells #[.int .i64 k', .int .i64 o'] 25) = W0 at HT ⊢
  refine (rUnder_any k o k' o' _ h h').mono ?_
  rintro e w1 ⟨rfl, hb⟩
  have HT1 := Lib.hid (HT.out.next hb)
  obtain ⟨k0, k1, k2, k3⟩ := HT1.out.cells
  clear hb HT
  cases hu : underB k o k' o'
  · rw [hu] at HM
    go_wp2_with fail
    refine (rUnder_any k' o' k o _ h' h).mono ?_
    rintro e w2 ⟨rfl, hb⟩
    have HT2 := Lib.hid (HT1.out.next hb)
    clear hb HT1
    go_wp2_with fail
    go_ret
    exact ⟨by rw [HM.out]; rfl, HT2.out.2.2⟩
  · rw [hu] at HM
    go_wp2_with fail
    go_ret
    exact ⟨by rw [HM.out]; rfl, HT1.out.2.2⟩
end Go.Proofs.YtpjcjgikfplgnaaDoor

namespace Go.Proofs.YtpjcjgikfplgnaaDoor
open Go.Shelf Go.RowKit Go.Sort
set_option linter.unusedVariables false
set_option maxRecDepth 100000

/-- The least type above both. -/
def joinT (k o k' o' : Int) : Int × Int := if underB k o k' o' then (k', o') else if underB k' o' k o then (k, o) else if k = 5 ∧ k' = 5 then (5, 0) else (0, 0)

/-- Two boxed types and a third block for the answer. -/
def Three (w0 W : World) (k o k' o' : Int) : Prop := At W w0.heap.size 25 #[.int .i64 k, .int .i64 o] ∧ At W (w0.heap.size + 1) 25 #[.int .i64 k', .int .i64 o'] ∧ At W (w0.heap.size + 2) 25 #[.int .i64 0, .int .i64 0] ∧ RowKit.Below w0.heap.size w0 W
theorem Three.start (w : World) (k o k' o' : Int) : Three w (((w.alloc (.cells #[.int .i64 k, .int .i64 o] 25)).alloc (.cells #[.int .i64 k', .int .i64 o'] 25)).alloc (.cells #[.int .i64 0, .int .i64 0] 25)) k o k' o' :=
  ⟨((At.new w _ _).alloc _).alloc _, (At.new1 w _ _ _).alloc _, At.new2 w _ _ _ _, (((RowKit.Below.refl _ _).alloc (Nat.le_refl _) _).alloc (by simp) _).alloc (by simp; omega) _⟩
theorem Three.next {w0 W W' : World} {k o k' o' : Int} (h : Three w0 W k o k' o') (hb : RowKit.Below W.heap.size W W') : Three w0 W' k o k' o' :=
  ⟨h.1.below hb h.1.lt, h.2.1.below hb h.2.1.lt, h.2.2.1.below hb h.2.2.1.lt, h.2.2.2.trans (hb.mono h.2.2.2.size)⟩
theorem Three.cells {w0 W : World} {k o k' o' : Int} (h : Three w0 W k o k' o') : W.cell? ⟨w0.heap.size, 0, none⟩ = some (.int .i64 k) ∧ W.cell? ⟨w0.heap.size, 1, none⟩ = some (.int .i64 o) ∧ W.cell? ⟨w0.heap.size + 1, 0, none⟩ = some (.int .i64 k') ∧ W.cell? ⟨w0.heap.size + 1, 1, none⟩ = some (.int .i64 o') ∧ W.cell? ⟨w0.heap.size + 1 + 1, 0, none⟩ = some (.int .i64 0) ∧ W.cell? ⟨w0.heap.size + 1 + 1, 1, none⟩ = some (.int .i64 0) ∧ W.frozen? ⟨w0.heap.size + 1 + 1, 0, none⟩ = false ∧ W.frozen? ⟨w0.heap.size + 1 + 1, 1, none⟩ = false :=
  ⟨h.1.cell 0 rfl, h.1.cell 1 rfl, h.2.1.cell 0 rfl, h.2.1.cell 1 rfl, h.2.2.1.cell 0 rfl, h.2.2.1.cell 1 rfl, h.2.2.1.free 0, h.2.2.1.free 1⟩

set_option maxHeartbeats 2000000 in
theorem kJoin_any (k o k' o' : Int) (w : World) (h : formB k o = true) (h' : formB k' o' = true) :
    Calls Tryd.prog 84 #[.agg #[.int .i64 k, .int .i64 o], .agg #[.int .i64 k', .int .i64 o']] w fun e w' => e = .returned (.tuple #[.agg #[.int .i64 (joinT k o k' o').1, .int .i64 (joinT k o k' o').2], .int .i64 0]) ∧ RowKit.Below w.heap.size w w' := by
  have HT := Lib.hid (Three.start w k o k' o')
  obtain ⟨j, hj⟩ : ∃ j, joinT k o k' o' = j := ⟨_, rfl⟩
  rw [hj]
  have HJ := Lib.hid hj
  clear hj
  go_enter Tryd.func84, Tryd.ntmps84
  go_wp2_with fail
  generalize ((w.alloc (.cells #[.int .i64 k, .int .i64 o] 25)).alloc (.cells #[.int .i64 k', .int .i64 o'] 25)).alloc (.cells #[.int .i64 0, .int .i64 0] 25) = W0 at HT ⊢
  refine (kForm_any k o _).mono ?_
  rintro e w1 ⟨rfl, hb⟩
  rw [h]
  have HT1 := Lib.hid (HT.out.next hb)
  obtain ⟨k0, k1, k2, k3, -⟩ := HT1.out.cells
  clear hb HT
  go_wp2_with fail
  refine (kForm_any k' o' _).mono ?_
  rintro e w2 ⟨rfl, hb⟩
  rw [h']
  have HT2 := Lib.hid (HT1.out.next hb)
  clear hb HT1 k0 k1 k2 k3
  obtain ⟨k0, k1, k2, k3, -⟩ := HT2.out.cells
  go_wp2_with fail
  refine (under_any k o k' o' _).mono ?_
  rintro e w3 ⟨rfl, hb⟩
  have HT3 := Lib.hid (HT2.out.next hb)
  clear hb HT2 k0 k1 k2 k3
  obtain ⟨k0, k1, k2, k3, r0, r1, f0, f1⟩ := HT3.out.cells
  cases hu : underB k o k' o'
  · go_wp2_with fail
    refine (under_any k' o' k o _).mono ?_
    rintro e w4 ⟨rfl, hb⟩
    have HT4 := Lib.hid (HT3.out.next hb)
    clear hb HT3 k0 k1 k2 k3 r0 r1 f0 f1
    obtain ⟨k0, k1, k2, k3, r0, r1, f0, f1⟩ := HT4.out.cells
    cases hv : underB k' o' k o
    · by_cases h5 : k = 5
      · have b5 : (k == 5) = true := beq_iff_eq.2 h5
        by_cases h6 : k' = 5
        · have b6 : (k' == 5) = true := beq_iff_eq.2 h6
          have HE := Lib.hid (show j = (5, 0) by rw [← HJ.out]; unfold joinT; rw [hu, hv, if_pos (c := k = 5 ∧ k' = 5) ⟨h5, h6⟩]; rfl)
          clear h5 h6
          go_wp2_with fail
          refine bodyPost_ret (v := .tuple #[.agg #[.int .i64 5, .int .i64 0], .int .i64 0]) (by simp [results, Tryd.results84, go_sem, r0, r1]) rfl ⟨by rw [HE.out], ?_⟩
          exact (HT4.out.2.2.2.setCell (p := ⟨w.heap.size + 1 + 1, 0, none⟩) (by simp; omega) _).setCell (p := ⟨w.heap.size + 1 + 1, 1, none⟩) (by simp; omega) _
        · have b6 : (k' == 5) = false := beq_false_of_ne h6
          have HE := Lib.hid (show j = (0, 0) by rw [← HJ.out]; unfold joinT; rw [hu, hv, if_neg (c := k = 5 ∧ k' = 5) (fun x => h6 x.2)]; rfl)
          clear h5 h6
          go_wp2_with fail
          refine bodyPost_ret (v := .tuple #[.agg #[.int .i64 0, .int .i64 0], .int .i64 0]) (by simp [results, Tryd.results84, go_sem, r0, r1]) rfl ⟨by rw [HE.out], ?_⟩
          exact (HT4.out.2.2.2.setCell (p := ⟨w.heap.size + 1 + 1, 0, none⟩) (by simp; omega) _).setCell (p := ⟨w.heap.size + 1 + 1, 1, none⟩) (by simp; omega) _
      · have b5 : (k == 5) = false := beq_false_of_ne h5
        have HE := Lib.hid (show j = (0, 0) by rw [← HJ.out]; unfold joinT; rw [hu, hv, if_neg (c := k = 5 ∧ k' = 5) (fun x => h5 x.1)]; rfl)
        clear h5
        go_wp2_with fail
        refine bodyPost_ret (v := .tuple #[.agg #[.int .i64 0, .int .i64 0], .int .i64 0]) (by simp [results, Tryd.results84, go_sem, r0, r1]) rfl ⟨by rw [HE.out], ?_⟩
        exact (HT4.out.2.2.2.setCell (p := ⟨w.heap.size + 1 + 1, 0, none⟩) (by simp; omega) _).setCell (p := ⟨w.heap.size + 1 + 1, 1, none⟩) (by simp; omega) _
    · have HE := Lib.hid (show j = (k, o) by rw [← HJ.out]; unfold joinT; rw [hu, hv]; rfl)
      go_wp2_with fail
      refine bodyPost_ret (v := .tuple #[.agg #[.int .i64 k, .int .i64 o], .int .i64 0]) (by simp [results, Tryd.results84, go_sem, r0, r1]) rfl ⟨by rw [HE.out], ?_⟩
      exact (HT4.out.2.2.2.setCell (p := ⟨w.heap.size + 1 + 1, 0, none⟩) (by simp; omega) _).setCell (p := ⟨w.heap.size + 1 + 1, 1, none⟩) (by simp; omega) _
  · have HE := Lib.hid (show j = (k', o') by rw [← HJ.out]; unfold joinT; rw [hu]; rfl)
    go_wp2_with fail
    refine bodyPost_ret (v := .tuple #[.agg #[.int .i64 k', .int .i64 o'], .int .i64 0]) (by simp [results, Tryd.results84, go_sem, r0, r1]) rfl ⟨by rw [HE.out], ?_⟩
    exact (HT3.out.2.2.2.setCell (p := ⟨w.heap.size + 1 + 1, 0, none⟩) (by simp; omega) _).setCell (p := ⟨w.heap.size + 1 + 1, 1, none⟩) (by simp; omega) _
end Go.Proofs.YtpjcjgikfplgnaaDoor

namespace Go.Proofs.YtpjcjgikfplgnaaDoor
open Go.Shelf Go.RowKit Go.Sort
set_option linter.unusedVariables false
set_option maxRecDepth 100000

/-- The i-th of the ten types. -/
def tyK (i : Nat) : Int := if i < 5 then i else 5
def tyO (i : Nat) : Int := if i < 5 then 0 else (i : Int) - 5
theorem ty_form (i : Nat) (h : i < 10) : formB (tyK i) (tyO i) = true := by
  rw [formB_iff]
  unfold tyK tyO
  split <;> omega
/-- What the reference's loop has come to after i rounds. -/
def joinF (k o k' o' : Int) : Nat → Int × Int
  | 0 => (0, 0)
  | i + 1 => if underB k o (tyK i) (tyO i) && underB k' o' (tyK i) (tyO i) && underB (tyK i) (tyO i) (joinF k o k' o' i).1 (joinF k o k' o' i).2 then (tyK i, tyO i) else joinF k o k' o' i
theorem ty_ten {k o : Int} (h : formB k o = true) : ∃ i, i < 10 ∧ k = tyK i ∧ o = tyO i := by
  rcases (formB_iff k o).1 h with ⟨h0, h4, rfl⟩ | ⟨rfl, h0, h4⟩
  · refine ⟨k.toNat, by omega, ?_, ?_⟩ <;> (try unfold tyK) <;> (try unfold tyO) <;> split <;> omega
  · refine ⟨(o + 5).toNat, by omega, ?_, ?_⟩ <;> (try unfold tyK) <;> (try unfold tyO) <;> split <;> omega
theorem joinF_ten : ∀ i, i < 10 → ∀ j, j < 10 → joinF (tyK i) (tyO i) (tyK j) (tyO j) 10 = joinT (tyK i) (tyO i) (tyK j) (tyO j) := by decide
theorem joinF_eq {k o k' o' : Int} (h : formB k o = true) (h' : formB k' o' = true) : joinF k o k' o' 10 = joinT k o k' o' := by
  obtain ⟨i, hi, rfl, rfl⟩ := ty_ten h
  obtain ⟨j, hj, rfl, rfl⟩ := ty_ten h'
  exact joinF_ten i hi j hj
theorem joinF_form (k o k' o' : Int) (i : Nat) (hi : i ≤ 10) : formB (joinF k o k' o' i).1 (joinF k o k' o' i).2 = true := by
  induction i with
  | zero => rfl
  | succ i ih =>
    unfold joinF
    split
    · exact ty_form i (by omega)
    · exact ih (by omega)

set_option maxHeartbeats 1000000 in
theorem of_ten (i : Nat) (w : World) (hi : i < 10) :
    Calls Tryd.prog 93 #[.int .i64 i] w fun e w' => e = .returned (.agg #[.int .i64 (tyK i), .int .i64 (tyO i)]) ∧ RowKit.Below w.heap.size w w' := by
  have HB := Lib.hid ((RowKit.Below.refl _ w).alloc (Nat.le_refl _) (.cells #[.int .i64 0, .int .i64 0] 25))
  by_cases h5 : i < 5
  · have HK := Lib.hid (show tyK i = i by unfold tyK; rw [if_pos h5])
    have HO := Lib.hid (show tyO i = 0 by unfold tyO; rw [if_pos h5])
    go_enter Tryd.func93, Tryd.ntmps93
    go_wp2
    refine bodyPost_ret (v := .agg #[.int .i64 i, .int .i64 0]) (by simp [results, Tryd.results93, go_sem]) rfl ⟨by rw [HK.out, HO.out], ?_⟩
    exact (RowKit.Below.refl _ _).alloc (Nat.le_refl _) _
  · have HK := Lib.hid (show tyK i = 5 by unfold tyK; rw [if_neg h5])
    have HO := Lib.hid (show tyO i = (i : Int) - 5 by unfold tyO; rw [if_neg h5])
    go_enter Tryd.func93, Tryd.ntmps93
    go_wp2
    refine bodyPost_ret (v := .agg #[.int .i64 5, .int .i64 ((i : Int) - 5)]) (by simp [results, Tryd.results93, go_sem]) rfl ⟨by rw [HK.out, HO.out], ?_⟩
    exact (RowKit.Below.refl _ _).alloc (Nat.le_refl _) _
end Go.Proofs.YtpjcjgikfplgnaaDoor
