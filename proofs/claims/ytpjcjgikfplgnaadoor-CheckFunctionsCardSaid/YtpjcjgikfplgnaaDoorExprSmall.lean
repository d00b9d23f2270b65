/- The functions of a node's operation alone: arity, kids, sortOf, sort, wanted, wants. -/
import Derived.Test.YtpjcjgikfplgnaaDoorShelf
import Derived.Test.YtpjcjgikfplgnaaDoorSepA
import Derived.BigQuiet
import Derived.Deep.QuietTactic
import Derived.IntWalk
import Derived.Laws.BitsAllLaws
namespace Go.Proofs.YtpjcjgikfplgnaaDoor
open Go.RowKit
set_option linter.unusedVariables false
set_option maxRecDepth 100000

theorem op_cases (op : Int) : op = 1 ∨ op = 2 ∨ op = 3 ∨ op = 4 ∨ op = 5 ∨ op = 6 ∨ op = 7 ∨ op = 8 ∨ op = 9 ∨ op = 10 ∨ op = 11 ∨ op = 12 ∨ op = 13 ∨ op = 14 ∨ op = 15 ∨ op = 16 ∨ op = 17 ∨ op = 18 ∨ op = 19 ∨ op = 20 ∨ op = 21 ∨ op = 22 ∨ op = 23 ∨ op = 24 ∨ op = 25 ∨ op = 26 ∨ op = 27 ∨ op = 28 ∨ op = 29 ∨ op = 30 ∨ op = 31 ∨ op = 32 ∨ op = 33 ∨ op = 34 ∨ op = 35 ∨ op = 36 ∨ op = 37 ∨ (op < 1 ∨ 37 < op) := by omega

/-- The least and the greatest count of parts. -/
def arI (op : Int) : Int × Int :=
  if (1 ≤ op ∧ op ≤ 7) ∨ op = 29 then (0, 0)
  else if op = 8 ∨ op = 24 ∨ op = 28 ∨ (30 ≤ op ∧ op ≤ 34) ∨ op = 37 then (1, 1)
  else if (9 ≤ op ∧ op ≤ 20) ∨ op = 23 ∨ op = 35 then (2, 2)
  else if op = 21 ∨ op = 22 then (3, 3)
  else if op = 25 then (0, 8)
  else if op = 26 ∨ op = 27 then (0, -1)
  else if op = 36 then (1, -1)
  else (0, -2)
theorem arI_none {op : Int} (h : op < 1 ∨ 37 < op) : arI op = (0, -2) := by
  unfold arI
  rw [if_neg (by omega), if_neg (by omega), if_neg (by omega), if_neg (by omega), if_neg (by omega), if_neg (by omega), if_neg (by omega)]
def kidsB (op n : Int) : Bool := decide ((arI op).2 ≠ -2 ∧ (arI op).1 ≤ n ∧ ((arI op).2 = -1 ∨ n ≤ (arI op).2))
theorem kidsB_none {op n : Int} (h : op < 1 ∨ 37 < op) : kidsB op n = false := by unfold kidsB; rw [arI_none h]; exact decide_eq_false (fun x => x.1 rfl)
theorem kidsB_op {op n : Int} (h : kidsB op n = true) : 1 ≤ op ∧ op ≤ 37 := by
  by_cases h1 : op < 1 ∨ 37 < op
  · rw [kidsB_none h1] at h; cases h
  · omega
def sortI (op : Int) : Int := if op ≤ 27 then 1 else if op = 28 then 2 else if 30 ≤ op ∧ op ≤ 35 then 3 else if op = 36 then 4 else 5
def wantI (op i : Int) : Int := if op = 27 then 2 else if op = 36 then 3 else if op = 37 ∨ op = 23 ∧ i = 1 then 4 else 1
theorem pair_eq {p : Int × Int} {a b : Int} (h : p = (a, b)) : Ending.returned (.tuple #[.int .i64 a, .int .i64 b]) = .returned (.tuple #[.int .i64 p.1, .int .i64 p.2]) := by subst h; rfl

set_option maxHeartbeats 8000000 in
theorem arity_any (op : Int) (w : World) :
    Calls Tryd.prog 61 #[.int .i64 op] w fun e w' => e = .returned (.tuple #[.int .i64 (arI op).1, .int .i64 (arI op).2]) ∧ w = w' := by
  rcases op_cases op with rfl | rfl | rfl | rfl | rfl | rfl | rfl | rfl | rfl | rfl | rfl | rfl | rfl | rfl | rfl | rfl | rfl | rfl | rfl | rfl | rfl | rfl | rfl | rfl | rfl | rfl | rfl | rfl | rfl | rfl | rfl | rfl | rfl | rfl | rfl | rfl | rfl | h
  all_goals first
    | (go_enter Tryd.func61, Tryd.ntmps61
       go_wp2
       go_ret2
       exact ⟨pair_eq rfl, rfl⟩)
    | (have HN := Lib.hid (arI_none h)
       rcases h with h | h <;>
       (go_enter Tryd.func61, Tryd.ntmps61
        go_wp2
        go_ret2
        exact ⟨pair_eq HN.out, rfl⟩))

set_option maxHeartbeats 16000000 in
theorem kids_any (op n : Int) (w : World) :
    Calls Tryd.prog 50 #[.int .i64 op, .int .i64 n] w fun e w' => e = .returned (.bool (kidsB op n)) ∧ w = w' := by
  have HK := Lib.hid (show ∀ op : Int, kidsB op n = decide ((arI op).2 ≠ -2 ∧ (arI op).1 ≤ n ∧ ((arI op).2 = -1 ∨ n ≤ (arI op).2)) from fun _ => rfl)
  rcases op_cases op with rfl | rfl | rfl | rfl | rfl | rfl | rfl | rfl | rfl | rfl | rfl | rfl | rfl | rfl | rfl | rfl | rfl | rfl | rfl | rfl | rfl | rfl | rfl | rfl | rfl | rfl | rfl | rfl | rfl | rfl | rfl | rfl | rfl | rfl | rfl | rfl | rfl | h
  all_goals first
    | (go_enter Tryd.func50, Tryd.ntmps50
       go_wp2
       go_ret
       refine ⟨ret_bool ?_, rfl⟩
       rw [HK.out, Bool.eq_iff_iff]
       simp only [decide_eq_true_eq, beq_iff_eq, arI]
       first | omega | (simp; done) | (simp; omega)
       done)
    | (have HN := Lib.hid (kidsB_none (n := n) h)
       have hb : (decide (1 ≤ op) = false ∧ decide (28 ≤ op) = false ∧ decide (9 ≤ op) = false) ∨ (decide (1 ≤ op) = true ∧ decide (28 ≤ op) = true ∧ decide (9 ≤ op) = true ∧ decide (op ≤ 7) = false ∧ decide (op ≤ 34) = false ∧ decide (op ≤ 20) = false) := by
         simp only [decide_eq_true_eq, decide_eq_false_iff_not]; omega
       have e8 : (op == 8) = false := beq_false_of_ne (by omega)
       have e24 : (op == 24) = false := beq_false_of_ne (by omega)
       have e29 : (op == 29) = false := beq_false_of_ne (by omega)
       have e37 : (op == 37) = false := beq_false_of_ne (by omega)
       have e23 : (op == 23) = false := beq_false_of_ne (by omega)
       have e35 : (op == 35) = false := beq_false_of_ne (by omega)
       have e21 : (op == 21) = false := beq_false_of_ne (by omega)
       have e22 : (op == 22) = false := beq_false_of_ne (by omega)
       have e25 : (op == 25) = false := beq_false_of_ne (by omega)
       have e26 : (op == 26) = false := beq_false_of_ne (by omega)
       have e27 : (op == 27) = false := beq_false_of_ne (by omega)
       have e36 : (op == 36) = false := beq_false_of_ne (by omega)
       clear h
       rcases hb with ⟨b1, b2, b3⟩ | ⟨b1, b2, b3, b4, b5, b6⟩ <;>
       (go_enter Tryd.func50, Tryd.ntmps50
        go_wp2
        go_ret
        exact ⟨ret_bool HN.out.symm, rfl⟩))
    | (have hb : (decide (0 ≤ n) = false ∧ kidsB 25 n = false) ∨ (decide (0 ≤ n) = true ∧ ∃ b, decide (n ≤ 8) = b ∧ kidsB 25 n = b) := by
         by_cases h0 : 0 ≤ n
         · right
           refine ⟨decide_eq_true h0, _, rfl, ?_⟩
           simp [kidsB, arI, h0]
         · left
           refine ⟨decide_eq_false h0, ?_⟩
           simp [kidsB, arI, h0]
       rcases hb with ⟨b1, hv⟩ | ⟨b1, b, b2, hv⟩ <;>
       (have HV := Lib.hid hv
        clear hv
        go_enter Tryd.func50, Tryd.ntmps50
        go_wp2
        go_ret
        exact ⟨ret_bool HV.out.symm, rfl⟩))

set_option maxHeartbeats 8000000 in
theorem sortOf_any (op : Int) (w : World) (h1 : 1 ≤ op) (h2 : op ≤ 37) :
    Calls Tryd.prog 42 #[.int .i64 op] w fun e w' => e = .returned (.int .i64 (sortI op)) ∧ w = w' := by
  rcases op_cases op with rfl | rfl | rfl | rfl | rfl | rfl | rfl | rfl | rfl | rfl | rfl | rfl | rfl | rfl | rfl | rfl | rfl | rfl | rfl | rfl | rfl | rfl | rfl | rfl | rfl | rfl | rfl | rfl | rfl | rfl | rfl | rfl | rfl | rfl | rfl | rfl | rfl | h
  all_goals first
    | omega
    | (clear h1 h2
       go_enter Tryd.func42, Tryd.ntmps42
       go_wp2
       go_ret
       exact ⟨rfl, rfl⟩)

set_option maxHeartbeats 8000000 in
theorem rsort_any (op : Int) (w : World) (h1 : 1 ≤ op) (h2 : op ≤ 37) :
    Calls Tryd.prog 33 #[.int .i64 op] w fun e w' => e = .returned (.int .i64 (sortI op)) ∧ w = w' := by
  rcases op_cases op with rfl | rfl | rfl | rfl | rfl | rfl | rfl | rfl | rfl | rfl | rfl | rfl | rfl | rfl | rfl | rfl | rfl | rfl | rfl | rfl | rfl | rfl | rfl | rfl | rfl | rfl | rfl | rfl | rfl | rfl | rfl | rfl | rfl | rfl | rfl | rfl | rfl | h
  all_goals first
    | omega
    | (clear h1 h2
       go_enter Tryd.func33, Tryd.ntmps33
       go_wp2
       go_ret
       exact ⟨rfl, rfl⟩)

set_option maxHeartbeats 8000000 in
theorem wanted_any (op i : Int) (w : World) (h1 : 1 ≤ op) (h2 : op ≤ 37) :
    Calls Tryd.prog 40 #[.int .i64 op, .int .i64 i] w fun e w' => e = .returned (.int .i64 (wantI op i)) ∧ w = w' := by
  have hi : i = 1 ∨ (i == 1) = false := by by_cases h : i = 1; exact Or.inl h; exact Or.inr (beq_false_of_ne h)
  rcases op_cases op with rfl | rfl | rfl | rfl | rfl | rfl | rfl | rfl | rfl | rfl | rfl | rfl | rfl | rfl | rfl | rfl | rfl | rfl | rfl | rfl | rfl | rfl | rfl | rfl | rfl | rfl | rfl | rfl | rfl | rfl | rfl | rfl | rfl | rfl | rfl | rfl | rfl | h
  all_goals first
    | omega
    | (clear h1 h2
       rcases hi with rfl | hi <;>
       (go_enter Tryd.func40, Tryd.ntmps40
        go_wp2
        go_ret
        refine ⟨ret_i64 ?_, rfl⟩
        first | rfl | (have := ne_of_beq_false hi; simp [wantI]; done) | (have := ne_of_beq_false hi; simp [wantI, this])))

set_option maxHeartbeats 8000000 in
theorem wants_any (op i : Int) (w : World) (h1 : 1 ≤ op) (h2 : op ≤ 37) :
    Calls Tryd.prog 34 #[.int .i64 op, .int .i64 i] w fun e w' => e = .returned (.int .i64 (wantI op i)) ∧ w = w' := by
  have hi : i = 1 ∨ (i == 1) = false := by by_cases h : i = 1; exact Or.inl h; exact Or.inr (beq_false_of_ne h)
  rcases op_cases op with rfl | rfl | rfl | rfl | rfl | rfl | rfl | rfl | rfl | rfl | rfl | rfl | rfl | rfl | rfl | rfl | rfl | rfl | rfl | rfl | rfl | rfl | rfl | rfl | rfl | rfl | rfl | rfl | rfl | rfl | rfl | rfl | rfl | rfl | rfl | rfl | rfl | h
  all_goals first
    | omega
    | (clear h1 h2
       rcases hi with rfl | hi <;>
       (go_enter Tryd.func34, Tryd.ntmps34
        go_wp2
        go_ret
        refine ⟨ret_i64 ?_, rfl⟩
        first | rfl | (have := ne_of_beq_false hi; simp [wantI]; done) | (have := ne_of_beq_false hi; simp [wantI, this])))
end Go.Proofs.YtpjcjgikfplgnaaDoor
