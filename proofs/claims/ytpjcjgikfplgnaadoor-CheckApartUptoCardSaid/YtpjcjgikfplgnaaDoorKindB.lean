/- The reference's Join; ordered of both; of types in form. ordered of both, of types in form. -/
import Derived.Test.YtpjcjgikfplgnaaDoorKindA
import Derived.Test.YtpjcjgikfplgnaaDoorTypes
namespace Go.Proofs.YtpjcjgikfplgnaaDoor
open Go.Shelf Go.RowKit Go.Sort
set_option linter.unusedVariables false
set_option linter.unusedSimpArgs false
set_option maxRecDepth 100000

def typV (p : Int × Int) : Value := .agg #[.int .i64 p.1, .int .i64 p.2]
def typL (p : Int × Int) : List Value := [.int .i64 p.1, .int .i64 p.2]
/-- The test of the reference's Join. -/
def joinC (k o k' o' : Int) (i : Nat) : Bool := underB k o (tyK i) (tyO i) && underB k' o' (tyK i) (tyO i) && underB (tyK i) (tyO i) (joinF k o k' o' i).1 (joinF k o k' o' i).2
theorem joinF_step (k o k' o' : Int) (i : Nat) : joinF k o k' o' (i + 1) = if joinC k o k' o' i then (tyK i, tyO i) else joinF k o k' o' i := rfl

set_option maxHeartbeats 2000000 in
theorem rJoin_any (k o k' o' : Int) (w : World) (h : formB k o = true) (h' : formB k' o' = true) :
    Calls Tryd.prog 71 #[.agg #[.int .i64 k, .int .i64 o], .agg #[.int .i64 k', .int .i64 o']] w fun e w' => e = .returned (.agg #[.int .i64 (joinT k o k' o').1, .int .i64 (joinT k o k' o').2]) ∧ RowKit.Below w.heap.size w w' := by
  rw [← joinF_eq h h']
  have HM := Lib.hid (Mem.start w)
  have H1 := Lib.hid h
  have H2 := Lib.hid h'
  have HF := Lib.hid (fun i (hi : i ≤ 10) => joinF_form k o k' o' i hi)
  clear h h'
  go_enter Tryd.func71, Tryd.ntmps71
  go_wp2_with (first | ((with_reducible refine iload ?_); first | refine ldbW HM.out 0 rfl rfl rfl ?_ | refine ldbW HM.out 1 rfl rfl rfl ?_ | refine ldbW HM.out 2 rfl rfl rfl ?_ | refine ldbW HM.out 3 rfl rfl rfl ?_ | ((first | refine ldbS HM.out 0 rfl rfl rfl ?_ | refine ldbS HM.out 1 rfl rfl rfl ?_ | refine ldbS HM.out 2 rfl rfl rfl ?_ | refine ldbS HM.out 3 rfl rfl rfl ?_); simp only [List.take, List.drop])) | ((with_reducible refine istore ?_); (first | ((first | refine stbW rfl HM.out 0 rfl rfl rfl rfl rfl rfl ?_ | refine stbW rfl HM.out 1 rfl rfl rfl rfl rfl rfl ?_ | refine stbW rfl HM.out 2 rfl rfl rfl rfl rfl rfl ?_ | refine stbW rfl HM.out 3 rfl rfl rfl rfl rfl rfl ?_); intro W1 HM1; replace HM := Lib.hid HM1; clear HM1; simp only [List.set] at HM) | ((first | refine stbS rfl HM.out 0 rfl rfl rfl rfl rfl rfl ?_ | refine stbS rfl HM.out 1 rfl rfl rfl rfl rfl rfl ?_ | refine stbS rfl HM.out 2 rfl rfl rfl rfl rfl rfl ?_ | refine stbS rfl HM.out 3 rfl rfl rfl rfl rfl rfl ?_); intro W1 HM1; replace HM := Lib.hid HM1; clear HM1; simp only [lss, Nat.reduceAdd] at HM))) | ((with_reducible refine ibox (d := some 2) ?_); refine bxA rfl HM.out rfl ?_; intro g2 W1 HM1; replace HM := Lib.hid HM1; clear HM1) | ((with_reducible refine ibox (d := some 3) ?_); refine bxA rfl HM.out rfl ?_; intro g3 W1 HM1; replace HM := Lib.hid HM1; clear HM1) | ((with_reducible refine ialloc (d := some 4) ?_); refine alb rfl HM.out ?_; intro g4 W1 HM1; replace HM := Lib.hid HM1; clear HM1) | ((with_reducible refine ialloc (d := some 5) ?_); refine alb rfl HM.out ?_; intro g5 W1 HM1; replace HM := Lib.hid HM1; clear HM1) | ((with_reducible refine ialloc (d := some 7) ?_); refine alb rfl HM.out ?_; intro g7 W1 HM1; replace HM := Lib.hid HM1; clear HM1))
  go_loopw [6] (fun iv wr => ∃ i : Nat, iv = .int .i64 i ∧ i ≤ 10 ∧ Hid (Mem w wr [.box g5 25 (typL (joinF k o k' o' i)), .box g4 25 [.int .i64 0, .int .i64 0], .box g3 25 [.int .i64 k', .int .i64 o'], .box g2 25 [.int .i64 k, .int .i64 o]])) (fun iv _ => 10 - (intOf iv).toNat)
  case atStart => exact ⟨0, rfl, by omega, HM⟩
  case round =>
    clear HM
    obtain ⟨i, rfl, hi, HM⟩ := hrel
    by_cases hlt : i < 10
    · have hF := HF.out i hi
      have hG := Lib.hid (ty_form i hlt)
      have HS := joinF_step k o k' o' i
      unfold joinC at HS
      generalize joinF k o k' o' i = j at HM HS hF
      obtain ⟨jk, jo⟩ := j
      unfold typL at HM
      have hF' := Lib.hid hF
      have HS' := Lib.hid HS
      clear hF HS
      generalize hu1 : underB k o (tyK i) (tyO i) = u1 at HS'
      generalize hu2 : underB k' o' (tyK i) (tyO i) = u2 at HS'
      generalize hu3 : underB (tyK i) (tyO i) jk jo = u3 at HS'
      have U1 := Lib.hid hu1
      have U2 := Lib.hid hu2
      have U3 := Lib.hid hu3
      clear hu1 hu2 hu3
      have hc : u1 = false ∨ (u1 = true ∧ u2 = false) ∨ (u1 = true ∧ u2 = true ∧ u3 = false) ∨ (u1 = true ∧ u2 = true ∧ u3 = true) := by cases u1 <;> cases u2 <;> cases u3 <;> simp
      rcases hc with rfl | ⟨rfl, rfl⟩ | ⟨rfl, rfl, rfl⟩ | ⟨rfl, rfl, rfl⟩
      all_goals
        go_wp2_with (first | ((with_reducible refine iload ?_); first | refine ldbW HM.out 0 rfl rfl rfl ?_ | refine ldbW HM.out 1 rfl rfl rfl ?_ | refine ldbW HM.out 2 rfl rfl rfl ?_ | refine ldbW HM.out 3 rfl rfl rfl ?_ | refine ldbW HM.out 4 rfl rfl rfl ?_ | refine ldbW HM.out 5 rfl rfl rfl ?_ | ((first | refine ldbS HM.out 0 rfl rfl rfl ?_ | refine ldbS HM.out 1 rfl rfl rfl ?_ | refine ldbS HM.out 2 rfl rfl rfl ?_ | refine ldbS HM.out 3 rfl rfl rfl ?_ | refine ldbS HM.out 4 rfl rfl rfl ?_ | refine ldbS HM.out 5 rfl rfl rfl ?_); simp only [List.take, List.drop])) | ((with_reducible refine istore ?_); (first | ((first | refine stbW rfl HM.out 0 rfl rfl rfl rfl rfl rfl ?_ | refine stbW rfl HM.out 1 rfl rfl rfl rfl rfl rfl ?_ | refine stbW rfl HM.out 2 rfl rfl rfl rfl rfl rfl ?_ | refine stbW rfl HM.out 3 rfl rfl rfl rfl rfl rfl ?_ | refine stbW rfl HM.out 4 rfl rfl rfl rfl rfl rfl ?_ | refine stbW rfl HM.out 5 rfl rfl rfl rfl rfl rfl ?_); intro W1 HM1; replace HM := Lib.hid HM1; clear HM1; simp only [List.set] at HM) | ((first | refine stbS rfl HM.out 0 rfl rfl rfl rfl rfl rfl ?_ | refine stbS rfl HM.out 1 rfl rfl rfl rfl rfl rfl ?_ | refine stbS rfl HM.out 2 rfl rfl rfl rfl rfl rfl ?_ | refine stbS rfl HM.out 3 rfl rfl rfl rfl rfl rfl ?_ | refine stbS rfl HM.out 4 rfl rfl rfl rfl rfl rfl ?_ | refine stbS rfl HM.out 5 rfl rfl rfl rfl rfl rfl ?_); intro W1 HM1; replace HM := Lib.hid HM1; clear HM1; simp only [lss, Nat.reduceAdd] at HM))) | ((with_reducible refine ialloc (d := some 7) ?_); refine alb rfl HM.out ?_; intro g7 W1 HM1; replace HM := Lib.hid HM1; clear HM1) | ((with_reducible refine ialloc ?_); refine alb rfl HM.out ?_; intro g1 W1 HM1; replace HM := Lib.hid HM1; clear HM1) | ((with_reducible refine ibox ?_); refine bxA rfl HM.out rfl ?_; intro g1 W1 HM1; replace HM := Lib.hid HM1; clear HM1) | (go_at_call 93; (with_reducible refine (of_ten i _ hlt).mono ?_); rintro e W1 ⟨rfl, hb⟩; replace HM := Lib.hid (HM.out.next hb); clear hb) | (go_at_call 89; first | ((with_reducible refine (rUnder_any k o (tyK i) (tyO i) _ H1.out hG.out).mono ?_); rw [U1.out]; rintro e W1 ⟨rfl, hb⟩; replace HM := Lib.hid (HM.out.next hb); clear hb) | ((with_reducible refine (rUnder_any k' o' (tyK i) (tyO i) _ H2.out hG.out).mono ?_); rw [U2.out]; rintro e W1 ⟨rfl, hb⟩; replace HM := Lib.hid (HM.out.next hb); clear hb) | ((with_reducible refine (rUnder_any (tyK i) (tyO i) jk jo _ hG.out hF'.out).mono ?_); rw [U3.out]; rintro e W1 ⟨rfl, hb⟩; replace HM := Lib.hid (HM.out.next hb); clear hb)))
      all_goals
        go_roundw
        case rel => exact ⟨i + 1, by go_num, by omega, Lib.hid (by rw [HS'.out]; exact HM.out.sub (List.sublist_cons_self _ _))⟩
        case measure => simp [intOf]; omega
    · obtain rfl : i = 10 := by omega
      unfold typL at HM
      go_wp2_with (first | ((with_reducible refine iload ?_); first | refine ldbW HM.out 0 rfl rfl rfl ?_ | refine ldbW HM.out 1 rfl rfl rfl ?_ | refine ldbW HM.out 2 rfl rfl rfl ?_ | refine ldbW HM.out 3 rfl rfl rfl ?_ | ((first | refine ldbS HM.out 0 rfl rfl rfl ?_ | refine ldbS HM.out 1 rfl rfl rfl ?_ | refine ldbS HM.out 2 rfl rfl rfl ?_ | refine ldbS HM.out 3 rfl rfl rfl ?_); simp only [List.take, List.drop])) | ((with_reducible refine istore ?_); (first | ((first | refine stbW rfl HM.out 0 rfl rfl rfl rfl rfl rfl ?_ | refine stbW rfl HM.out 1 rfl rfl rfl rfl rfl rfl ?_ | refine stbW rfl HM.out 2 rfl rfl rfl rfl rfl rfl ?_ | refine stbW rfl HM.out 3 rfl rfl rfl rfl rfl rfl ?_); intro W1 HM1; replace HM := Lib.hid HM1; clear HM1; simp only [List.set] at HM) | ((first | refine stbS rfl HM.out 0 rfl rfl rfl rfl rfl rfl ?_ | refine stbS rfl HM.out 1 rfl rfl rfl rfl rfl rfl ?_ | refine stbS rfl HM.out 2 rfl rfl rfl rfl rfl rfl ?_ | refine stbS rfl HM.out 3 rfl rfl rfl rfl rfl rfl ?_); intro W1 HM1; replace HM := Lib.hid HM1; clear HM1; simp only [lss, Nat.reduceAdd] at HM))) | ((with_reducible refine ialloc ?_); refine alb rfl HM.out ?_; intro g1 W1 HM1; replace HM := Lib.hid HM1; clear HM1) | ((with_reducible refine ibox ?_); refine bxA rfl HM.out rfl ?_; intro g1 W1 HM1; replace HM := Lib.hid HM1; clear HM1))
      exact bodyPost_ret (res_box rfl HM.out 1 rfl rfl rfl) rfl ⟨rfl, HM.out.below⟩
end Go.Proofs.YtpjcjgikfplgnaaDoor

namespace Go.Proofs.YtpjcjgikfplgnaaDoor
open Go.Shelf Go.RowKit Go.Sort
set_option linter.unusedVariables false
set_option linter.unusedSimpArgs false
set_option maxRecDepth 100000

def hitB (k o k' o' : Int) (i : Nat) : Bool := meetB k o i 0 && meetB k' o' i 0
/-- Is there a kind with an order that both may be? -/
def ordB (k o k' o' : Int) : Bool := hitB k o k' o' 2 || hitB k o k' o' 3 || hitB k o k' o' 4
/-- What is still to be looked at, from i on. -/
def ordF (k o k' o' : Int) (i : Nat) : Bool := if i = 2 then ordB k o k' o' else if i = 3 then hitB k o k' o' 3 || hitB k o k' o' 4 else if i = 4 then hitB k o k' o' 4 else false
theorem ordF_step {k o k' o' : Int} {i : Nat} (h2 : 2 ≤ i) (h4 : i ≤ 4) : ordF k o k' o' i = (hitB k o k' o' i || ordF k o k' o' (i + 1)) := by
  have : i = 2 ∨ i = 3 ∨ i = 4 := by omega
  rcases this with rfl | rfl | rfl <;> simp [ordF, ordB, Bool.or_assoc]

theorem rof_any (k : Int) (w : World) :
    Calls Tryd.prog 29 #[.int .i64 k] w fun e w' => e = .returned (.agg #[.int .i64 k, .int .i64 0]) ∧ RowKit.Below w.heap.size w w' := by
  have HM := Lib.hid (Mem.start w)
  go_enter Tryd.func29, Tryd.ntmps29
  go_wp2_with (first | ((with_reducible refine istore ?_); (first | (refine stbW rfl HM.out 0 rfl rfl rfl rfl rfl rfl ?_; intro W1 HM1; replace HM := Lib.hid HM1; clear HM1; simp only [List.set] at HM) | (refine stbS rfl HM.out 0 rfl rfl rfl rfl rfl rfl ?_; intro W1 HM1; replace HM := Lib.hid HM1; clear HM1; simp only [lss, Nat.reduceAdd] at HM))) | ((with_reducible refine ialloc ?_); refine alb rfl HM.out ?_; intro g1 W1 HM1; replace HM := Lib.hid HM1; clear HM1))
  exact bodyPost_ret (res_box rfl HM.out 0 rfl rfl rfl) rfl ⟨rfl, HM.out.below⟩
theorem cof_any (k : Int) (w : World) :
    Calls Tryd.prog 17 #[.int .i64 k] w fun e w' => e = .returned (.agg #[.int .i64 k, .int .i64 0]) ∧ RowKit.Below w.heap.size w w' := by
  have HM := Lib.hid (Mem.start w)
  go_enter Tryd.func17, Tryd.ntmps17
  go_wp2_with (first | ((with_reducible refine istore ?_); (first | (refine stbW rfl HM.out 0 rfl rfl rfl rfl rfl rfl ?_; intro W1 HM1; replace HM := Lib.hid HM1; clear HM1; simp only [List.set] at HM) | (refine stbS rfl HM.out 0 rfl rfl rfl rfl rfl rfl ?_; intro W1 HM1; replace HM := Lib.hid HM1; clear HM1; simp only [lss, Nat.reduceAdd] at HM))) | ((with_reducible refine ialloc ?_); refine alb rfl HM.out ?_; intro g1 W1 HM1; replace HM := Lib.hid HM1; clear HM1))
  exact bodyPost_ret (res_box rfl HM.out 0 rfl rfl rfl) rfl ⟨rfl, HM.out.below⟩

set_option maxHeartbeats 2000000 in
theorem rOrdered_any (k o k' o' : Int) (w : World) (h : formB k o = true) (h' : formB k' o' = true) :
    Calls Tryd.prog 66 #[.agg #[.int .i64 k, .int .i64 o], .agg #[.int .i64 k', .int .i64 o']] w fun e w' => e = .returned (.bool (ordB k o k' o')) ∧ RowKit.Below w.heap.size w w' := by
  have HM := Lib.hid (Mem.start w)
  obtain ⟨r, hr⟩ : ∃ r, ordF k o k' o' 2 = r := ⟨_, rfl⟩
  rw [show ordB k o k' o' = r from hr]
  have HR := Lib.hid hr
  have H1 := Lib.hid h
  have H2 := Lib.hid h'
  clear hr h h'
  go_enter Tryd.func66, Tryd.ntmps66
  go_wp2_with (first | ((with_reducible refine iload ?_); first | refine ldbW HM.out 0 rfl rfl rfl ?_ | refine ldbW HM.out 1 rfl rfl rfl ?_ | ((first | refine ldbS HM.out 0 rfl rfl rfl ?_ | refine ldbS HM.out 1 rfl rfl rfl ?_); simp only [List.take, List.drop])) | ((with_reducible refine ibox (d := some 2) ?_); refine bxA rfl HM.out rfl ?_; intro g2 W1 HM1; replace HM := Lib.hid HM1; clear HM1) | ((with_reducible refine ibox (d := some 3) ?_); refine bxA rfl HM.out rfl ?_; intro g3 W1 HM1; replace HM := Lib.hid HM1; clear HM1))
  go_loopw [5] (fun iv wr => ∃ i : Nat, iv = .int .i64 i ∧ 2 ≤ i ∧ i ≤ 5 ∧ Hid (ordF k o k' o' i = r) ∧ Hid (Mem w wr [.box g3 25 [.int .i64 k', .int .i64 o'], .box g2 25 [.int .i64 k, .int .i64 o]])) (fun iv _ => 5 - (intOf iv).toNat)
  case atStart => exact ⟨2, rfl, by omega, by omega, HR, HM⟩
  case round =>
    clear HM
    obtain ⟨i, rfl, hi2, hi5, HI, HM⟩ := hrel
    by_cases h4 : i ≤ 4
    · have hf := Lib.hid (show formB i 0 = true from (formB_iff _ _).2 (Or.inl ⟨by omega, by omega, rfl⟩))
      obtain ⟨b1, hb1⟩ : ∃ b, meetB k o i 0 = b := ⟨_, rfl⟩
      obtain ⟨b2, hb2⟩ : ∃ b, meetB k' o' i 0 = b := ⟨_, rfl⟩
      have HM1 := Lib.hid (fun W => hb1 ▸ rMeet_any k o i 0 W H1.out hf.out)
      have HM2 := Lib.hid (fun W => hb2 ▸ rMeet_any k' o' i 0 W H2.out hf.out)
      have HS := Lib.hid (show r = ((b1 && b2) || ordF k o k' o' (i + 1)) by rw [← HI.out, ordF_step hi2 h4]; unfold hitB; rw [hb1, hb2])
      clear hb1 hb2
      have hc : b1 = false ∨ (b1 = true ∧ b2 = false) ∨ (b1 = true ∧ b2 = true) := by cases b1 <;> cases b2 <;> simp
      rcases hc with rfl | ⟨rfl, rfl⟩ | ⟨rfl, rfl⟩
      all_goals
        go_wp2_with fail
        refine wp_region_mem (by kernel_rfl) (by kernel_rfl) HM.out ?_; intro hNE; (repeat (any_goals (first | ((with_reducible refine qload ?_); first | (refine qdb1 HM.out 0 rfl rfl rfl ?_) | (refine qdb1 HM.out 1 rfl rfl rfl ?_) | (refine qdbW HM.out 0 rfl rfl rfl ?_) | (refine qdbW HM.out 1 rfl rfl rfl ?_) | (refine qdbS HM.out 0 rfl rfl rfl ?_; simp only [List.take, List.drop]) | (refine qdbS HM.out 1 rfl rfl rfl ?_; simp only [List.take, List.drop])) | ((with_reducible show wpQuiet _ _ _ _ (Oper.mk _ (Op.call { callee := Callee.value (Operand.func 29), args := _, argTypes := _ }) _ _ _ _ :: _) _); (refine qcall HM.out (fun W hC => rof_any i W) Tryd.func29 rfl rfl rfl ?_)) | ((with_reducible show wpQuiet _ _ _ _ (Oper.mk _ (Op.call { callee := Callee.value (Operand.func 65), args := _, argTypes := _ }) _ _ _ _ :: _) _); (refine qcall HM.out (fun W hC => HM1.out W) Tryd.func65 rfl rfl rfl ?_)) | ((with_reducible show wpQuiet _ _ _ _ (Oper.mk _ (Op.call { callee := Callee.value (Operand.func 65), args := _, argTypes := _ }) _ _ _ _ :: _) _); (refine qcall HM.out (fun W hC => HM2.out W) Tryd.func65 rfl rfl rfl ?_)) | go_big_quiet_step (fail) | quiet_step (fail)))); clear hNE; refine wpQuiet_nil ?_; intro W1 HM1; replace HM := Lib.hid HM1; clear HM1
        go_wp2
      · go_roundw
        case rel => exact ⟨i + 1, by go_num, by omega, by omega, Lib.hid (by rw [HS.out]; simp), HM⟩
        case measure => simp [intOf]; omega
      · go_roundw
        case rel => exact ⟨i + 1, by go_num, by omega, by omega, Lib.hid (by rw [HS.out]; simp), HM⟩
        case measure => simp [intOf]; omega
      · go_ret
        exact ⟨by rw [HS.out]; rfl, HM.out.below⟩
    · have hr : r = false := by rw [← HI.out]; unfold ordF; rw [if_neg (by omega), if_neg (by omega), if_neg (by omega)]
      subst hr
      go_wp2
      go_ret
      exact ⟨rfl, HM.out.below⟩
end Go.Proofs.YtpjcjgikfplgnaaDoor
