/- The small functions of check. both of check, all of the reference: do all meet a kind? list of both; what Function answers. -/
import Derived.Test.YtpjcjgikfplgnaaDoorRefCheck
import Derived.Test.YtpjcjgikfplgnaaDoorKindB
import Derived.Test.YtpjcjgikfplgnaaDoorSepA
namespace Go.Proofs.YtpjcjgikfplgnaaDoor
open Go.RowKit
set_option linter.unusedVariables false
set_option linter.unusedSimpArgs false
set_option maxRecDepth 100000

set_option maxHeartbeats 2000000 in
theorem ordered_any (k o k' o' : Int) (w : World) (h : formB k o = true) (h' : formB k' o' = true) :
    Calls Tryd.prog 45 #[.agg #[.int .i64 k, .int .i64 o], .agg #[.int .i64 k', .int .i64 o']] w fun e w' => e = .returned (.bool (ordB k o k' o')) ∧ RowKit.Below w.heap.size w w' := by
  have HM := Lib.hid (Mem.start w)
  obtain ⟨r, hr⟩ : ∃ r, ordF k o k' o' 2 = r := ⟨_, rfl⟩
  rw [show ordB k o k' o' = r from hr]
  have HR := Lib.hid hr
  have H1 := Lib.hid h
  have H2 := Lib.hid h'
  clear hr h h'
  go_enter Tryd.func45, Tryd.ntmps45
  go_wp2_with (first | ((with_reducible refine iload ?_); first | refine ldbW HM.out 0 rfl rfl rfl ?_ | refine ldbW HM.out 1 rfl rfl rfl ?_ | ((first | refine ldbS HM.out 0 rfl rfl rfl ?_ | refine ldbS HM.out 1 rfl rfl rfl ?_); simp only [List.take, List.drop])) | ((with_reducible refine ibox (d := some 2) ?_); refine bxA rfl HM.out rfl ?_; intro g2 W1 HM1; replace HM := Lib.hid HM1; clear HM1) | ((with_reducible refine ibox (d := some 3) ?_); refine bxA rfl HM.out rfl ?_; intro g3 W1 HM1; replace HM := Lib.hid HM1; clear HM1))
  go_loopw [8] (fun iv wr => ∃ i : Nat, iv = .int .i64 i ∧ i ≤ 3 ∧ Hid (ordF k o k' o' (i + 2) = r) ∧ Hid (Mem w wr [.box g3 25 [.int .i64 k', .int .i64 o'], .box g2 25 [.int .i64 k, .int .i64 o]])) (fun iv _ => 5 - (intOf iv).toNat)
  case atStart => exact ⟨0, rfl, by omega, HR, HM⟩
  case round =>
    clear HM
    obtain ⟨i, rfl, hi3, HI, HM⟩ := hrel
    by_cases h3 : i < 3
    · have hf := Lib.hid (show formB ((i + 2 : Nat) : Int) 0 = true from (formB_iff _ _).2 (Or.inl ⟨by omega, by omega, rfl⟩))
      obtain ⟨b1, hb1⟩ : ∃ b, meetB k o ((i + 2 : Nat) : Int) 0 = b := ⟨_, rfl⟩
      obtain ⟨b2, hb2⟩ : ∃ b, meetB k' o' ((i + 2 : Nat) : Int) 0 = b := ⟨_, rfl⟩
      have HM1 := Lib.hid (fun W => hb1 ▸ meet_any k o ((i + 2 : Nat) : Int) 0 W H1.out hf.out)
      have HM2 := Lib.hid (fun W => hb2 ▸ meet_any k' o' ((i + 2 : Nat) : Int) 0 W H2.out hf.out)
      have HS := Lib.hid (show r = ((b1 && b2) || ordF k o k' o' (i + 1 + 2)) by rw [← HI.out, ordF_step (by omega) (by omega)]; unfold hitB; rw [hb1, hb2])
      clear hb1 hb2 HI hf
      have hc : b1 = false ∨ (b1 = true ∧ b2 = false) ∨ (b1 = true ∧ b2 = true) := by cases b1 <;> cases b2 <;> simp
      obtain rfl | rfl | rfl : i = 0 ∨ i = 1 ∨ i = 2 := by omega
      all_goals
        clear h3 hi3
        rcases hc with rfl | ⟨rfl, rfl⟩ | ⟨rfl, rfl⟩
      all_goals
        go_wp2_with (first | (refine ixc (n := 3) (e := 3) rfl rfl rfl rfl (by decide) rfl ?_) | fail)
        refine wp_region_mem (by kernel_rfl) (by kernel_rfl) HM.out ?_; intro hNE; (repeat (any_goals (first | ((with_reducible refine qload ?_); first | (refine qdb1 HM.out 0 rfl rfl rfl ?_) | (refine qdb1 HM.out 1 rfl rfl rfl ?_) | (refine qdbW HM.out 0 rfl rfl rfl ?_) | (refine qdbW HM.out 1 rfl rfl rfl ?_) | (refine qdbS HM.out 0 rfl rfl rfl ?_; simp only [List.take, List.drop]) | (refine qdbS HM.out 1 rfl rfl rfl ?_; simp only [List.take, List.drop])) | ((with_reducible show wpQuiet _ _ _ _ (Oper.mk _ (Op.call { callee := Callee.value (Operand.func 17), args := _, argTypes := _ }) _ _ _ _ :: _) _); (refine qcall HM.out (fun W hC => cof_any _ W) Tryd.func17 rfl rfl rfl ?_)) | ((with_reducible show wpQuiet _ _ _ _ (Oper.mk _ (Op.call { callee := Callee.value (Operand.func 46), args := _, argTypes := _ }) _ _ _ _ :: _) _); (refine qcall HM.out (fun W hC => HM1.out W) Tryd.func46 rfl rfl rfl ?_)) | ((with_reducible show wpQuiet _ _ _ _ (Oper.mk _ (Op.call { callee := Callee.value (Operand.func 46), args := _, argTypes := _ }) _ _ _ _ :: _) _); (refine qcall HM.out (fun W hC => HM2.out W) Tryd.func46 rfl rfl rfl ?_)) | go_big_quiet_step (fail) | quiet_step (fail)))); clear hNE; refine wpQuiet_nil ?_; intro W1 HM1; replace HM := Lib.hid HM1; clear HM1
        go_wp2
      all_goals first | (go_ret; exact ⟨by rw [HS.out]; rfl, HM.out.below⟩) | (go_roundw; (case rel => first | exact ⟨1, rfl, by omega, Lib.hid (by rw [HS.out]; simp), HM⟩ | exact ⟨2, rfl, by omega, Lib.hid (by rw [HS.out]; simp), HM⟩ | exact ⟨3, rfl, by omega, Lib.hid (by rw [HS.out]; simp), HM⟩); (case measure => simp [intOf]))
    · obtain rfl : i = 3 := by omega
      have hr : r = false := by rw [← HI.out]; rfl
      subst hr
      clear h3 hi3
      go_wp2
      go_ret
      exact ⟨rfl, HM.out.below⟩

theorem told_any (ok : Bool) (k o : Int) (w : World) :
    Calls Tryd.prog 82 #[.bool ok, .agg #[.int .i64 k, .int .i64 o]] w fun e w' => e = .returned (.tuple #[.agg #[.int .i64 (if ok then k else 0), .int .i64 (if ok then o else 0)], .int .i64 (if ok then 0 else 9)]) ∧ RowKit.Below w.heap.size w w' := by
  have HM := Lib.hid (Mem.start w)
  cases ok
  all_goals
    go_enter Tryd.func82, Tryd.ntmps82
    go_wp2_with (first | ((with_reducible refine iload ?_); first | refine ldbW HM.out 0 rfl rfl rfl ?_ | refine ldbW HM.out 1 rfl rfl rfl ?_ | refine ldbW HM.out 2 rfl rfl rfl ?_ | ((first | refine ldbS HM.out 0 rfl rfl rfl ?_ | refine ldbS HM.out 1 rfl rfl rfl ?_ | refine ldbS HM.out 2 rfl rfl rfl ?_); simp only [List.take, List.drop])) | ((with_reducible refine istore ?_); (first | ((first | refine stbW rfl HM.out 0 rfl rfl rfl rfl rfl rfl ?_ | refine stbW rfl HM.out 1 rfl rfl rfl rfl rfl rfl ?_ | refine stbW rfl HM.out 2 rfl rfl rfl rfl rfl rfl ?_); intro W1 HM1; replace HM := Lib.hid HM1; clear HM1; simp only [List.set] at HM) | ((first | refine stbS rfl HM.out 0 rfl rfl rfl rfl rfl rfl ?_ | refine stbS rfl HM.out 1 rfl rfl rfl rfl rfl rfl ?_ | refine stbS rfl HM.out 2 rfl rfl rfl rfl rfl rfl ?_); intro W1 HM1; replace HM := Lib.hid HM1; clear HM1; simp only [lss, Nat.reduceAdd] at HM))) | ((with_reducible refine ialloc ?_); refine alb rfl HM.out ?_; intro g1 W1 HM1; replace HM := Lib.hid HM1; clear HM1) | ((with_reducible refine ibox ?_); refine bxA rfl HM.out rfl ?_; intro g1 W1 HM1; replace HM := Lib.hid HM1; clear HM1))
  all_goals first | exact bodyPost_ret (res_box_tmp rfl HM.out 0 rfl rfl rfl rfl) rfl ⟨rfl, HM.out.below⟩ | exact bodyPost_ret (res_box_tmp rfl HM.out 1 rfl rfl rfl rfl) rfl ⟨rfl, HM.out.below⟩
theorem must_any (ok : Bool) (k : Int) (w : World) :
    Calls Tryd.prog 57 #[.bool ok, .int .i64 k] w fun e w' => e = .returned (.tuple #[.agg #[.int .i64 (if ok then k else 0), .int .i64 0], .int .i64 (if ok then 0 else 9)]) ∧ RowKit.Below w.heap.size w w' := by
  have HM := Lib.hid (Mem.start w)
  cases ok
  all_goals
    go_enter Tryd.func57, Tryd.ntmps57
    go_wp2_with (first | ((with_reducible refine istore ?_); (first | ((first | refine stbW rfl HM.out 0 rfl rfl rfl rfl rfl rfl ?_ | refine stbW rfl HM.out 1 rfl rfl rfl rfl rfl rfl ?_ | refine stbW rfl HM.out 2 rfl rfl rfl rfl rfl rfl ?_); intro W1 HM1; replace HM := Lib.hid HM1; clear HM1; simp only [List.set] at HM) | ((first | refine stbS rfl HM.out 0 rfl rfl rfl rfl rfl rfl ?_ | refine stbS rfl HM.out 1 rfl rfl rfl rfl rfl rfl ?_ | refine stbS rfl HM.out 2 rfl rfl rfl rfl rfl rfl ?_); intro W1 HM1; replace HM := Lib.hid HM1; clear HM1; simp only [lss, Nat.reduceAdd] at HM))) | ((with_reducible refine ialloc ?_); refine alb rfl HM.out ?_; intro g1 W1 HM1; replace HM := Lib.hid HM1; clear HM1) | (go_at_call 29; (with_reducible refine (rof_any _ _).mono ?_); rintro e W1 ⟨rfl, hb⟩; replace HM := Lib.hid (HM.out.next hb); clear hb))
  all_goals first | exact bodyPost_ret (res_box_tmp rfl HM.out 0 rfl rfl rfl rfl) rfl ⟨rfl, HM.out.below⟩ | exact bodyPost_ret (res_box_tmp rfl HM.out 1 rfl rfl rfl rfl) rfl ⟨rfl, HM.out.below⟩
end Go.Proofs.YtpjcjgikfplgnaaDoor

namespace Go.Proofs.YtpjcjgikfplgnaaDoor
open Go.RowKit
set_option linter.unusedVariables false
set_option linter.unusedSimpArgs false
set_option maxRecDepth 100000

/-- A type as plain data; a thing on the program's stack: a type, and the slice of its tests. -/
structure TyD where
  k : Int
  o : Int
def TyD.cs (t : TyD) : List Value := [.int .i64 t.k, .int .i64 t.o]
theorem TyD.cs_len (t : TyD) : t.cs.length = 2 := rfl
def TyD.form (t : TyD) : Prop := formB t.k t.o = true
structure ThT where
  t : TyD
  q : Option Addr
  n : Nat
  c : Nat
def ThT.cs (t : ThT) : List Value := [.int .i64 t.t.k, .int .i64 t.t.o, .slice t.q t.n t.c]
theorem ThT.cs_len (t : ThT) : t.cs.length = 3 := rfl
def allB (l : List TyD) (k : Int) : Bool := l.all fun t => meetB t.k t.o k 0
theorem allB_cons (t : TyD) (l : List TyD) (k : Int) : allB (t :: l) k = (meetB t.k t.o k 0 && allB l k) := rfl

set_option maxHeartbeats 2000000 in
theorem both_any (p : Option Addr) (c : Nat) (ts : List ThT) (k : Int) (w : World) (hS : Sl w p (ts.flatMap ThT.cs)) (hf : ∀ t, t ∈ ts → t.t.form) (hk : formB k 0 = true) (hl : ts.length ≤ 4611686018427387904) :
    Calls Tryd.prog 83 #[.slice p ts.length c, .int .i64 k] w fun e w' => e = .returned (.bool (allB (ts.map ThT.t) k)) ∧ Below w.heap.size w w' := by
  have HM := Lib.hid (Mem.start w)
  obtain ⟨r, hr⟩ : ∃ r, allB (ts.map ThT.t) k = r := ⟨_, rfl⟩
  rw [hr]
  have HR := Lib.hid (show allB ((ts.drop 0).map ThT.t) k = r from hr)
  have HS := Lib.hid hS
  have HF := Lib.hid hf
  have HK := Lib.hid hk
  clear hr hS hf hk
  go_enter Tryd.func83, Tryd.ntmps83
  go_wp2_with fail
  go_loopw [9] (fun iv wr => ∃ i : Nat, iv = .int .i64 i ∧ i ≤ ts.length ∧ Hid (allB ((ts.drop i).map ThT.t) k = r) ∧ Hid (Mem w wr [])) (fun iv _ => ts.length - (intOf iv).toNat)
  case atStart => exact ⟨0, rfl, by omega, HR, HM⟩
  case round =>
    clear HM
    obtain ⟨i, rfl, hi, HI, HM⟩ := hrel
    by_cases hlt : i < ts.length
    · obtain ⟨b, rfl, hb⟩ := HS.out.some_at ThT.cs_len (by decide) hlt
      obtain ⟨t, ht⟩ : ∃ t, ts[i]? = some t := ⟨_, List.getElem?_eq_getElem hlt⟩
      have E1 := Lib.hid (hb.elem ThT.cs 3 ThT.cs_len ht)
      obtain ⟨m, hm⟩ : ∃ m, meetB t.t.k t.t.o k 0 = m := ⟨_, rfl⟩
      have HMt := Lib.hid (fun W => hm ▸ meet_any t.t.k t.t.o k 0 W (HF.out t (List.mem_of_getElem? ht)) HK.out)
      have HI2 := Lib.hid (show (m && allB ((ts.drop (i + 1)).map ThT.t) k) = r by rw [← HI.out, drop_at ht, List.map_cons, allB_cons, hm])
      have hlt3 := Lib.hid (show i + 1 ≤ ts.length from hlt)
      have d1 : decide ((i : Int) < ts.length) = true := decide_eq_true (by omega)
      clear hb ht hm HI
      cases m
      · have HB := Lib.hid (show r = false by rw [← HI2.out]; rfl)
        go_wp2_with (first | ((with_reducible refine iload ?_); first | refine ldbW HM.out 0 rfl rfl rfl ?_ | (refine ldbS HM.out 0 rfl rfl rfl ?_; simp only [List.take, List.drop])) | ((with_reducible refine istore ?_); (first | (refine stbW rfl HM.out 0 rfl rfl rfl rfl rfl rfl ?_; intro W1 HM1; replace HM := Lib.hid HM1; clear HM1; simp only [List.set] at HM) | (refine stbS rfl HM.out 0 rfl rfl rfl rfl rfl rfl ?_; intro W1 HM1; replace HM := Lib.hid HM1; clear HM1; simp only [lss, Nat.reduceAdd] at HM))) | ((with_reducible refine ialloc ?_); refine alb rfl HM.out ?_; intro g1 W1 HM1; replace HM := Lib.hid HM1; clear HM1) | (refine ixa rfl rfl rfl hlt ?_) | (refine ldxW (HM.out.olds E1.out) rfl rfl ?_))
        refine wp_region_mem (by kernel_rfl) (by kernel_rfl) HM.out ?_; intro hNE; (repeat (any_goals (first | ((with_reducible refine qload ?_); first | (refine qdb1 HM.out 0 rfl rfl rfl ?_) | (refine qdbW HM.out 0 rfl rfl rfl ?_) | (refine qdbS HM.out 0 rfl rfl rfl ?_; simp only [List.take, List.drop])) | ((with_reducible show wpQuiet _ _ _ _ (Oper.mk _ (Op.call { callee := Callee.value (Operand.func 17), args := _, argTypes := _ }) _ _ _ _ :: _) _); (refine qcall HM.out (fun W hC => cof_any k W) Tryd.func17 rfl rfl rfl ?_)) | ((with_reducible show wpQuiet _ _ _ _ (Oper.mk _ (Op.call { callee := Callee.value (Operand.func 46), args := _, argTypes := _ }) _ _ _ _ :: _) _); (refine qcall HM.out (fun W hC => HMt.out W) Tryd.func46 rfl rfl rfl ?_)) | go_big_quiet_step (fail) | quiet_step (fail)))); clear hNE; refine wpQuiet_nil ?_; intro W1 HM1; replace HM := Lib.hid HM1; clear HM1
        go_wp2
        go_ret
        exact ⟨by rw [HB.out]; rfl, HM.out.below⟩
      · have HB := Lib.hid (show allB ((ts.drop (i + 1)).map ThT.t) k = r by rw [← HI2.out]; rfl)
        go_wp2_with (first | ((with_reducible refine iload ?_); first | refine ldbW HM.out 0 rfl rfl rfl ?_ | (refine ldbS HM.out 0 rfl rfl rfl ?_; simp only [List.take, List.drop])) | ((with_reducible refine istore ?_); (first | (refine stbW rfl HM.out 0 rfl rfl rfl rfl rfl rfl ?_; intro W1 HM1; replace HM := Lib.hid HM1; clear HM1; simp only [List.set] at HM) | (refine stbS rfl HM.out 0 rfl rfl rfl rfl rfl rfl ?_; intro W1 HM1; replace HM := Lib.hid HM1; clear HM1; simp only [lss, Nat.reduceAdd] at HM))) | ((with_reducible refine ialloc ?_); refine alb rfl HM.out ?_; intro g1 W1 HM1; replace HM := Lib.hid HM1; clear HM1) | (refine ixa rfl rfl rfl hlt ?_) | (refine ldxW (HM.out.olds E1.out) rfl rfl ?_))
        refine wp_region_mem (by kernel_rfl) (by kernel_rfl) HM.out ?_; intro hNE; (repeat (any_goals (first | ((with_reducible refine qload ?_); first | (refine qdb1 HM.out 0 rfl rfl rfl ?_) | (refine qdbW HM.out 0 rfl rfl rfl ?_) | (refine qdbS HM.out 0 rfl rfl rfl ?_; simp only [List.take, List.drop])) | ((with_reducible show wpQuiet _ _ _ _ (Oper.mk _ (Op.call { callee := Callee.value (Operand.func 17), args := _, argTypes := _ }) _ _ _ _ :: _) _); (refine qcall HM.out (fun W hC => cof_any k W) Tryd.func17 rfl rfl rfl ?_)) | ((with_reducible show wpQuiet _ _ _ _ (Oper.mk _ (Op.call { callee := Callee.value (Operand.func 46), args := _, argTypes := _ }) _ _ _ _ :: _) _); (refine qcall HM.out (fun W hC => HMt.out W) Tryd.func46 rfl rfl rfl ?_)) | go_big_quiet_step (fail) | quiet_step (fail)))); clear hNE; refine wpQuiet_nil ?_; intro W1 HM1; replace HM := Lib.hid HM1; clear HM1
        go_wp2
        go_roundw
        case rel => exact ⟨i + 1, by go_num, hlt3.out, HB, Lib.hid (HM.out.sub (List.nil_sublist _))⟩
        case measure => have := hlt3.out; simp [intOf]; omega
    · obtain rfl : i = ts.length := by omega
      have hr : r = true := by rw [← HI.out, List.drop_of_length_le (Nat.le_refl _)]; rfl
      subst hr
      have d1 : decide ((ts.length : Int) < ts.length) = false := by simp
      go_wp2
      go_ret
      exact ⟨rfl, HM.out.below⟩

set_option maxHeartbeats 2000000 in
theorem all_any (p : Option Addr) (c : Nat) (ts : List TyD) (k : Int) (w : World) (hS : Sl w p (ts.flatMap TyD.cs)) (hf : ∀ t, t ∈ ts → t.form) (hk : formB k 0 = true) (hl : ts.length ≤ 4611686018427387904) :
    Calls Tryd.prog 70 #[.slice p ts.length c, .int .i64 k] w fun e w' => e = .returned (.bool (allB ts k)) ∧ Below w.heap.size w w' := by
  have HM := Lib.hid (Mem.start w)
  obtain ⟨r, hr⟩ : ∃ r, allB ts k = r := ⟨_, rfl⟩
  rw [hr]
  have HR := Lib.hid (show allB (ts.drop 0) k = r from hr)
  have HS := Lib.hid hS
  have HF := Lib.hid hf
  have HK := Lib.hid hk
  clear hr hS hf hk
  go_enter Tryd.func70, Tryd.ntmps70
  go_wp2_with fail
  go_loopw [5] (fun iv wr => ∃ i : Nat, iv = .int .i64 i ∧ i ≤ ts.length ∧ Hid (allB (ts.drop i) k = r) ∧ Hid (Mem w wr [])) (fun iv _ => ts.length - (intOf iv).toNat)
  case atStart => exact ⟨0, rfl, by omega, HR, HM⟩
  case round =>
    clear HM
    obtain ⟨i, rfl, hi, HI, HM⟩ := hrel
    by_cases hlt : i < ts.length
    · obtain ⟨b, rfl, hb⟩ := HS.out.some_at TyD.cs_len (by decide) hlt
      obtain ⟨t, ht⟩ : ∃ t, ts[i]? = some t := ⟨_, List.getElem?_eq_getElem hlt⟩
      have E1 := Lib.hid (hb.elem TyD.cs 2 TyD.cs_len ht)
      obtain ⟨m, hm⟩ : ∃ m, meetB t.k t.o k 0 = m := ⟨_, rfl⟩
      have HMt := Lib.hid (fun W => hm ▸ rMeet_any t.k t.o k 0 W (HF.out t (List.mem_of_getElem? ht)) HK.out)
      have HI2 := Lib.hid (show (m && allB (ts.drop (i + 1)) k) = r by rw [← HI.out, drop_at ht, allB_cons, hm])
      have hlt3 := Lib.hid (show i + 1 ≤ ts.length from hlt)
      have d1 : decide ((i : Int) < ts.length) = true := decide_eq_true (by omega)
      clear hb ht hm HI
      cases m
      · have HB := Lib.hid (show r = false by rw [← HI2.out]; rfl)
        go_wp2_with fail
        refine wp_region_mem (by kernel_rfl) (by kernel_rfl) HM.out ?_; intro hNE; (repeat (any_goals (first | ((with_reducible show wpQuiet _ _ _ _ (Oper.mk _ (Op.call { callee := Callee.value (Operand.func 29), args := _, argTypes := _ }) _ _ _ _ :: _) _); (refine qcall HM.out (fun W hC => rof_any k W) Tryd.func29 rfl rfl rfl ?_)) | ((with_reducible show wpQuiet _ _ _ _ (Oper.mk _ (Op.call { callee := Callee.value (Operand.func 65), args := _, argTypes := _ }) _ _ _ _ :: _) _); (refine qcall HM.out (fun W hC => HMt.out W) Tryd.func65 rfl rfl rfl ?_)) | (refine qixa rfl rfl rfl hlt ?_) | (refine qdA (vs := t.cs) rfl rfl (fun W ⟨q, hq⟩ => hq ▸ q.mem.olds E1.out) ?_) | go_big_quiet_step (fail) | quiet_step (fail)))); clear hNE; refine wpQuiet_nil ?_; intro W1 HM1; replace HM := Lib.hid HM1; clear HM1
        go_wp2
        go_ret
        exact ⟨by rw [HB.out]; rfl, HM.out.below⟩
      · have HB := Lib.hid (show allB (ts.drop (i + 1)) k = r by rw [← HI2.out]; rfl)
        go_wp2_with fail
        refine wp_region_mem (by kernel_rfl) (by kernel_rfl) HM.out ?_; intro hNE; (repeat (any_goals (first | ((with_reducible show wpQuiet _ _ _ _ (Oper.mk _ (Op.call { callee := Callee.value (Operand.func 29), args := _, argTypes := _ }) _ _ _ _ :: _) _); (refine qcall HM.out (fun W hC => rof_any k W) Tryd.func29 rfl rfl rfl ?_)) | ((with_reducible show wpQuiet _ _ _ _ (Oper.mk _ (Op.call { callee := Callee.value (Operand.func 65), args := _, argTypes := _ }) _ _ _ _ :: _) _); (refine qcall HM.out (fun W hC => HMt.out W) Tryd.func65 rfl rfl rfl ?_)) | (refine qixa rfl rfl rfl hlt ?_) | (refine qdA (vs := t.cs) rfl rfl (fun W ⟨q, hq⟩ => hq ▸ q.mem.olds E1.out) ?_) | go_big_quiet_step (fail) | quiet_step (fail)))); clear hNE; refine wpQuiet_nil ?_; intro W1 HM1; replace HM := Lib.hid HM1; clear HM1
        go_wp2
        go_roundw
        case rel => exact ⟨i + 1, by go_num, hlt3.out, HB, HM⟩
        case measure => have := hlt3.out; simp [intOf]; omega
    · obtain rfl : i = ts.length := by omega
      have hr : r = true := by rw [← HI.out, List.drop_of_length_le (Nat.le_refl _)]; rfl
      subst hr
      have d1 : decide ((ts.length : Int) < ts.length) = false := by simp
      go_wp2
      go_ret
      exact ⟨rfl, HM.out.below⟩
end Go.Proofs.YtpjcjgikfplgnaaDoor

namespace Go.Proofs.YtpjcjgikfplgnaaDoor
open Go.RowKit
set_option linter.unusedVariables false
set_option linter.unusedSimpArgs false
set_option maxRecDepth 100000

theorem clist_any (k : Int) (w : World) :
    Calls Tryd.prog 18 #[.int .i64 k] w fun e w' => e = .returned (.agg #[.int .i64 5, .int .i64 k]) ∧ RowKit.Below w.heap.size w w' := by
  have HM := Lib.hid (Mem.start w)
  go_enter Tryd.func18, Tryd.ntmps18
  go_wp2_with (first | ((with_reducible refine istore ?_); (first | (refine stbW rfl HM.out 0 rfl rfl rfl rfl rfl rfl ?_; intro W1 HM1; replace HM := Lib.hid HM1; clear HM1; simp only [List.set] at HM) | (refine stbS rfl HM.out 0 rfl rfl rfl rfl rfl rfl ?_; intro W1 HM1; replace HM := Lib.hid HM1; clear HM1; simp only [lss, Nat.reduceAdd] at HM))) | ((with_reducible refine ialloc ?_); refine alb rfl HM.out ?_; intro g1 W1 HM1; replace HM := Lib.hid HM1; clear HM1))
  exact bodyPost_ret (res_box rfl HM.out 0 rfl rfl rfl) rfl ⟨rfl, HM.out.below⟩
theorem rlist_any (k : Int) (w : World) :
    Calls Tryd.prog 30 #[.int .i64 k] w fun e w' => e = .returned (.agg #[.int .i64 5, .int .i64 k]) ∧ RowKit.Below w.heap.size w w' := by
  have HM := Lib.hid (Mem.start w)
  go_enter Tryd.func30, Tryd.ntmps30
  go_wp2_with (first | ((with_reducible refine istore ?_); (first | (refine stbW rfl HM.out 0 rfl rfl rfl rfl rfl rfl ?_; intro W1 HM1; replace HM := Lib.hid HM1; clear HM1; simp only [List.set] at HM) | (refine stbS rfl HM.out 0 rfl rfl rfl rfl rfl rfl ?_; intro W1 HM1; replace HM := Lib.hid HM1; clear HM1; simp only [lss, Nat.reduceAdd] at HM))) | ((with_reducible refine ialloc ?_); refine alb rfl HM.out ?_; intro g1 W1 HM1; replace HM := Lib.hid HM1; clear HM1))
  exact bodyPost_ret (res_box rfl HM.out 0 rfl rfl rfl) rfl ⟨rfl, HM.out.below⟩

/-- What Function answers: a slice of its own. -/
def FnPost (r : Option (List TyD × TyD)) (w : World) (e : Ending) (w' : World) : Prop :=
  match r with
  | none => e = .returned (.tuple #[.slice none 0 0, .agg #[.int .i64 0, .int .i64 0], .int .i64 8]) ∧ Below w.heap.size w w'
  | some (ts, g) => ∃ q, e = .returned (.tuple #[.slice (some ⟨q, 0, none⟩) ts.length ts.length, .agg g.cs.toArray, .int .i64 0]) ∧ Mem w w' [.row (some ⟨q, 0, none⟩) ts.length 25 2 ts.length (ts.flatMap TyD.cs)]
end Go.Proofs.YtpjcjgikfplgnaaDoor
