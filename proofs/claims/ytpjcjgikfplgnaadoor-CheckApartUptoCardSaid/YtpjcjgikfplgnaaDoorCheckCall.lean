/- call of check. (fast) -/
import Derived.Test.YtpjcjgikfplgnaaDoorThingA
import Derived.Test.YtpjcjgikfplgnaaDoorFnA
namespace Go.Proofs.YtpjcjgikfplgnaaDoor
open Go.RowKit
set_option linter.unusedVariables false
set_option linter.unusedSimpArgs false
set_option maxRecDepth 100000

def formsB : Option (List TyD × TyD) → Bool
  | none => true
  | some (l, g) => l.all (fun t => formB t.k t.o) && formB g.k g.o
theorem formsB_ite {c : Prop} [Decidable c] {a b : Option (List TyD × TyD)} (ha : formsB a = true) (hb : formsB b = true) : formsB (if c then a else b) = true := by split <;> assumption
theorem fnF_forms (l : List UInt8) : formsB (fnF l) = true := by
  unfold fnF
  repeat (first | (refine formsB_ite (by decide) ?_) | rfl)
theorem fnF_form {l : List UInt8} {tk : List TyD} {g : TyD} (h : fnF l = some (tk, g)) : (∀ t, t ∈ tk → t.form) ∧ g.form := by
  have := fnF_forms l
  rw [h] at this
  simp only [formsB, Bool.and_eq_true, List.all_eq_true] at this
  exact ⟨this.1, this.2⟩
def meetsB : List TyD → List TyD → Bool
  | t :: l, u :: m => meetB t.k t.o u.k u.o && meetsB l m
  | _, _ => true
theorem meetsB_cons (t u : TyD) (l m : List TyD) : meetsB (t :: l) (u :: m) = (meetB t.k t.o u.k u.o && meetsB l m) := rfl
def callF (r : Option (List TyD × TyD)) (ts : List TyD) : TyD × Int :=
  match r with
  | none => (⟨0, 0⟩, 8)
  | some (tk, g) => if tk.length = ts.length then (if meetsB ts tk then (g, 0) else (⟨0, 0⟩, 9)) else (⟨0, 0⟩, 9)
/-- An element of a row. -/
theorem row_el {α : Type} (f : α → List Value) (k : Nat) (hf : ∀ x, (f x).length = k) {B : Nat} {W : World} {b : Addr} {cap : Nat} {e : TypeId} {l : List α} (h : (Res.row (some b) cap e k l.length (l.flatMap f)).holds B W) {i : Nat} {x : α} (hx : l[i]? = some x) : Cells W (b.add (i * k)) (f x) :=
  ((sl_row f k hf h).2 b rfl).elem f k hf hx
theorem resV_of {r : TyD × Int} {k o e : Int} (h : r = (⟨k, o⟩, e)) : resV r = .tuple #[.agg #[.int .i64 k, .int .i64 o], .int .i64 e] := by rw [h]; rfl

set_option maxHeartbeats 4000000 in
theorem call_any (s : ByteArray) (p : Option Addr) (c : Nat) (ts : List ThT) (w : World) (hS : Sl w p (ts.flatMap ThT.cs)) (hf : ∀ t, t ∈ ts → t.t.form) (hl : ts.length ≤ 4611686018427387904) :
    Calls Tryd.prog 85 #[.string s, .slice p ts.length c] w fun e w' => e = .returned (resV (callF (fnF s.toList) (ts.map ThT.t))) ∧ Below w.heap.size w w' := by
  have HM := Lib.hid (Mem.start w)
  obtain ⟨r, hr⟩ : ∃ r, fnF s.toList = r := ⟨_, rfl⟩
  have hform : ∀ tk g, r = some (tk, g) → (∀ t, t ∈ tk → t.form) ∧ g.form := fun tk g h => fnF_form (hr.trans h)
  have HFn := Lib.hid (fun W => hr ▸ function_any s W)
  rw [hr]
  have HS := Lib.hid hS
  have HF := Lib.hid hf
  clear hr hS hf
  cases r with
  | none =>
    clear hform
    go_enter Tryd.func85, Tryd.ntmps85
    go_wp2_with (first | (go_at_call 9; (with_reducible refine (HFn.out _).mono ?_); rintro e W1 ⟨rfl, hb⟩; replace HM := Lib.hid (HM.out.next hb); clear hb) | ((with_reducible refine iload ?_); first | refine ldbW HM.out 0 rfl rfl rfl ?_ | refine ldbW HM.out 1 rfl rfl rfl ?_ | refine ldbW HM.out 2 rfl rfl rfl ?_ | ((first | refine ldbS HM.out 0 rfl rfl rfl ?_ | refine ldbS HM.out 1 rfl rfl rfl ?_ | refine ldbS HM.out 2 rfl rfl rfl ?_); simp only [List.take, List.drop])) | ((with_reducible refine istore ?_); (first | ((first | refine stbW rfl HM.out 0 rfl rfl rfl rfl rfl rfl ?_ | refine stbW rfl HM.out 1 rfl rfl rfl rfl rfl rfl ?_ | refine stbW rfl HM.out 2 rfl rfl rfl rfl rfl rfl ?_); intro W1 HM1; replace HM := Lib.hid HM1; clear HM1; simp only [List.set] at HM) | ((first | refine stbS rfl HM.out 0 rfl rfl rfl rfl rfl rfl ?_ | refine stbS rfl HM.out 1 rfl rfl rfl rfl rfl rfl ?_ | refine stbS rfl HM.out 2 rfl rfl rfl rfl rfl rfl ?_); intro W1 HM1; replace HM := Lib.hid HM1; clear HM1; simp only [lss, Nat.reduceAdd] at HM))) | ((with_reducible refine ialloc (d := some 4) ?_); refine alb rfl HM.out ?_; intro g4 W1 HM1; replace HM := Lib.hid HM1; clear HM1) | ((with_reducible refine ialloc (d := some 7) ?_); refine alb rfl HM.out ?_; intro g7 W1 HM1; replace HM := Lib.hid HM1; clear HM1) | ((with_reducible refine ialloc ?_); refine alb rfl HM.out ?_; intro g1 W1 HM1; replace HM := Lib.hid HM1; clear HM1))
    exact bodyPost_ret (res_box_tmp rfl HM.out 1 rfl rfl rfl rfl) rfl ⟨rfl, HM.out.below⟩
  | some x =>
    obtain ⟨tk, gk, go_⟩ := x
    have HFt := Lib.hid (hform tk ⟨gk, go_⟩ rfl).1
    clear hform
    obtain ⟨v, hv⟩ : ∃ v, callF (some (tk, ⟨gk, go_⟩)) (ts.map ThT.t) = v := ⟨_, rfl⟩
    by_cases hlen : tk.length = ts.length
    · obtain ⟨m, hm⟩ : ∃ m, meetsB (ts.map ThT.t) tk = m := ⟨_, rfl⟩
      have HR := Lib.hid (show v = if m then (⟨gk, go_⟩, 0) else (⟨0, 0⟩, 9) by rw [← hv, ← hm]; unfold callF; rw [List.length_map]; exact if_pos hlen)
      have HI := Lib.hid (show meetsB ((ts.drop 0).map ThT.t) (tk.drop 0) = m from hm)
      have HL := Lib.hid hlen
      rw [hv]
      have b1 : ((tk.length : Int) != ts.length) = false := by rw [hlen]; simp
      clear hv hm hlen
      go_enter Tryd.func85, Tryd.ntmps85
      go_wp2_with (first | (go_at_call 9; (with_reducible refine (HFn.out _).mono ?_); rintro e W2 ⟨q, rfl, hM2⟩; have HM1 := Lib.hid (HM.out.comp hM2); clear HM hM2; simp only [List.cons_append, List.nil_append] at HM1; (try clear W1); rename World => W1; have HM := HM1; clear HM1; simp only [TyD.cs]) | ((with_reducible refine iload ?_); first | refine ldbW HM.out 0 rfl rfl rfl ?_ | refine ldbW HM.out 1 rfl rfl rfl ?_ | refine ldbW HM.out 2 rfl rfl rfl ?_ | ((first | refine ldbS HM.out 0 rfl rfl rfl ?_ | refine ldbS HM.out 1 rfl rfl rfl ?_ | refine ldbS HM.out 2 rfl rfl rfl ?_); simp only [List.take, List.drop])) | ((with_reducible refine istore ?_); (first | ((first | refine stbW rfl HM.out 0 rfl rfl rfl rfl rfl rfl ?_ | refine stbW rfl HM.out 1 rfl rfl rfl rfl rfl rfl ?_ | refine stbW rfl HM.out 2 rfl rfl rfl rfl rfl rfl ?_); intro W1 HM1; replace HM := Lib.hid HM1; clear HM1; simp only [List.set] at HM) | ((first | refine stbS rfl HM.out 0 rfl rfl rfl rfl rfl rfl ?_ | refine stbS rfl HM.out 1 rfl rfl rfl rfl rfl rfl ?_ | refine stbS rfl HM.out 2 rfl rfl rfl rfl rfl rfl ?_); intro W1 HM1; replace HM := Lib.hid HM1; clear HM1; simp only [lss, Nat.reduceAdd] at HM))) | ((with_reducible refine ialloc (d := some 4) ?_); refine alb rfl HM.out ?_; intro g4 W1 HM1; replace HM := Lib.hid HM1; clear HM1) | ((with_reducible refine ialloc (d := some 7) ?_); refine alb rfl HM.out ?_; intro g7 W1 HM1; replace HM := Lib.hid HM1; clear HM1) | ((with_reducible refine ialloc ?_); refine alb rfl HM.out ?_; intro g1 W1 HM1; replace HM := Lib.hid HM1; clear HM1))
      go_loopw [29] (fun iv wr => ∃ i : Nat, iv = .int .i64 i ∧ i ≤ ts.length ∧ Hid (meetsB ((ts.drop i).map ThT.t) (tk.drop i) = m) ∧ Hid (Mem w wr [.box g7 25 [.int .i64 gk, .int .i64 go_], .row (some ⟨q, 0, none⟩) tk.length 25 2 tk.length (tk.flatMap TyD.cs), .box g4 25 [.int .i64 0, .int .i64 0]])) (fun iv _ => ts.length - (intOf iv).toNat)
      case atStart => exact ⟨0, rfl, by omega, HI, HM⟩
      case round =>
        clear HM
        obtain ⟨i, rfl, hi, HI, HM⟩ := hrel
        by_cases hlt : i < ts.length
        · obtain ⟨b, rfl, hb⟩ := HS.out.some_at ThT.cs_len (by decide) hlt
          obtain ⟨x, hx⟩ : ∃ x, ts[i]? = some x := ⟨_, List.getElem?_eq_getElem hlt⟩
          have hlt' : i < tk.length := by rw [HL.out]; exact hlt
          obtain ⟨u, hu⟩ : ∃ u, tk[i]? = some u := ⟨_, List.getElem?_eq_getElem hlt'⟩
          have hxf := HF.out x (List.mem_of_getElem? hx)
          have huf := HFt.out u (List.mem_of_getElem? hu)
          obtain ⟨⟨xk, xo⟩, xq, xn, xc⟩ := x
          obtain ⟨uk, uo⟩ := u
          obtain ⟨z, hz⟩ : ∃ z, meetB xk xo uk uo = z := ⟨_, rfl⟩
          have E1 := Lib.hid (show Cells w (b.add (i * 3)) [.int .i64 xk, .int .i64 xo, .slice xq xn xc] from hb.elem ThT.cs 3 ThT.cs_len hx)
          have HU := Lib.hid hu
          have HI2 := Lib.hid (show (z && meetsB ((ts.drop (i + 1)).map ThT.t) (tk.drop (i + 1))) = m by rw [← HI.out, drop_at hx, drop_at hu, ← hz]; rfl)
          have HMt := Lib.hid (fun W => hz ▸ meet_any xk xo uk uo W hxf huf)
          have hlt3 := Lib.hid (show i + 1 ≤ ts.length from hlt)
          have d1 : decide ((i : Int) < ts.length) = true := decide_eq_true (by omega)
          clear hb hx hu hz HI hxf huf
          cases z
          · have HB := Lib.hid (show v = (⟨0, 0⟩, 9) by rw [HR.out, ← HI2.out]; rfl)
            go_wp2_with (first | ((with_reducible refine iat 32 ?_); (refine ixa rfl rfl rfl hlt ?_)) | ((with_reducible refine iat 33 ?_); (refine ldxW (HM.out.olds E1.out) rfl rfl ?_)) | ((with_reducible refine iload ?_); first | refine ldbW HM.out 0 rfl rfl rfl ?_ | refine ldbW HM.out 1 rfl rfl rfl ?_ | refine ldbW HM.out 2 rfl rfl rfl ?_ | refine ldbW HM.out 3 rfl rfl rfl ?_ | ((first | refine ldbS HM.out 0 rfl rfl rfl ?_ | refine ldbS HM.out 1 rfl rfl rfl ?_ | refine ldbS HM.out 2 rfl rfl rfl ?_ | refine ldbS HM.out 3 rfl rfl rfl ?_); simp only [List.take, List.drop])) | ((with_reducible refine istore ?_); (first | ((first | refine stbW rfl HM.out 0 rfl rfl rfl rfl rfl rfl ?_ | refine stbW rfl HM.out 1 rfl rfl rfl rfl rfl rfl ?_ | refine stbW rfl HM.out 2 rfl rfl rfl rfl rfl rfl ?_ | refine stbW rfl HM.out 3 rfl rfl rfl rfl rfl rfl ?_); intro W1 HM1; replace HM := Lib.hid HM1; clear HM1; simp only [List.set] at HM) | ((first | refine stbS rfl HM.out 0 rfl rfl rfl rfl rfl rfl ?_ | refine stbS rfl HM.out 1 rfl rfl rfl rfl rfl rfl ?_ | refine stbS rfl HM.out 2 rfl rfl rfl rfl rfl rfl ?_ | refine stbS rfl HM.out 3 rfl rfl rfl rfl rfl rfl ?_); intro W1 HM1; replace HM := Lib.hid HM1; clear HM1; simp only [lss, Nat.reduceAdd] at HM))) | ((with_reducible refine ialloc (d := some 10) ?_); refine alb rfl HM.out ?_; intro g10 W1 HM1; replace HM := Lib.hid HM1; clear HM1) | ((with_reducible refine ialloc ?_); refine alb rfl HM.out ?_; intro g1 W1 HM1; replace HM := Lib.hid HM1; clear HM1))
            refine wp_region_mem (by kernel_rfl) (by kernel_rfl) HM.out ?_; intro hNE; (repeat (any_goals (first | ((with_reducible refine qgd ?_); (with_reducible refine skip_q ?_ ?_ ?_); (exact rfl); (rotate_left; (exact (hNE.elim fun p => ⟨p.W, p, rfl⟩)))) | ((with_reducible refine qnilCheck ?_); (refine qnil rfl ?_)) | ((with_reducible refine qload ?_); first | (refine qdb1 HM.out 0 rfl rfl rfl ?_) | (refine qdb1 HM.out 1 rfl rfl rfl ?_) | (refine qdb1 HM.out 2 rfl rfl rfl ?_) | (refine qdb1 HM.out 3 rfl rfl rfl ?_) | (refine qdbW HM.out 0 rfl rfl rfl ?_) | (refine qdbW HM.out 1 rfl rfl rfl ?_) | (refine qdbW HM.out 2 rfl rfl rfl ?_) | (refine qdbW HM.out 3 rfl rfl rfl ?_) | (refine qdbS HM.out 0 rfl rfl rfl ?_; simp only [List.take, List.drop]) | (refine qdbS HM.out 1 rfl rfl rfl ?_; simp only [List.take, List.drop]) | (refine qdbS HM.out 2 rfl rfl rfl ?_; simp only [List.take, List.drop]) | (refine qdbS HM.out 3 rfl rfl rfl ?_; simp only [List.take, List.drop])) | ((with_reducible show wpQuiet _ _ _ _ (Oper.mk _ (Op.call { callee := Callee.value (Operand.func 46), args := _, argTypes := _ }) _ _ _ _ :: _) _); (refine qcall HM.out (fun W hC => HMt.out W) Tryd.func46 rfl rfl rfl ?_)) | ((with_reducible refine qat 38 ?_); (refine qixa rfl rfl rfl hlt' ?_)) | ((with_reducible refine qat 39 ?_); (refine qdA (vs := [.int .i64 uk, .int .i64 uo]) rfl rfl (fun W ⟨q, hq⟩ => hq ▸ row_el TyD.cs 2 TyD.cs_len (q.mem.get (k := 2) rfl) HU.out) ?_)) | go_big_quiet_step (fail) | quiet_step (fail)))); clear hNE; refine wpQuiet_nil ?_; intro W1 HM1; replace HM := Lib.hid HM1; clear HM1
            go_wp2_with (first | ((with_reducible refine iload ?_); first | refine ldbW HM.out 0 rfl rfl rfl ?_ | refine ldbW HM.out 1 rfl rfl rfl ?_ | refine ldbW HM.out 2 rfl rfl rfl ?_ | refine ldbW HM.out 3 rfl rfl rfl ?_ | ((first | refine ldbS HM.out 0 rfl rfl rfl ?_ | refine ldbS HM.out 1 rfl rfl rfl ?_ | refine ldbS HM.out 2 rfl rfl rfl ?_ | refine ldbS HM.out 3 rfl rfl rfl ?_); simp only [List.take, List.drop])) | ((with_reducible refine istore ?_); (first | ((first | refine stbW rfl HM.out 0 rfl rfl rfl rfl rfl rfl ?_ | refine stbW rfl HM.out 1 rfl rfl rfl rfl rfl rfl ?_ | refine stbW rfl HM.out 2 rfl rfl rfl rfl rfl rfl ?_ | refine stbW rfl HM.out 3 rfl rfl rfl rfl rfl rfl ?_); intro W1 HM1; replace HM := Lib.hid HM1; clear HM1; simp only [List.set] at HM) | ((first | refine stbS rfl HM.out 0 rfl rfl rfl rfl rfl rfl ?_ | refine stbS rfl HM.out 1 rfl rfl rfl rfl rfl rfl ?_ | refine stbS rfl HM.out 2 rfl rfl rfl rfl rfl rfl ?_ | refine stbS rfl HM.out 3 rfl rfl rfl rfl rfl rfl ?_); intro W1 HM1; replace HM := Lib.hid HM1; clear HM1; simp only [lss, Nat.reduceAdd] at HM))) | ((with_reducible refine ialloc ?_); refine alb rfl HM.out ?_; intro g1 W1 HM1; replace HM := Lib.hid HM1; clear HM1))
            exact bodyPost_ret (res_box_tmp rfl HM.out 3 rfl rfl rfl rfl) rfl ⟨by rw [resV_of HB.out]; rfl, HM.out.below⟩
          · have HB := Lib.hid (show meetsB ((ts.drop (i + 1)).map ThT.t) (tk.drop (i + 1)) = m by rw [← HI2.out]; rfl)
            go_wp2_with (first | ((with_reducible refine iat 32 ?_); (refine ixa rfl rfl rfl hlt ?_)) | ((with_reducible refine iat 33 ?_); (refine ldxW (HM.out.olds E1.out) rfl rfl ?_)) | ((with_reducible refine iload ?_); first | refine ldbW HM.out 0 rfl rfl rfl ?_ | refine ldbW HM.out 1 rfl rfl rfl ?_ | refine ldbW HM.out 2 rfl rfl rfl ?_ | refine ldbW HM.out 3 rfl rfl rfl ?_ | ((first | refine ldbS HM.out 0 rfl rfl rfl ?_ | refine ldbS HM.out 1 rfl rfl rfl ?_ | refine ldbS HM.out 2 rfl rfl rfl ?_ | refine ldbS HM.out 3 rfl rfl rfl ?_); simp only [List.take, List.drop])) | ((with_reducible refine istore ?_); (first | ((first | refine stbW rfl HM.out 0 rfl rfl rfl rfl rfl rfl ?_ | refine stbW rfl HM.out 1 rfl rfl rfl rfl rfl rfl ?_ | refine stbW rfl HM.out 2 rfl rfl rfl rfl rfl rfl ?_ | refine stbW rfl HM.out 3 rfl rfl rfl rfl rfl rfl ?_); intro W1 HM1; replace HM := Lib.hid HM1; clear HM1; simp only [List.set] at HM) | ((first | refine stbS rfl HM.out 0 rfl rfl rfl rfl rfl rfl ?_ | refine stbS rfl HM.out 1 rfl rfl rfl rfl rfl rfl ?_ | refine stbS rfl HM.out 2 rfl rfl rfl rfl rfl rfl ?_ | refine stbS rfl HM.out 3 rfl rfl rfl rfl rfl rfl ?_); intro W1 HM1; replace HM := Lib.hid HM1; clear HM1; simp only [lss, Nat.reduceAdd] at HM))) | ((with_reducible refine ialloc (d := some 10) ?_); refine alb rfl HM.out ?_; intro g10 W1 HM1; replace HM := Lib.hid HM1; clear HM1) | ((with_reducible refine ialloc ?_); refine alb rfl HM.out ?_; intro g1 W1 HM1; replace HM := Lib.hid HM1; clear HM1))
            refine wp_region_mem (by kernel_rfl) (by kernel_rfl) HM.out ?_; intro hNE; (repeat (any_goals (first | ((with_reducible refine qgd ?_); (with_reducible refine skip_q ?_ ?_ ?_); (exact rfl); (rotate_left; (exact (hNE.elim fun p => ⟨p.W, p, rfl⟩)))) | ((with_reducible refine qnilCheck ?_); (refine qnil rfl ?_)) | ((with_reducible refine qload ?_); first | (refine qdb1 HM.out 0 rfl rfl rfl ?_) | (refine qdb1 HM.out 1 rfl rfl rfl ?_) | (refine qdb1 HM.out 2 rfl rfl rfl ?_) | (refine qdb1 HM.out 3 rfl rfl rfl ?_) | (refine qdbW HM.out 0 rfl rfl rfl ?_) | (refine qdbW HM.out 1 rfl rfl rfl ?_) | (refine qdbW HM.out 2 rfl rfl rfl ?_) | (refine qdbW HM.out 3 rfl rfl rfl ?_) | (refine qdbS HM.out 0 rfl rfl rfl ?_; simp only [List.take, List.drop]) | (refine qdbS HM.out 1 rfl rfl rfl ?_; simp only [List.take, List.drop]) | (refine qdbS HM.out 2 rfl rfl rfl ?_; simp only [List.take, List.drop]) | (refine qdbS HM.out 3 rfl rfl rfl ?_; simp only [List.take, List.drop])) | ((with_reducible show wpQuiet _ _ _ _ (Oper.mk _ (Op.call { callee := Callee.value (Operand.func 46), args := _, argTypes := _ }) _ _ _ _ :: _) _); (refine qcall HM.out (fun W hC => HMt.out W) Tryd.func46 rfl rfl rfl ?_)) | ((with_reducible refine qat 38 ?_); (refine qixa rfl rfl rfl hlt' ?_)) | ((with_reducible refine qat 39 ?_); (refine qdA (vs := [.int .i64 uk, .int .i64 uo]) rfl rfl (fun W ⟨q, hq⟩ => hq ▸ row_el TyD.cs 2 TyD.cs_len (q.mem.get (k := 2) rfl) HU.out) ?_)) | go_big_quiet_step (fail) | quiet_step (fail)))); clear hNE; refine wpQuiet_nil ?_; intro W1 HM1; replace HM := Lib.hid HM1; clear HM1
            go_wp2_with (first | ((with_reducible refine iload ?_); first | refine ldbW HM.out 0 rfl rfl rfl ?_ | refine ldbW HM.out 1 rfl rfl rfl ?_ | refine ldbW HM.out 2 rfl rfl rfl ?_ | refine ldbW HM.out 3 rfl rfl rfl ?_ | ((first | refine ldbS HM.out 0 rfl rfl rfl ?_ | refine ldbS HM.out 1 rfl rfl rfl ?_ | refine ldbS HM.out 2 rfl rfl rfl ?_ | refine ldbS HM.out 3 rfl rfl rfl ?_); simp only [List.take, List.drop])) | ((with_reducible refine istore ?_); (first | ((first | refine stbW rfl HM.out 0 rfl rfl rfl rfl rfl rfl ?_ | refine stbW rfl HM.out 1 rfl rfl rfl rfl rfl rfl ?_ | refine stbW rfl HM.out 2 rfl rfl rfl rfl rfl rfl ?_ | refine stbW rfl HM.out 3 rfl rfl rfl rfl rfl rfl ?_); intro W1 HM1; replace HM := Lib.hid HM1; clear HM1; simp only [List.set] at HM) | ((first | refine stbS rfl HM.out 0 rfl rfl rfl rfl rfl rfl ?_ | refine stbS rfl HM.out 1 rfl rfl rfl rfl rfl rfl ?_ | refine stbS rfl HM.out 2 rfl rfl rfl rfl rfl rfl ?_ | refine stbS rfl HM.out 3 rfl rfl rfl rfl rfl rfl ?_); intro W1 HM1; replace HM := Lib.hid HM1; clear HM1; simp only [lss, Nat.reduceAdd] at HM))) | ((with_reducible refine ialloc ?_); refine alb rfl HM.out ?_; intro g1 W1 HM1; replace HM := Lib.hid HM1; clear HM1))
            go_roundw
            case rel => exact ⟨i + 1, by go_num, hlt3.out, HB, Lib.hid (HM.out.sub (.cons _ (.refl _)))⟩
            case measure => have := hlt3.out; simp [intOf]; omega
        · obtain rfl : i = ts.length := by omega
          have HB := Lib.hid (show v = (⟨gk, go_⟩, 0) by rw [HR.out, ← HI.out, List.drop_of_length_le (Nat.le_refl _)]; rfl)
          have d1 : decide ((ts.length : Int) < ts.length) = false := by simp
          go_wp2_with (first | ((with_reducible refine iload ?_); first | refine ldbW HM.out 0 rfl rfl rfl ?_ | refine ldbW HM.out 1 rfl rfl rfl ?_ | refine ldbW HM.out 2 rfl rfl rfl ?_ | refine ldbW HM.out 3 rfl rfl rfl ?_ | ((first | refine ldbS HM.out 0 rfl rfl rfl ?_ | refine ldbS HM.out 1 rfl rfl rfl ?_ | refine ldbS HM.out 2 rfl rfl rfl ?_ | refine ldbS HM.out 3 rfl rfl rfl ?_); simp only [List.take, List.drop])) | ((with_reducible refine istore ?_); (first | ((first | refine stbW rfl HM.out 0 rfl rfl rfl rfl rfl rfl ?_ | refine stbW rfl HM.out 1 rfl rfl rfl rfl rfl rfl ?_ | refine stbW rfl HM.out 2 rfl rfl rfl rfl rfl rfl ?_ | refine stbW rfl HM.out 3 rfl rfl rfl rfl rfl rfl ?_); intro W1 HM1; replace HM := Lib.hid HM1; clear HM1; simp only [List.set] at HM) | ((first | refine stbS rfl HM.out 0 rfl rfl rfl rfl rfl rfl ?_ | refine stbS rfl HM.out 1 rfl rfl rfl rfl rfl rfl ?_ | refine stbS rfl HM.out 2 rfl rfl rfl rfl rfl rfl ?_ | refine stbS rfl HM.out 3 rfl rfl rfl rfl rfl rfl ?_); intro W1 HM1; replace HM := Lib.hid HM1; clear HM1; simp only [lss, Nat.reduceAdd] at HM))) | ((with_reducible refine ialloc ?_); refine alb rfl HM.out ?_; intro g1 W1 HM1; replace HM := Lib.hid HM1; clear HM1))
          exact bodyPost_ret (res_box_tmp rfl HM.out 2 rfl rfl rfl rfl) rfl ⟨by rw [resV_of HB.out]; rfl, HM.out.below⟩
    · have HR := Lib.hid (show v = (⟨0, 0⟩, 9) by rw [← hv]; unfold callF; rw [List.length_map]; exact if_neg hlen)
      rw [hv]
      have b1 : ((tk.length : Int) != ts.length) = true := by simp; omega
      clear hv hlen
      go_enter Tryd.func85, Tryd.ntmps85
      go_wp2_with (first | (go_at_call 9; (with_reducible refine (HFn.out _).mono ?_); rintro e W2 ⟨q, rfl, hM2⟩; have HM1 := Lib.hid (HM.out.comp hM2); clear HM hM2; simp only [List.cons_append, List.nil_append] at HM1; (try clear W1); rename World => W1; have HM := HM1; clear HM1; simp only [TyD.cs]) | ((with_reducible refine iload ?_); first | refine ldbW HM.out 0 rfl rfl rfl ?_ | refine ldbW HM.out 1 rfl rfl rfl ?_ | refine ldbW HM.out 2 rfl rfl rfl ?_ | ((first | refine ldbS HM.out 0 rfl rfl rfl ?_ | refine ldbS HM.out 1 rfl rfl rfl ?_ | refine ldbS HM.out 2 rfl rfl rfl ?_); simp only [List.take, List.drop])) | ((with_reducible refine istore ?_); (first | ((first | refine stbW rfl HM.out 0 rfl rfl rfl rfl rfl rfl ?_ | refine stbW rfl HM.out 1 rfl rfl rfl rfl rfl rfl ?_ | refine stbW rfl HM.out 2 rfl rfl rfl rfl rfl rfl ?_); intro W1 HM1; replace HM := Lib.hid HM1; clear HM1; simp only [List.set] at HM) | ((first | refine stbS rfl HM.out 0 rfl rfl rfl rfl rfl rfl ?_ | refine stbS rfl HM.out 1 rfl rfl rfl rfl rfl rfl ?_ | refine stbS rfl HM.out 2 rfl rfl rfl rfl rfl rfl ?_); intro W1 HM1; replace HM := Lib.hid HM1; clear HM1; simp only [lss, Nat.reduceAdd] at HM))) | ((with_reducible refine ialloc (d := some 4) ?_); refine alb rfl HM.out ?_; intro g4 W1 HM1; replace HM := Lib.hid HM1; clear HM1) | ((with_reducible refine ialloc (d := some 7) ?_); refine alb rfl HM.out ?_; intro g7 W1 HM1; replace HM := Lib.hid HM1; clear HM1) | ((with_reducible refine ialloc ?_); refine alb rfl HM.out ?_; intro g1 W1 HM1; replace HM := Lib.hid HM1; clear HM1))
      exact bodyPost_ret (res_box_tmp rfl HM.out 2 rfl rfl rfl rfl) rfl ⟨by rw [resV_of HR.out]; rfl, HM.out.below⟩
end Go.Proofs.YtpjcjgikfplgnaaDoor
