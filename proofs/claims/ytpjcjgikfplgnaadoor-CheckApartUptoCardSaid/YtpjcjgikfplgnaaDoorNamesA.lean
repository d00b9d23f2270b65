/- The reference's Names, find, items, call. The reference's Names, items. -/
import Derived.Test.YtpjcjgikfplgnaaDoorThingA
import Derived.Test.YtpjcjgikfplgnaaDoorCheckCall
import Derived.Test.YtpjcjgikfplgnaaDoorRFn2
import Derived.Test.YtpjcjgikfplgnaaDoorSepA
namespace Go.Proofs.YtpjcjgikfplgnaaDoor
open Go.RowKit
set_option linter.unusedVariables false
set_option linter.unusedSimpArgs false
set_option maxRecDepth 100000

theorem str_eq {a b : ByteArray} : (a.toList == b.toList) = true ↔ a = b := by
  constructor
  · intro h
    have h1 := beq_iff_eq.1 h
    rw [ByteArray.toList_eq, ByteArray.toList_eq] at h1
    apply ByteArray.ext
    apply Array.ext'
    exact h1
  · rintro rfl
    simp
theorem str_ne {a b : ByteArray} (h : a ≠ b) : (a.toList == b.toList) = false := by
  cases hc : a.toList == b.toList
  · rfl
  · exact absurd (str_eq.1 hc) h
def findF (s : ByteArray) (l : List SymD) : TyD × Int := (lookT s l).elim (⟨0, 0⟩, 8) fun t => (t, 0)
theorem lookT_cons (s : ByteArray) (x : SymD) (l : List SymD) : lookT s (x :: l) = if s = x.name then some x.t else lookT s l := rfl

set_option maxHeartbeats 4000000 in
theorem find_any (p : Option Addr) (c : Nat) (l : List SymD) (s : ByteArray) (w : World) (hS : Sl w p (l.flatMap SymD.cs)) (hl : l.length ≤ 4611686018427387904) :
    Calls Tryd.prog 69 #[.slice p l.length c, .string s] w fun e w' => e = .returned (resV (findF s l)) ∧ Below w.heap.size w w' := by
  have HM := Lib.hid (Mem.start w)
  obtain ⟨r, hr⟩ : ∃ r, lookT s l = r := ⟨_, rfl⟩
  have HR := Lib.hid (show findF s l = r.elim (⟨0, 0⟩, 8) fun t => (t, 0) by unfold findF; rw [hr])
  have HI := Lib.hid (show lookT s (l.drop 0) = r from hr)
  have HS := Lib.hid hS
  clear hr hS
  go_enter Tryd.func69, Tryd.ntmps69
  go_wp2_with (first | ((with_reducible refine iload ?_); first | refine ldb1 HM.out 0 rfl rfl rfl ?_ | refine ldb1 HM.out 1 rfl rfl rfl ?_ | refine ldbW HM.out 0 rfl rfl rfl ?_ | refine ldbW HM.out 1 rfl rfl rfl ?_ | ((first | refine ldbS HM.out 0 rfl rfl rfl ?_ | refine ldbS HM.out 1 rfl rfl rfl ?_); simp only [List.take, List.drop])) | ((with_reducible refine istore ?_); (first | ((first | refine stbW rfl HM.out 0 rfl rfl rfl rfl rfl rfl ?_ | refine stbW rfl HM.out 1 rfl rfl rfl rfl rfl rfl ?_); intro W1 HM1; replace HM := Lib.hid HM1; clear HM1; simp only [List.set] at HM) | ((first | refine stbS rfl HM.out 0 rfl rfl rfl rfl rfl rfl ?_ | refine stbS rfl HM.out 1 rfl rfl rfl rfl rfl rfl ?_); intro W1 HM1; replace HM := Lib.hid HM1; clear HM1; simp only [lss, Nat.reduceAdd] at HM))) | ((with_reducible refine ialloc (d := some 4) ?_); refine alb rfl HM.out ?_; intro g4 W1 HM1; replace HM := Lib.hid HM1; clear HM1))
  go_loopw [6] (fun iv wr => ∃ i : Nat, iv = .int .i64 i ∧ i ≤ l.length ∧ Hid (lookT s (l.drop i) = r) ∧ Hid (Mem w wr [.box g4 25 [.int .i64 0, .int .i64 0]])) (fun iv _ => l.length - (intOf iv).toNat)
  case atStart => exact ⟨0, rfl, by omega, HI, HM⟩
  case round =>
    clear HM HI
    obtain ⟨i, rfl, hi, HI, HM⟩ := hrel
    by_cases hlt : i < l.length
    · obtain ⟨b, rfl, hb⟩ := HS.out.some_at SymD.cs_len (by decide) hlt
      obtain ⟨x, hx⟩ : ∃ x, l[i]? = some x := ⟨_, List.getElem?_eq_getElem hlt⟩
      obtain ⟨sn, tk, tz⟩ := x
      have E1 := Lib.hid (show Cells w (b.add (i * 3)) [.string sn, .int .i64 tk, .int .i64 tz] from hb.elem SymD.cs 3 SymD.cs_len hx)
      have HI2 := Lib.hid (show (if s = sn then some ⟨tk, tz⟩ else lookT s (l.drop (i + 1))) = r by rw [← HI.out, drop_at hx, lookT_cons])
      have hlt3 := Lib.hid (show i + 1 ≤ l.length from hlt)
      have d1 : decide ((i : Int) < l.length) = true := decide_eq_true (by omega)
      clear hb hx HI
      by_cases he : s = sn
      · have HB := Lib.hid (show findF s l = (⟨tk, tz⟩, 0) by rw [HR.out, ← HI2.out, if_pos he]; rfl)
        have b1 : (sn.toList == s.toList) = true := str_eq.2 he.symm
        clear he HI2
        go_wp2_with (first | ((with_reducible refine iat 15 ?_); (refine ixa rfl rfl rfl hlt ?_)) | ((with_reducible refine iat 22 ?_); (refine ixa rfl rfl rfl hlt ?_)) | ((with_reducible refine iat 17 ?_); (refine ldx0 (HM.out.olds E1.out) rfl rfl ?_)) | ((with_reducible refine iat 24 ?_); (refine ldxW (vs := [.int .i64 tk, .int .i64 tz]) ((HM.out.olds E1.out).at_ 1) rfl rfl ?_)) | ((with_reducible refine iload ?_); first | refine ldb1 HM.out 0 rfl rfl rfl ?_ | refine ldb1 HM.out 1 rfl rfl rfl ?_ | refine ldbW HM.out 0 rfl rfl rfl ?_ | refine ldbW HM.out 1 rfl rfl rfl ?_ | ((first | refine ldbS HM.out 0 rfl rfl rfl ?_ | refine ldbS HM.out 1 rfl rfl rfl ?_); simp only [List.take, List.drop])) | ((with_reducible refine istore ?_); (first | ((first | refine stbW rfl HM.out 0 rfl rfl rfl rfl rfl rfl ?_ | refine stbW rfl HM.out 1 rfl rfl rfl rfl rfl rfl ?_); intro W1 HM1; replace HM := Lib.hid HM1; clear HM1; simp only [List.set] at HM) | ((first | refine stbS rfl HM.out 0 rfl rfl rfl rfl rfl rfl ?_ | refine stbS rfl HM.out 1 rfl rfl rfl rfl rfl rfl ?_); intro W1 HM1; replace HM := Lib.hid HM1; clear HM1; simp only [lss, Nat.reduceAdd] at HM))) | ((with_reducible refine ialloc (d := some 4) ?_); refine alb rfl HM.out ?_; intro g4 W1 HM1; replace HM := Lib.hid HM1; clear HM1))
        exact bodyPost_ret (res_box_tmp rfl HM.out 0 rfl rfl rfl rfl) rfl ⟨by rw [resV_of HB.out]; rfl, HM.out.below⟩
      · have HB := Lib.hid (show lookT s (l.drop (i + 1)) = r by rw [← HI2.out, if_neg he])
        have b1 : (sn.toList == s.toList) = false := str_ne (fun h => he h.symm)
        clear he HI2
        go_wp2_with (first | ((with_reducible refine iat 15 ?_); (refine ixa rfl rfl rfl hlt ?_)) | ((with_reducible refine iat 17 ?_); (refine ldx0 (HM.out.olds E1.out) rfl rfl ?_)) | ((with_reducible refine iload ?_); first | refine ldb1 HM.out 0 rfl rfl rfl ?_ | refine ldb1 HM.out 1 rfl rfl rfl ?_ | refine ldbW HM.out 0 rfl rfl rfl ?_ | refine ldbW HM.out 1 rfl rfl rfl ?_ | ((first | refine ldbS HM.out 0 rfl rfl rfl ?_ | refine ldbS HM.out 1 rfl rfl rfl ?_); simp only [List.take, List.drop])) | ((with_reducible refine istore ?_); (first | ((first | refine stbW rfl HM.out 0 rfl rfl rfl rfl rfl rfl ?_ | refine stbW rfl HM.out 1 rfl rfl rfl rfl rfl rfl ?_); intro W1 HM1; replace HM := Lib.hid HM1; clear HM1; simp only [List.set] at HM) | ((first | refine stbS rfl HM.out 0 rfl rfl rfl rfl rfl rfl ?_ | refine stbS rfl HM.out 1 rfl rfl rfl rfl rfl rfl ?_); intro W1 HM1; replace HM := Lib.hid HM1; clear HM1; simp only [lss, Nat.reduceAdd] at HM))) | ((with_reducible refine ialloc (d := some 4) ?_); refine alb rfl HM.out ?_; intro g4 W1 HM1; replace HM := Lib.hid HM1; clear HM1))
        go_roundw
        case rel => exact ⟨i + 1, by go_num, hlt3.out, HB, HM⟩
        case measure => have := hlt3.out; simp [intOf]; omega
    · obtain rfl : i = l.length := by omega
      have HB := Lib.hid (show findF s l = (⟨0, 0⟩, 8) by rw [HR.out, ← HI.out, List.drop_of_length_le (Nat.le_refl _)]; rfl)
      have d1 : decide ((l.length : Int) < l.length) = false := by simp
      go_wp2_with (first | ((with_reducible refine iload ?_); first | refine ldb1 HM.out 0 rfl rfl rfl ?_ | refine ldb1 HM.out 1 rfl rfl rfl ?_ | refine ldbW HM.out 0 rfl rfl rfl ?_ | refine ldbW HM.out 1 rfl rfl rfl ?_ | ((first | refine ldbS HM.out 0 rfl rfl rfl ?_ | refine ldbS HM.out 1 rfl rfl rfl ?_); simp only [List.take, List.drop])) | ((with_reducible refine istore ?_); (first | ((first | refine stbW rfl HM.out 0 rfl rfl rfl rfl rfl rfl ?_ | refine stbW rfl HM.out 1 rfl rfl rfl rfl rfl rfl ?_); intro W1 HM1; replace HM := Lib.hid HM1; clear HM1; simp only [List.set] at HM) | ((first | refine stbS rfl HM.out 0 rfl rfl rfl rfl rfl rfl ?_ | refine stbS rfl HM.out 1 rfl rfl rfl rfl rfl rfl ?_); intro W1 HM1; replace HM := Lib.hid HM1; clear HM1; simp only [lss, Nat.reduceAdd] at HM))) | ((with_reducible refine ialloc (d := some 4) ?_); refine alb rfl HM.out ?_; intro g4 W1 HM1; replace HM := Lib.hid HM1; clear HM1))
      exact bodyPost_ret (res_box_tmp rfl HM.out 0 rfl rfl rfl rfl) rfl ⟨by rw [resV_of HB.out]; rfl, HM.out.below⟩

set_option maxHeartbeats 4000000 in
theorem rcall_any (s : ByteArray) (p : Option Addr) (c : Nat) (ts : List TyD) (w : World) (hS : Sl w p (ts.flatMap TyD.cs)) (hf : ∀ t, t ∈ ts → t.form) (hl : ts.length ≤ 4611686018427387904) :
    Calls Tryd.prog 72 #[.string s, .slice p ts.length c] w fun e w' => e = .returned (resV (callF (fnF s.toList) ts)) ∧ Below w.heap.size w w' := by
  have HM := Lib.hid (Mem.start w)
  obtain ⟨r, hr⟩ : ∃ r, fnF s.toList = r := ⟨_, rfl⟩
  have hform : ∀ tk g, r = some (tk, g) → (∀ t, t ∈ tk → t.form) ∧ g.form := fun tk g h => fnF_form (hr.trans h)
  have HFn := Lib.hid (fun W => hr ▸ rfunction_any s W)
  rw [hr]
  have HS := Lib.hid hS
  have HF := Lib.hid hf
  clear hr hS hf
  cases r with
  | none =>
    clear hform
    go_enter Tryd.func72, Tryd.ntmps72
    go_wp2_with (first | (go_at_call 16; (with_reducible refine (HFn.out _).mono ?_); rintro e W1 ⟨rfl, hb⟩; replace HM := Lib.hid (HM.out.next hb); clear hb) | ((with_reducible refine iload ?_); first | refine ldbW HM.out 0 rfl rfl rfl ?_ | refine ldbW HM.out 1 rfl rfl rfl ?_ | refine ldbW HM.out 2 rfl rfl rfl ?_ | ((first | refine ldbS HM.out 0 rfl rfl rfl ?_ | refine ldbS HM.out 1 rfl rfl rfl ?_ | refine ldbS HM.out 2 rfl rfl rfl ?_); simp only [List.take, List.drop])) | ((with_reducible refine istore ?_); (first | ((first | refine stbW rfl HM.out 0 rfl rfl rfl rfl rfl rfl ?_ | refine stbW rfl HM.out 1 rfl rfl rfl rfl rfl rfl ?_ | refine stbW rfl HM.out 2 rfl rfl rfl rfl rfl rfl ?_); intro W1 HM1; replace HM := Lib.hid HM1; clear HM1; simp only [List.set] at HM) | ((first | refine stbS rfl HM.out 0 rfl rfl rfl rfl rfl rfl ?_ | refine stbS rfl HM.out 1 rfl rfl rfl rfl rfl rfl ?_ | refine stbS rfl HM.out 2 rfl rfl rfl rfl rfl rfl ?_); intro W1 HM1; replace HM := Lib.hid HM1; clear HM1; simp only [lss, Nat.reduceAdd] at HM))) | ((with_reducible refine ialloc (d := some 4) ?_); refine alb rfl HM.out ?_; intro g4 W1 HM1; replace HM := Lib.hid HM1; clear HM1) | ((with_reducible refine ialloc (d := some 7) ?_); refine alb rfl HM.out ?_; intro g7 W1 HM1; replace HM := Lib.hid HM1; clear HM1))
    exact bodyPost_ret (res_box_tmp rfl HM.out 1 rfl rfl rfl rfl) rfl ⟨rfl, HM.out.below⟩
  | some x =>
    obtain ⟨tk, gk, go_⟩ := x
    have HFt := Lib.hid (hform tk ⟨gk, go_⟩ rfl).1
    clear hform
    obtain ⟨v, hv⟩ : ∃ v, callF (some (tk, ⟨gk, go_⟩)) ts = v := ⟨_, rfl⟩
    by_cases hlen : tk.length = ts.length
    · obtain ⟨m, hm⟩ : ∃ m, meetsB ts tk = m := ⟨_, rfl⟩
      have HR := Lib.hid (show v = if m then (⟨gk, go_⟩, 0) else (⟨0, 0⟩, 9) by rw [← hv, ← hm]; exact if_pos hlen)
      have HI := Lib.hid (show meetsB (ts.drop 0) (tk.drop 0) = m from hm)
      have HL := Lib.hid hlen
      rw [hv]
      have b1 : ((tk.length : Int) != ts.length) = false := by rw [hlen]; simp
      clear hv hm hlen
      go_enter Tryd.func72, Tryd.ntmps72
      go_wp2_with (first | (go_at_call 16; (with_reducible refine (HFn.out _).mono ?_); rintro e W2 ⟨q, rfl, hM2⟩; have HM1 := Lib.hid (HM.out.comp hM2); clear HM hM2; simp only [List.cons_append, List.nil_append] at HM1; (try clear W1); rename World => W1; have HM := HM1; clear HM1; simp only [TyD.cs]) | ((with_reducible refine iload ?_); first | refine ldbW HM.out 0 rfl rfl rfl ?_ | refine ldbW HM.out 1 rfl rfl rfl ?_ | refine ldbW HM.out 2 rfl rfl rfl ?_ | ((first | refine ldbS HM.out 0 rfl rfl rfl ?_ | refine ldbS HM.out 1 rfl rfl rfl ?_ | refine ldbS HM.out 2 rfl rfl rfl ?_); simp only [List.take, List.drop])) | ((with_reducible refine istore ?_); (first | ((first | refine stbW rfl HM.out 0 rfl rfl rfl rfl rfl rfl ?_ | refine stbW rfl HM.out 1 rfl rfl rfl rfl rfl rfl ?_ | refine stbW rfl HM.out 2 rfl rfl rfl rfl rfl rfl ?_); intro W1 HM1; replace HM := Lib.hid HM1; clear HM1; simp only [List.set] at HM) | ((first | refine stbS rfl HM.out 0 rfl rfl rfl rfl rfl rfl ?_ | refine stbS rfl HM.out 1 rfl rfl rfl rfl rfl rfl ?_ | refine stbS rfl HM.out 2 rfl rfl rfl rfl rfl rfl ?_); intro W1 HM1; replace HM := Lib.hid HM1; clear HM1; simp only [lss, Nat.reduceAdd] at HM))) | ((with_reducible refine ialloc (d := some 4) ?_); refine alb rfl HM.out ?_; intro g4 W1 HM1; replace HM := Lib.hid HM1; clear HM1) | ((with_reducible refine ialloc (d := some 7) ?_); refine alb rfl HM.out ?_; intro g7 W1 HM1; replace HM := Lib.hid HM1; clear HM1))
      go_loopw [9] (fun iv wr => ∃ i : Nat, iv = .int .i64 i ∧ i ≤ ts.length ∧ Hid (meetsB (ts.drop i) (tk.drop i) = m) ∧ Hid (Mem w wr [.box g7 25 [.int .i64 gk, .int .i64 go_], .row (some ⟨q, 0, none⟩) tk.length 25 2 tk.length (tk.flatMap TyD.cs), .box g4 25 [.int .i64 0, .int .i64 0]])) (fun iv _ => ts.length - (intOf iv).toNat)
      case atStart => exact ⟨0, rfl, by omega, HI, HM⟩
      case round =>
        clear HM
        obtain ⟨i, rfl, hi, HI, HM⟩ := hrel
        by_cases hlt : i < ts.length
        · obtain ⟨b, rfl, hb⟩ := HS.out.some_at TyD.cs_len (by decide) hlt
          obtain ⟨x, hx⟩ : ∃ x, ts[i]? = some x := ⟨_, List.getElem?_eq_getElem hlt⟩
          have hlt' : i < tk.length := by rw [HL.out]; exact hlt
          obtain ⟨u, hu⟩ : ∃ u, tk[i]? = some u := ⟨_, List.getElem?_eq_getElem hlt'⟩
          have hxf := HF.out x (List.mem_of_getElem? hx)
          have huf := HFt.out u (List.mem_of_getElem? hu)
          obtain ⟨xk, xo⟩ := x
          obtain ⟨uk, uo⟩ := u
          obtain ⟨z, hz⟩ : ∃ z, meetB xk xo uk uo = z := ⟨_, rfl⟩
          have E1 := Lib.hid (show Cells w (b.add (i * 2)) [.int .i64 xk, .int .i64 xo] from hb.elem TyD.cs 2 TyD.cs_len hx)
          have HU := Lib.hid hu
          have HI2 := Lib.hid (show (z && meetsB (ts.drop (i + 1)) (tk.drop (i + 1))) = m by rw [← HI.out, drop_at hx, drop_at hu, ← hz]; rfl)
          have HMt := Lib.hid (fun W => hz ▸ rMeet_any xk xo uk uo W hxf huf)
          have hlt3 := Lib.hid (show i + 1 ≤ ts.length from hlt)
          have d1 : decide ((i : Int) < ts.length) = true := decide_eq_true (by omega)
          clear hb hx hu hz HI hxf huf
          cases z
          · have HB := Lib.hid (show v = (⟨0, 0⟩, 9) by rw [HR.out, ← HI2.out]; rfl)
            go_wp2_with fail
            refine wp_region_mem (by kernel_rfl) (by kernel_rfl) HM.out ?_; intro hNE; (repeat (any_goals (first | ((with_reducible refine qgd ?_); (with_reducible refine skip_q ?_ ?_ ?_); (exact rfl); (rotate_left; (exact (hNE.elim fun p => ⟨p.W, p, rfl⟩)))) | ((with_reducible refine qnilCheck ?_); (refine qnil rfl ?_)) | ((with_reducible refine qload ?_); first | (refine qdb1 HM.out 0 rfl rfl rfl ?_) | (refine qdb1 HM.out 1 rfl rfl rfl ?_) | (refine qdb1 HM.out 2 rfl rfl rfl ?_) | (refine qdbW HM.out 0 rfl rfl rfl ?_) | (refine qdbW HM.out 1 rfl rfl rfl ?_) | (refine qdbW HM.out 2 rfl rfl rfl ?_) | (refine qdbS HM.out 0 rfl rfl rfl ?_; simp only [List.take, List.drop]) | (refine qdbS HM.out 1 rfl rfl rfl ?_; simp only [List.take, List.drop]) | (refine qdbS HM.out 2 rfl rfl rfl ?_; simp only [List.take, List.drop])) | ((with_reducible show wpQuiet _ _ _ _ (Oper.mk _ (Op.call { callee := Callee.value (Operand.func 65), args := _, argTypes := _ }) _ _ _ _ :: _) _); (refine qcall HM.out (fun W hC => HMt.out W) Tryd.func65 rfl rfl rfl ?_)) | ((with_reducible refine qat 33 ?_); (refine qixa rfl rfl rfl hlt ?_)) | ((with_reducible refine qat 37 ?_); (refine qixa rfl rfl rfl hlt' ?_)) | ((with_reducible refine qat 34 ?_); (refine qdA (vs := [.int .i64 xk, .int .i64 xo]) rfl rfl (fun W ⟨q, hq⟩ => hq ▸ q.mem.olds E1.out) ?_)) | ((with_reducible refine qat 38 ?_); (refine qdA (vs := [.int .i64 uk, .int .i64 uo]) rfl rfl (fun W ⟨q, hq⟩ => hq ▸ row_el TyD.cs 2 TyD.cs_len (q.mem.get (k := 1) rfl) HU.out) ?_)) | go_big_quiet_step (fail) | quiet_step (fail)))); clear hNE; refine wpQuiet_nil ?_; intro W1 HM1; replace HM := Lib.hid HM1; clear HM1
            go_wp2_with (first | ((with_reducible refine iload ?_); first | refine ldbW HM.out 0 rfl rfl rfl ?_ | refine ldbW HM.out 1 rfl rfl rfl ?_ | refine ldbW HM.out 2 rfl rfl rfl ?_ | ((first | refine ldbS HM.out 0 rfl rfl rfl ?_ | refine ldbS HM.out 1 rfl rfl rfl ?_ | refine ldbS HM.out 2 rfl rfl rfl ?_); simp only [List.take, List.drop])) | ((with_reducible refine istore ?_); (first | ((first | refine stbW rfl HM.out 0 rfl rfl rfl rfl rfl rfl ?_ | refine stbW rfl HM.out 1 rfl rfl rfl rfl rfl rfl ?_ | refine stbW rfl HM.out 2 rfl rfl rfl rfl rfl rfl ?_); intro W1 HM1; replace HM := Lib.hid HM1; clear HM1; simp only [List.set] at HM) | ((first | refine stbS rfl HM.out 0 rfl rfl rfl rfl rfl rfl ?_ | refine stbS rfl HM.out 1 rfl rfl rfl rfl rfl rfl ?_ | refine stbS rfl HM.out 2 rfl rfl rfl rfl rfl rfl ?_); intro W1 HM1; replace HM := Lib.hid HM1; clear HM1; simp only [lss, Nat.reduceAdd] at HM))) | ((with_reducible refine ialloc ?_); refine alb rfl HM.out ?_; intro g1 W1 HM1; replace HM := Lib.hid HM1; clear HM1))
            exact bodyPost_ret (res_box_tmp rfl HM.out 2 rfl rfl rfl rfl) rfl ⟨by rw [resV_of HB.out]; rfl, HM.out.below⟩
          · have HB := Lib.hid (show meetsB (ts.drop (i + 1)) (tk.drop (i + 1)) = m by rw [← HI2.out]; rfl)
            go_wp2_with fail
            refine wp_region_mem (by kernel_rfl) (by kernel_rfl) HM.out ?_; intro hNE; (repeat (any_goals (first | ((with_reducible refine qgd ?_); (with_reducible refine skip_q ?_ ?_ ?_); (exact rfl); (rotate_left; (exact (hNE.elim fun p => ⟨p.W, p, rfl⟩)))) | ((with_reducible refine qnilCheck ?_); (refine qnil rfl ?_)) | ((with_reducible refine qload ?_); first | (refine qdb1 HM.out 0 rfl rfl rfl ?_) | (refine qdb1 HM.out 1 rfl rfl rfl ?_) | (refine qdb1 HM.out 2 rfl rfl rfl ?_) | (refine qdbW HM.out 0 rfl rfl rfl ?_) | (refine qdbW HM.out 1 rfl rfl rfl ?_) | (refine qdbW HM.out 2 rfl rfl rfl ?_) | (refine qdbS HM.out 0 rfl rfl rfl ?_; simp only [List.take, List.drop]) | (refine qdbS HM.out 1 rfl rfl rfl ?_; simp only [List.take, List.drop]) | (refine qdbS HM.out 2 rfl rfl rfl ?_; simp only [List.take, List.drop])) | ((with_reducible show wpQuiet _ _ _ _ (Oper.mk _ (Op.call { callee := Callee.value (Operand.func 65), args := _, argTypes := _ }) _ _ _ _ :: _) _); (refine qcall HM.out (fun W hC => HMt.out W) Tryd.func65 rfl rfl rfl ?_)) | ((with_reducible refine qat 33 ?_); (refine qixa rfl rfl rfl hlt ?_)) | ((with_reducible refine qat 37 ?_); (refine qixa rfl rfl rfl hlt' ?_)) | ((with_reducible refine qat 34 ?_); (refine qdA (vs := [.int .i64 xk, .int .i64 xo]) rfl rfl (fun W ⟨q, hq⟩ => hq ▸ q.mem.olds E1.out) ?_)) | ((with_reducible refine qat 38 ?_); (refine qdA (vs := [.int .i64 uk, .int .i64 uo]) rfl rfl (fun W ⟨q, hq⟩ => hq ▸ row_el TyD.cs 2 TyD.cs_len (q.mem.get (k := 1) rfl) HU.out) ?_)) | go_big_quiet_step (fail) | quiet_step (fail)))); clear hNE; refine wpQuiet_nil ?_; intro W1 HM1; replace HM := Lib.hid HM1; clear HM1
            go_wp2_with (first | ((with_reducible refine iload ?_); first | refine ldbW HM.out 0 rfl rfl rfl ?_ | refine ldbW HM.out 1 rfl rfl rfl ?_ | refine ldbW HM.out 2 rfl rfl rfl ?_ | ((first | refine ldbS HM.out 0 rfl rfl rfl ?_ | refine ldbS HM.out 1 rfl rfl rfl ?_ | refine ldbS HM.out 2 rfl rfl rfl ?_); simp only [List.take, List.drop])) | ((with_reducible refine istore ?_); (first | ((first | refine stbW rfl HM.out 0 rfl rfl rfl rfl rfl rfl ?_ | refine stbW rfl HM.out 1 rfl rfl rfl rfl rfl rfl ?_ | refine stbW rfl HM.out 2 rfl rfl rfl rfl rfl rfl ?_); intro W1 HM1; replace HM := Lib.hid HM1; clear HM1; simp only [List.set] at HM) | ((first | refine stbS rfl HM.out 0 rfl rfl rfl rfl rfl rfl ?_ | refine stbS rfl HM.out 1 rfl rfl rfl rfl rfl rfl ?_ | refine stbS rfl HM.out 2 rfl rfl rfl rfl rfl rfl ?_); intro W1 HM1; replace HM := Lib.hid HM1; clear HM1; simp only [lss, Nat.reduceAdd] at HM))) | ((with_reducible refine ialloc ?_); refine alb rfl HM.out ?_; intro g1 W1 HM1; replace HM := Lib.hid HM1; clear HM1))
            go_roundw
            case rel => exact ⟨i + 1, by go_num, hlt3.out, HB, HM⟩
            case measure => have := hlt3.out; simp [intOf]; omega
        · obtain rfl : i = ts.length := by omega
          have HB := Lib.hid (show v = (⟨gk, go_⟩, 0) by rw [HR.out, ← HI.out, List.drop_of_length_le (Nat.le_refl _)]; rfl)
          have d1 : decide ((ts.length : Int) < ts.length) = false := by simp
          go_wp2_with (first | ((with_reducible refine iload ?_); first | refine ldbW HM.out 0 rfl rfl rfl ?_ | refine ldbW HM.out 1 rfl rfl rfl ?_ | refine ldbW HM.out 2 rfl rfl rfl ?_ | refine ldbW HM.out 3 rfl rfl rfl ?_ | ((first | refine ldbS HM.out 0 rfl rfl rfl ?_ | refine ldbS HM.out 1 rfl rfl rfl ?_ | refine ldbS HM.out 2 rfl rfl rfl ?_ | refine ldbS HM.out 3 rfl rfl rfl ?_); simp only [List.take, List.drop])) | ((with_reducible refine istore ?_); (first | ((first | refine stbW rfl HM.out 0 rfl rfl rfl rfl rfl rfl ?_ | refine stbW rfl HM.out 1 rfl rfl rfl rfl rfl rfl ?_ | refine stbW rfl HM.out 2 rfl rfl rfl rfl rfl rfl ?_ | refine stbW rfl HM.out 3 rfl rfl rfl rfl rfl rfl ?_); intro W1 HM1; replace HM := Lib.hid HM1; clear HM1; simp only [List.set] at HM) | ((first | refine stbS rfl HM.out 0 rfl rfl rfl rfl rfl rfl ?_ | refine stbS rfl HM.out 1 rfl rfl rfl rfl rfl rfl ?_ | refine stbS rfl HM.out 2 rfl rfl rfl rfl rfl rfl ?_ | refine stbS rfl HM.out 3 rfl rfl rfl rfl rfl rfl ?_); intro W1 HM1; replace HM := Lib.hid HM1; clear HM1; simp only [lss, Nat.reduceAdd] at HM))) | ((with_reducible refine ialloc ?_); refine alb rfl HM.out ?_; intro g1 W1 HM1; replace HM := Lib.hid HM1; clear HM1))
          exact bodyPost_ret (res_box_tmp rfl HM.out 2 rfl rfl rfl rfl) rfl ⟨by rw [resV_of HB.out]; rfl, HM.out.below⟩
    · have HR := Lib.hid (show v = (⟨0, 0⟩, 9) by rw [← hv]; exact if_neg hlen)
      rw [hv]
      have b1 : ((tk.length : Int) != ts.length) = true := by simp; omega
      clear hv hlen
      go_enter Tryd.func72, Tryd.ntmps72
      go_wp2_with (first | (go_at_call 16; (with_reducible refine (HFn.out _).mono ?_); rintro e W2 ⟨q, rfl, hM2⟩; have HM1 := Lib.hid (HM.out.comp hM2); clear HM hM2; simp only [List.cons_append, List.nil_append] at HM1; (try clear W1); rename World => W1; have HM := HM1; clear HM1; simp only [TyD.cs]) | ((with_reducible refine iload ?_); first | refine ldbW HM.out 0 rfl rfl rfl ?_ | refine ldbW HM.out 1 rfl rfl rfl ?_ | refine ldbW HM.out 2 rfl rfl rfl ?_ | ((first | refine ldbS HM.out 0 rfl rfl rfl ?_ | refine ldbS HM.out 1 rfl rfl rfl ?_ | refine ldbS HM.out 2 rfl rfl rfl ?_); simp only [List.take, List.drop])) | ((with_reducible refine istore ?_); (first | ((first | refine stbW rfl HM.out 0 rfl rfl rfl rfl rfl rfl ?_ | refine stbW rfl HM.out 1 rfl rfl rfl rfl rfl rfl ?_ | refine stbW rfl HM.out 2 rfl rfl rfl rfl rfl rfl ?_); intro W1 HM1; replace HM := Lib.hid HM1; clear HM1; simp only [List.set] at HM) | ((first | refine stbS rfl HM.out 0 rfl rfl rfl rfl rfl rfl ?_ | refine stbS rfl HM.out 1 rfl rfl rfl rfl rfl rfl ?_ | refine stbS rfl HM.out 2 rfl rfl rfl rfl rfl rfl ?_); intro W1 HM1; replace HM := Lib.hid HM1; clear HM1; simp only [lss, Nat.reduceAdd] at HM))) | ((with_reducible refine ialloc (d := some 4) ?_); refine alb rfl HM.out ?_; intro g4 W1 HM1; replace HM := Lib.hid HM1; clear HM1) | ((with_reducible refine ialloc (d := some 7) ?_); refine alb rfl HM.out ?_; intro g7 W1 HM1; replace HM := Lib.hid HM1; clear HM1))
      exact bodyPost_ret (res_box_tmp rfl HM.out 2 rfl rfl rfl rfl) rfl ⟨by rw [resV_of HR.out]; rfl, HM.out.below⟩
end Go.Proofs.YtpjcjgikfplgnaaDoor

namespace Go.Proofs.YtpjcjgikfplgnaaDoor
open Go.RowKit
set_option linter.unusedVariables false
set_option linter.unusedSimpArgs false
set_option maxRecDepth 100000

set_option maxHeartbeats 8000000 in
theorem rNames_any (p : Option Addr) (c : Nat) (l : List SymD) (w : World) (hS : Sl w p (l.flatMap SymD.cs)) (hl : l.length ≤ 4611686018427387904) :
    Calls Tryd.prog 20 #[.slice p l.length c] w fun e w' => e = .returned (.int .i64 (namesF l)) ∧ Below w.heap.size w w' := by
  have HM := Lib.hid (Mem.start w)
  by_cases hlong : 100 < l.length
  · have HR := Lib.hid (show namesF l = 6 by unfold namesF; rw [if_pos hlong])
    have hlong' : (100 : Int) < (l.length : Int) := by omega
    clear hlong
    go_enter Tryd.func20, Tryd.ntmps20
    go_wp2_with fail
    go_ret
    exact ⟨by rw [HR.out]; rfl, HM.out.below⟩
  have hshort : (l.length : Int) ≤ 100 := by omega
  obtain ⟨r, hr⟩ : ∃ r, namesF l = r := ⟨_, rfl⟩
  rw [hr]
  have HR := Lib.hid (show namesGo (l.take 0) (l.drop 0) = r by rw [← hr]; unfold namesF; rw [if_neg hlong]; rfl)
  have HS := Lib.hid hS
  clear hr hS hlong
  go_enter Tryd.func20, Tryd.ntmps20
  go_wp2_with fail
  go_loopw [3] (fun iv wr => ∃ i : Nat, iv = .int .i64 i ∧ i ≤ l.length ∧ Hid (namesGo (l.take i) (l.drop i) = r) ∧ Hid (Mem w wr [])) (fun iv _ => l.length - (intOf iv).toNat)
  case atStart => exact ⟨0, rfl, by omega, HR, HM⟩
  case round =>
    clear HM
    obtain ⟨i, rfl, hi, HI, HM⟩ := hrel
    by_cases hlt : i < l.length
    · obtain ⟨b, rfl, hb⟩ := HS.out.some_at SymD.cs_len (by decide) hlt
      obtain ⟨s, hs⟩ : ∃ s, l[i]? = some s := ⟨_, List.getElem?_eq_getElem hlt⟩
      obtain ⟨sn, tk, tz⟩ := s
      have E1 := Lib.hid (show Cells w (b.add (i * 3)) [.string sn, .int .i64 tk, .int .i64 tz] from hb.elem SymD.cs 3 SymD.cs_len hs)
      have HBs := Lib.hid hb
      have HI2 := Lib.hid (show (if (lookT sn (l.take i)).isSome || !nameB sn || !formB tk tz then 2 else namesGo (l.take i ++ [⟨sn, tk, tz⟩]) (l.drop (i + 1))) = r by rw [← namesGo_cons (l.take i) ⟨sn, tk, tz⟩, ← HI.out, drop_at hs])
      have HT := Lib.hid (show l.take (i + 1) = l.take i ++ [⟨sn, tk, tz⟩] by rw [List.take_add_one, hs]; rfl)
      have hlt3 := Lib.hid (show i + 1 ≤ l.length from hlt)
      have d1 : decide ((i : Int) < l.length) = true := decide_eq_true (by omega)
      obtain ⟨nb, hnb⟩ : ∃ nb, nameB sn = nb := ⟨_, rfl⟩
      obtain ⟨fb, hfb⟩ : ∃ fb, formB tk tz = fb := ⟨_, rfl⟩
      have HN := Lib.hid (fun W => hnb ▸ rname_any sn W)
      have HF := Lib.hid (fun W => hfb ▸ rTForm_any tk tz W)
      rw [hnb, hfb] at HI2
      clear hb hs HI hnb hfb
      cases nb
      · have HB := Lib.hid (show r = 2 by rw [← HI2.out]; simp)
        clear HI2
        go_wp2_with (first | ((with_reducible refine iat 16 ?_); (refine ixa rfl rfl rfl hlt ?_)) | ((with_reducible refine iat 18 ?_); (refine ldx0 (HM.out.olds E1.out) rfl rfl ?_)) | ((with_reducible refine igd ?_); (with_reducible refine skip_op ?_ ?_); (exact rfl)) | ((with_reducible refine iload ?_); first | refine ldb1 HM.out 0 rfl rfl rfl ?_ | refine ldbW HM.out 0 rfl rfl rfl ?_ | (refine ldbS HM.out 0 rfl rfl rfl ?_; simp only [List.take, List.drop])) | (go_at_call 36; (with_reducible refine (HN.out _).mono ?_); rintro e W2 ⟨rfl, rfl⟩))
        go_ret
        exact ⟨by rw [HB.out]; rfl, HM.out.below⟩
      · cases fb
        · have HB := Lib.hid (show r = 2 by rw [← HI2.out]; simp)
          clear HI2
          go_wp2_with (first | ((with_reducible refine iat 16 ?_); (refine ixa rfl rfl rfl hlt ?_)) | ((with_reducible refine iat 24 ?_); (refine ixa rfl rfl rfl hlt ?_)) | ((with_reducible refine iat 18 ?_); (refine ldx0 (HM.out.olds E1.out) rfl rfl ?_)) | ((with_reducible refine iat 26 ?_); (refine ldxW (vs := [.int .i64 tk, .int .i64 tz]) ((HM.out.olds E1.out).at_ 1) rfl rfl ?_)) | ((with_reducible refine igd ?_); (with_reducible refine skip_op ?_ ?_); (exact rfl)) | ((with_reducible refine iload ?_); first | refine ldb1 HM.out 0 rfl rfl rfl ?_ | refine ldbW HM.out 0 rfl rfl rfl ?_ | (refine ldbS HM.out 0 rfl rfl rfl ?_; simp only [List.take, List.drop])) | (go_at_call 36; (with_reducible refine (HN.out _).mono ?_); rintro e W2 ⟨rfl, rfl⟩) | (go_at_call 27; (with_reducible refine (HF.out _).mono ?_); rintro e W1 ⟨rfl, hb⟩; replace HM := Lib.hid (HM.out.next hb); clear hb))
          go_ret
          exact ⟨by rw [HB.out]; rfl, HM.out.below⟩
        · obtain ⟨q, hq⟩ : ∃ q, lookT sn (l.take i) = q := ⟨_, rfl⟩
          have HI3 := Lib.hid (show (if q.isSome then 2 else namesGo (l.take i ++ [⟨sn, tk, tz⟩]) (l.drop (i + 1))) = r by rw [← HI2.out, hq]; simp)
          have HQ := Lib.hid (show lookT sn ((l.take i).drop 0) = q from hq)
          clear HI2 hq
          go_wp2_with (first | ((with_reducible refine iat 16 ?_); (refine ixa rfl rfl rfl hlt ?_)) | ((with_reducible refine iat 24 ?_); (refine ixa rfl rfl rfl hlt ?_)) | ((with_reducible refine iat 18 ?_); (refine ldx0 (HM.out.olds E1.out) rfl rfl ?_)) | ((with_reducible refine iat 26 ?_); (refine ldxW (vs := [.int .i64 tk, .int .i64 tz]) ((HM.out.olds E1.out).at_ 1) rfl rfl ?_)) | ((with_reducible refine igd ?_); (with_reducible refine skip_op ?_ ?_); (exact rfl)) | ((with_reducible refine iload ?_); first | refine ldb1 HM.out 0 rfl rfl rfl ?_ | refine ldbW HM.out 0 rfl rfl rfl ?_ | (refine ldbS HM.out 0 rfl rfl rfl ?_; simp only [List.take, List.drop])) | (go_at_call 36; (with_reducible refine (HN.out _).mono ?_); rintro e W2 ⟨rfl, rfl⟩) | (go_at_call 27; (with_reducible refine (HF.out _).mono ?_); rintro e W1 ⟨rfl, hb⟩; replace HM := Lib.hid (HM.out.next hb); clear hb))
          go_loopw [4] (fun kv wr => ∃ k : Nat, kv = .int .i64 k ∧ k ≤ i ∧ Hid (lookT sn ((l.take i).drop k) = q) ∧ Hid (Mem w wr [])) (fun kv _ => i - (intOf kv).toNat)
          case atStart => exact ⟨0, rfl, by omega, HQ, HM⟩
          case round =>
            clear HM HQ
            obtain ⟨k, rfl, hk, HQ, HM⟩ := hrel
            by_cases hki : k < i
            · obtain ⟨u, hu⟩ : ∃ u, l[k]? = some u := ⟨_, List.getElem?_eq_getElem (by omega)⟩
              obtain ⟨un, uk, uo⟩ := u
              have hkl : k < l.length := by omega
              have E2 := Lib.hid (show Cells w (b.add (k * 3)) [.string un, .int .i64 uk, .int .i64 uo] from HBs.out.elem SymD.cs 3 SymD.cs_len hu)
              have hu' : (l.take i)[k]? = some ⟨un, uk, uo⟩ := by rw [List.getElem?_take, if_pos hki, hu]
              have HQ2 := Lib.hid (show (if sn = un then some ⟨uk, uo⟩ else lookT sn ((l.take i).drop (k + 1))) = q by rw [← HQ.out, drop_at hu', lookT_cons])
              have d2 : decide ((k : Int) < i) = true := decide_eq_true (by omega)
              clear hu hu' HQ
              by_cases he : sn = un
              · have HB := Lib.hid (show r = 2 by rw [← HI3.out, ← HQ2.out, if_pos he]; rfl)
                have b1 : (un.toList == sn.toList) = true := str_eq.2 he.symm
                clear he HQ2 HI3
                go_wp2_with fail
                refine wp_region_mem (by kernel_rfl) (by kernel_rfl) HM.out ?_; intro hNE; (repeat (any_goals (first | ((with_reducible refine qgd ?_); (with_reducible refine skip_q ?_ ?_ ?_); (exact rfl); (rotate_left; (exact (hNE.elim fun p => ⟨p.W, p, rfl⟩)))) | ((with_reducible refine qnilCheck ?_); (refine qnil rfl ?_)) | ((with_reducible refine qat 37 ?_); (refine qixa rfl rfl rfl hkl ?_)) | ((with_reducible refine qat 42 ?_); (refine qixa rfl rfl rfl hlt ?_)) | ((with_reducible refine qat 39 ?_); (refine qdx0 E2.out rfl rfl ?_)) | ((with_reducible refine qat 44 ?_); (refine qdx0 E1.out rfl rfl ?_)) | go_big_quiet_step (fail) | quiet_step (fail)))); clear hNE; refine wpQuiet_nil ?_; intro W1 HM1; replace HM := Lib.hid HM1; clear HM1
                go_wp2
                go_ret
                exact ⟨by rw [HB.out]; rfl, HM.out.below⟩
              · have HB := Lib.hid (show lookT sn ((l.take i).drop (k + 1)) = q by rw [← HQ2.out, if_neg he])
                have b1 : (un.toList == sn.toList) = false := str_ne (fun h => he h.symm)
                clear he HQ2
                go_wp2_with fail
                refine wp_region_mem (by kernel_rfl) (by kernel_rfl) HM.out ?_; intro hNE; (repeat (any_goals (first | ((with_reducible refine qgd ?_); (with_reducible refine skip_q ?_ ?_ ?_); (exact rfl); (rotate_left; (exact (hNE.elim fun p => ⟨p.W, p, rfl⟩)))) | ((with_reducible refine qnilCheck ?_); (refine qnil rfl ?_)) | ((with_reducible refine qat 37 ?_); (refine qixa rfl rfl rfl hkl ?_)) | ((with_reducible refine qat 42 ?_); (refine qixa rfl rfl rfl hlt ?_)) | ((with_reducible refine qat 39 ?_); (refine qdx0 E2.out rfl rfl ?_)) | ((with_reducible refine qat 44 ?_); (refine qdx0 E1.out rfl rfl ?_)) | go_big_quiet_step (fail) | quiet_step (fail)))); clear hNE; refine wpQuiet_nil ?_; intro W1 HM1; replace HM := Lib.hid HM1; clear HM1
                go_wp2
                go_roundw
                case rel => exact ⟨k + 1, by go_num, by omega, HB, HM⟩
                case measure => simp [intOf]; omega
            · obtain rfl : k = i := by omega
              have HB := Lib.hid (show namesGo (l.take (k + 1)) (l.drop (k + 1)) = r by
                have e : (l.take k).drop k = [] := List.drop_of_length_le (by rw [List.length_take]; omega)
                rw [HT.out, ← HI3.out, ← HQ.out, e]
                rfl)
              have d2 : decide ((k : Int) < k) = false := by simp
              clear HQ HI3
              go_wp2
              go_roundw
              case rel => exact ⟨k + 1, by go_num, hlt3.out, HB, HM⟩
              case measure => have := hlt3.out; simp [intOf]; omega
    · obtain rfl : i = l.length := by omega
      have hr : r = 0 := by rw [← HI.out, List.drop_of_length_le (Nat.le_refl _)]; rfl
      subst hr
      have d1 : decide ((l.length : Int) < l.length) = false := by simp
      go_wp2
      go_ret
      exact ⟨rfl, HM.out.below⟩

/-- A list's type, as the reference has it. -/
theorem itemsG_bad {k : Int} : ∀ {l : List TyD} {i : Nat}, 0 < i → (∃ t, t ∈ l ∧ t.k ≠ k) → itemsG i k l = ⟨5, 0⟩
  | [], i, hi, ⟨t, ht, _⟩ => by cases ht
  | x :: l, i, hi, ⟨t, ht, hne⟩ => by
    rw [itemsG_cons]
    split
    · rfl
    · rename_i hc
      have hx : x.k = k := by omega
      rcases List.mem_cons.1 ht with rfl | ht
      · exact absurd hx hne
      · exact itemsG_bad (by omega) ⟨t, ht, by rw [hx]; exact hne⟩
theorem itemsG_good {k : Int} : ∀ {l : List TyD} {i : Nat}, 1 ≤ k ∧ k ≤ 4 → (∀ t, t ∈ l → t.k = k) → itemsG i k l = ⟨5, k⟩
  | [], i, hk, h => rfl
  | x :: l, i, hk, h => by
    have hx := h x (by simp)
    rw [itemsG_cons, if_neg (by omega), hx]
    exact itemsG_good hk (fun t ht => h t (by simp [ht]))
theorem items_head {x : TyD} {l : List TyD} (h : ¬ (1 ≤ x.k ∧ x.k ≤ 4)) : itemsF (x :: l) = ⟨5, 0⟩ := by
  unfold itemsF
  rw [itemsG_cons, if_pos (by omega)]
theorem items_bad {x : TyD} {l : List TyD} (t : TyD) (ht : t ∈ x :: l) (hne : t.k ≠ x.k) : itemsF (x :: l) = ⟨5, 0⟩ := by
  unfold itemsF
  rw [itemsG_cons]
  split
  · rfl
  · rcases List.mem_cons.1 ht with rfl | ht
    · exact absurd rfl hne
    · exact itemsG_bad (by omega) ⟨t, ht, hne⟩
theorem items_good {x : TyD} {l : List TyD} (hk : 1 ≤ x.k ∧ x.k ≤ 4) (h : ∀ t, t ∈ x :: l → t.k = x.k) : itemsF (x :: l) = ⟨5, x.k⟩ := by
  unfold itemsF
  rw [itemsG_cons, if_neg (by omega)]
  exact itemsG_good hk (fun t ht => h t (by simp [ht]))
theorem form_simple {t : TyD} (h : t.form) (hk : 1 ≤ t.k ∧ t.k ≤ 4) : t.o = 0 := by
  unfold TyD.form at h
  rw [formB_iff] at h
  omega

set_option maxHeartbeats 8000000 in
theorem ritems_any (p : Option Addr) (c : Nat) (ts : List TyD) (w : World) (hS : Sl w p (ts.flatMap TyD.cs)) (hf : ∀ t, t ∈ ts → t.form) (hl : ts.length ≤ 4611686018427387904) :
    Calls Tryd.prog 73 #[.slice p ts.length c] w fun e w' => e = .returned (itemsF ts).val ∧ Below w.heap.size w w' := by
  have HM := Lib.hid (Mem.start w)
  cases ts with
  | nil =>
    clear hS hf
    go_enter Tryd.func73, Tryd.ntmps73
    go_wp2_with (first | (go_at_call 30; (with_reducible refine (rlist_any _ _).mono ?_); rintro e W1 ⟨rfl, hb⟩; replace HM := Lib.hid (HM.out.next hb); clear hb) | ((with_reducible refine igd ?_); (with_reducible refine skip_op ?_ ?_); (exact rfl)) | ((with_reducible refine iload ?_); first | refine ldb1 HM.out 0 rfl rfl rfl ?_ | refine ldb1 HM.out 1 rfl rfl rfl ?_ | refine ldbW HM.out 0 rfl rfl rfl ?_ | refine ldbW HM.out 1 rfl rfl rfl ?_ | ((first | refine ldbS HM.out 0 rfl rfl rfl ?_ | refine ldbS HM.out 1 rfl rfl rfl ?_); simp only [List.take, List.drop])) | ((with_reducible refine istore ?_); (first | ((first | refine stbW rfl HM.out 0 rfl rfl rfl rfl rfl rfl ?_ | refine stbW rfl HM.out 1 rfl rfl rfl rfl rfl rfl ?_); intro W1 HM1; replace HM := Lib.hid HM1; clear HM1; simp only [List.set] at HM) | ((first | refine stbS rfl HM.out 0 rfl rfl rfl rfl rfl rfl ?_ | refine stbS rfl HM.out 1 rfl rfl rfl rfl rfl rfl ?_); intro W1 HM1; replace HM := Lib.hid HM1; clear HM1; simp only [lss, Nat.reduceAdd] at HM))) | ((with_reducible refine ialloc (d := some 2) ?_); refine alb rfl HM.out ?_; intro g2 W1 HM1; replace HM := Lib.hid HM1; clear HM1))
    exact bodyPost_ret (res_box rfl HM.out 0 rfl rfl rfl) rfl ⟨rfl, HM.out.below⟩
  | cons x0 l0 =>
    obtain ⟨N, hN⟩ : ∃ N, (x0 :: l0).length = N := ⟨_, rfl⟩
    have hpos : 0 < N := by rw [← hN]; simp
    rw [hN] at hl
    obtain ⟨b, rfl, hb⟩ := hS.some_at (i := 0) TyD.cs_len (by decide) (by simp)
    have E0 := Lib.hid (show Cells w (b.add (0 * 2)) [.int .i64 x0.k, .int .i64 x0.o] from hb.elem TyD.cs 2 TyD.cs_len (i := 0) rfl)
    have HBs := Lib.hid hb
    have HFx := Lib.hid hf
    have HN := Lib.hid hN
    have hx0 := hf x0 (by simp)
    obtain ⟨v, hv⟩ : ∃ v, itemsF (x0 :: l0) = v := ⟨_, rfl⟩
    have HV := Lib.hid hv
    have hgd : (1 ≤ x0.k ∧ x0.k ≤ 4) ∨ ¬ (1 ≤ x0.k ∧ x0.k ≤ 4) := by omega
    have HX0 := Lib.hid hx0
    rw [hv, hN]
    clear hS hf hb hv hN hx0
    have b0 : ((N : Int) == 0) = false := beq_false_of_ne (by omega)
    obtain ⟨k0, o0⟩ := x0
    go_enter Tryd.func73, Tryd.ntmps73
    go_wp2_with (first | (go_at_call 30; (with_reducible refine (rlist_any _ _).mono ?_); rintro e W1 ⟨rfl, hb⟩; replace HM := Lib.hid (HM.out.next hb); clear hb) | ((with_reducible refine igd ?_); (with_reducible refine skip_op ?_ ?_); (exact rfl)) | ((with_reducible refine iload ?_); first | refine ldb1 HM.out 0 rfl rfl rfl ?_ | refine ldb1 HM.out 1 rfl rfl rfl ?_ | refine ldbW HM.out 0 rfl rfl rfl ?_ | refine ldbW HM.out 1 rfl rfl rfl ?_ | ((first | refine ldbS HM.out 0 rfl rfl rfl ?_ | refine ldbS HM.out 1 rfl rfl rfl ?_); simp only [List.take, List.drop])) | ((with_reducible refine istore ?_); (first | ((first | refine stbW rfl HM.out 0 rfl rfl rfl rfl rfl rfl ?_ | refine stbW rfl HM.out 1 rfl rfl rfl rfl rfl rfl ?_); intro W1 HM1; replace HM := Lib.hid HM1; clear HM1; simp only [List.set] at HM) | ((first | refine stbS rfl HM.out 0 rfl rfl rfl rfl rfl rfl ?_ | refine stbS rfl HM.out 1 rfl rfl rfl rfl rfl rfl ?_); intro W1 HM1; replace HM := Lib.hid HM1; clear HM1; simp only [lss, Nat.reduceAdd] at HM))) | ((with_reducible refine ialloc (d := some 2) ?_); refine alb rfl HM.out ?_; intro g2 W1 HM1; replace HM := Lib.hid HM1; clear HM1))
    go_loopw [3] (fun iv wr => ∃ i : Nat, iv = .int .i64 i ∧ i ≤ N ∧ Hid (i = 0 ∨ (1 ≤ k0 ∧ k0 ≤ 4)) ∧ Hid (∀ t, t ∈ ((⟨k0, o0⟩ : TyD) :: l0).take i → t.k = k0) ∧ Hid (Mem w wr [.box g2 25 [.int .i64 0, .int .i64 0]])) (fun iv _ => N - (intOf iv).toNat)
    case atStart => exact ⟨0, rfl, by omega, Lib.hid (Or.inl rfl), Lib.hid (fun t ht => by cases ht), HM⟩
    case round =>
      clear HM
      obtain ⟨i, rfl, hi, HG, HA, HM⟩ := hrel
      by_cases hlt : i < N
      · obtain ⟨x, hx⟩ : ∃ x, ((⟨k0, o0⟩ : TyD) :: l0)[i]? = some x := ⟨_, List.getElem?_eq_getElem (by rw [HN.out]; exact hlt)⟩
        have hxm := List.mem_of_getElem? hx
        have hxf := HFx.out x hxm
        have htk : (((⟨k0, o0⟩ : TyD) :: l0).take (i + 1)) = ((⟨k0, o0⟩ : TyD) :: l0).take i ++ [x] := by rw [List.take_add_one, hx]; rfl
        obtain ⟨xk, xo⟩ := x
        have E1 := Lib.hid (show Cells w (b.add (i * 2)) [.int .i64 xk, .int .i64 xo] from HBs.out.elem TyD.cs 2 TyD.cs_len hx)
        have hlt3 := Lib.hid (show i + 1 ≤ N from hlt)
        have d1 : decide ((i : Int) < N) = true := decide_eq_true (by omega)
        by_cases hg : 1 ≤ k0 ∧ k0 ≤ 4
        · have ho0 : o0 = 0 := form_simple HX0.out hg
          have hg1 := hg.1
          have hg2 := hg.2
          by_cases he : xk = k0
          · have hxo : xo = 0 := form_simple (t := ⟨xk, xo⟩) hxf (by rw [show (⟨xk, xo⟩ : TyD).k = k0 from he]; exact hg)
            have HA2 := Lib.hid (show ∀ t, t ∈ ((⟨k0, o0⟩ : TyD) :: l0).take (i + 1) → t.k = k0 from fun t ht => by
              rw [htk] at ht
              rcases List.mem_append.1 ht with ht | ht
              · exact HA.out t ht
              · rw [List.mem_singleton.1 ht]; exact he)
            have HG2 := Lib.hid (show i + 1 = 0 ∨ (1 ≤ k0 ∧ k0 ≤ 4) from Or.inr hg)
            have e1 : (xk != k0) = false := by simp [he]
            have e2 : (xo != o0) = false := by rw [hxo, ho0]; rfl
            have e3 : (xk == k0) = true := by simp [he]
            have e4 : (xo == o0) = true := by rw [hxo, ho0]; rfl
            clear hx hxm hxf htk hg ho0 he hxo HA HG
            go_wp2_with fail
            refine wp_region_mem (by kernel_rfl) (by kernel_rfl) HM.out ?_; intro hNE; (repeat (any_goals (first | ((with_reducible refine qgd ?_); (with_reducible refine skip_q ?_ ?_ ?_); (exact rfl); (rotate_left; (exact (hNE.elim fun p => ⟨p.W, p, rfl⟩)))) | ((with_reducible refine qnilCheck ?_); (refine qnil rfl ?_)) | ((with_reducible refine qload ?_); first | (refine qdb1 HM.out 0 rfl rfl rfl ?_) | (refine qdbW HM.out 0 rfl rfl rfl ?_) | (refine qdbS HM.out 0 rfl rfl rfl ?_; simp only [List.take, List.drop])) | ((with_reducible refine qat 16 ?_); (refine qixa rfl rfl rfl hlt ?_)) | ((with_reducible refine qat 19 ?_); (refine qixa (i := 0) rfl rfl rfl hpos ?_)) | ((with_reducible refine qat 24 ?_); (refine qixa (i := 0) rfl rfl rfl hpos ?_)) | ((with_reducible refine qat 31 ?_); (refine qixa (i := 0) rfl rfl rfl hpos ?_)) | ((with_reducible refine qat 17 ?_); (refine qdA (vs := [.int .i64 xk, .int .i64 xo]) rfl rfl (fun W ⟨q, hq⟩ => hq ▸ q.mem.olds E1.out) ?_)) | ((with_reducible refine qat 20 ?_); (refine qdA (vs := [.int .i64 k0, .int .i64 o0]) rfl rfl (fun W ⟨q, hq⟩ => hq ▸ q.mem.olds E0.out) ?_)) | ((with_reducible refine qat 26 ?_); (refine qdx0 E0.out rfl rfl ?_)) | ((with_reducible refine qat 33 ?_); (refine qdx0 E0.out rfl rfl ?_)) | go_big_quiet_step (fail) | quiet_step (fail)))); clear hNE; refine wpQuiet_nil ?_; intro W1 HM1; replace HM := Lib.hid HM1; clear HM1
            go_wp2
            go_roundw
            case rel => exact ⟨i + 1, by go_num, hlt3.out, HG2, HA2, HM⟩
            case measure => have := hlt3.out; simp [intOf]; omega
          · have HB := Lib.hid (show (⟨5, 0⟩ : TyD) = v by rw [← HV.out]; exact (items_bad (x := ⟨k0, o0⟩) ⟨xk, xo⟩ hxm he).symm)
            have e1 : (xk != k0) = true := by simpa using he
            have e3 : (xk == k0) = false := beq_false_of_ne he
            clear hx hxm hxf htk hg ho0 he HA HG
            go_wp2_with fail
            refine wp_region_mem (by kernel_rfl) (by kernel_rfl) HM.out ?_; intro hNE; (repeat (any_goals (first | ((with_reducible refine qgd ?_); (with_reducible refine skip_q ?_ ?_ ?_); (exact rfl); (rotate_left; (exact (hNE.elim fun p => ⟨p.W, p, rfl⟩)))) | ((with_reducible refine qnilCheck ?_); (refine qnil rfl ?_)) | ((with_reducible refine qload ?_); first | (refine qdb1 HM.out 0 rfl rfl rfl ?_) | (refine qdbW HM.out 0 rfl rfl rfl ?_) | (refine qdbS HM.out 0 rfl rfl rfl ?_; simp only [List.take, List.drop])) | ((with_reducible refine qat 16 ?_); (refine qixa rfl rfl rfl hlt ?_)) | ((with_reducible refine qat 19 ?_); (refine qixa (i := 0) rfl rfl rfl hpos ?_)) | ((with_reducible refine qat 24 ?_); (refine qixa (i := 0) rfl rfl rfl hpos ?_)) | ((with_reducible refine qat 31 ?_); (refine qixa (i := 0) rfl rfl rfl hpos ?_)) | ((with_reducible refine qat 17 ?_); (refine qdA (vs := [.int .i64 xk, .int .i64 xo]) rfl rfl (fun W ⟨q, hq⟩ => hq ▸ q.mem.olds E1.out) ?_)) | ((with_reducible refine qat 20 ?_); (refine qdA (vs := [.int .i64 k0, .int .i64 o0]) rfl rfl (fun W ⟨q, hq⟩ => hq ▸ q.mem.olds E0.out) ?_)) | ((with_reducible refine qat 26 ?_); (refine qdx0 E0.out rfl rfl ?_)) | ((with_reducible refine qat 33 ?_); (refine qdx0 E0.out rfl rfl ?_)) | go_big_quiet_step (fail) | quiet_step (fail)))); clear hNE; refine wpQuiet_nil ?_; intro W1 HM1; replace HM := Lib.hid HM1; clear HM1
            go_wp2_with (first | (go_at_call 30; (with_reducible refine (rlist_any _ _).mono ?_); rintro e W1 ⟨rfl, hb⟩; replace HM := Lib.hid (HM.out.next hb); clear hb) | ((with_reducible refine igd ?_); (with_reducible refine skip_op ?_ ?_); (exact rfl)) | ((with_reducible refine iload ?_); first | refine ldb1 HM.out 0 rfl rfl rfl ?_ | refine ldb1 HM.out 1 rfl rfl rfl ?_ | refine ldbW HM.out 0 rfl rfl rfl ?_ | refine ldbW HM.out 1 rfl rfl rfl ?_ | ((first | refine ldbS HM.out 0 rfl rfl rfl ?_ | refine ldbS HM.out 1 rfl rfl rfl ?_); simp only [List.take, List.drop])) | ((with_reducible refine istore ?_); (first | ((first | refine stbW rfl HM.out 0 rfl rfl rfl rfl rfl rfl ?_ | refine stbW rfl HM.out 1 rfl rfl rfl rfl rfl rfl ?_); intro W1 HM1; replace HM := Lib.hid HM1; clear HM1; simp only [List.set] at HM) | ((first | refine stbS rfl HM.out 0 rfl rfl rfl rfl rfl rfl ?_ | refine stbS rfl HM.out 1 rfl rfl rfl rfl rfl rfl ?_); intro W1 HM1; replace HM := Lib.hid HM1; clear HM1; simp only [lss, Nat.reduceAdd] at HM))) | ((with_reducible refine ialloc ?_); refine alb rfl HM.out ?_; intro g1 W1 HM1; replace HM := Lib.hid HM1; clear HM1))
            exact bodyPost_ret (res_box rfl HM.out 0 rfl rfl rfl) rfl ⟨by rw [list_fin HB.out], HM.out.below⟩
        · have hi0 : i = 0 := by
            rcases HG.out with h | h
            · exact h
            · exact absurd h hg
          have HB := Lib.hid (show (⟨5, 0⟩ : TyD) = v by rw [← HV.out]; exact (items_head (x := ⟨k0, o0⟩) hg).symm)
          subst hi0
          have hxx : (⟨k0, o0⟩ : TyD) = ⟨xk, xo⟩ := by simpa using hx
          cases hxx
          have hgc : k0 < 1 ∨ (1 ≤ k0 ∧ 4 < k0) := by omega
          have HGC := Lib.hid hgc
          clear hx hxm hxf htk hg HA HG hgc
          rcases HGC.out with hg1 | ⟨hg1, hg2⟩
          all_goals
            go_wp2_with fail
            refine wp_region_mem (by kernel_rfl) (by kernel_rfl) HM.out ?_; intro hNE; (repeat (any_goals (first | ((with_reducible refine qgd ?_); (with_reducible refine skip_q ?_ ?_ ?_); (exact rfl); (rotate_left; (exact (hNE.elim fun p => ⟨p.W, p, rfl⟩)))) | ((with_reducible refine qnilCheck ?_); (refine qnil rfl ?_)) | ((with_reducible refine qload ?_); first | (refine qdb1 HM.out 0 rfl rfl rfl ?_) | (refine qdbW HM.out 0 rfl rfl rfl ?_) | (refine qdbS HM.out 0 rfl rfl rfl ?_; simp only [List.take, List.drop])) | ((with_reducible refine qat 16 ?_); (refine qixa (i := 0) rfl rfl rfl hpos ?_)) | ((with_reducible refine qat 19 ?_); (refine qixa (i := 0) rfl rfl rfl hpos ?_)) | ((with_reducible refine qat 24 ?_); (refine qixa (i := 0) rfl rfl rfl hpos ?_)) | ((with_reducible refine qat 31 ?_); (refine qixa (i := 0) rfl rfl rfl hpos ?_)) | ((with_reducible refine qat 17 ?_); (refine qdA (vs := [.int .i64 k0, .int .i64 o0]) rfl rfl (fun W ⟨q, hq⟩ => hq ▸ q.mem.olds E0.out) ?_)) | ((with_reducible refine qat 20 ?_); (refine qdA (vs := [.int .i64 k0, .int .i64 o0]) rfl rfl (fun W ⟨q, hq⟩ => hq ▸ q.mem.olds E0.out) ?_)) | ((with_reducible refine qat 26 ?_); (refine qdx0 E0.out rfl rfl ?_)) | ((with_reducible refine qat 33 ?_); (refine qdx0 E0.out rfl rfl ?_)) | go_big_quiet_step (fail) | quiet_step (fail)))); clear hNE; refine wpQuiet_nil ?_; intro W1 HM1; replace HM := Lib.hid HM1; clear HM1
            go_wp2_with (first | (go_at_call 30; (with_reducible refine (rlist_any _ _).mono ?_); rintro e W1 ⟨rfl, hb⟩; replace HM := Lib.hid (HM.out.next hb); clear hb) | ((with_reducible refine igd ?_); (with_reducible refine skip_op ?_ ?_); (exact rfl)) | ((with_reducible refine iload ?_); first | refine ldb1 HM.out 0 rfl rfl rfl ?_ | refine ldb1 HM.out 1 rfl rfl rfl ?_ | refine ldbW HM.out 0 rfl rfl rfl ?_ | refine ldbW HM.out 1 rfl rfl rfl ?_ | ((first | refine ldbS HM.out 0 rfl rfl rfl ?_ | refine ldbS HM.out 1 rfl rfl rfl ?_); simp only [List.take, List.drop])) | ((with_reducible refine istore ?_); (first | ((first | refine stbW rfl HM.out 0 rfl rfl rfl rfl rfl rfl ?_ | refine stbW rfl HM.out 1 rfl rfl rfl rfl rfl rfl ?_); intro W1 HM1; replace HM := Lib.hid HM1; clear HM1; simp only [List.set] at HM) | ((first | refine stbS rfl HM.out 0 rfl rfl rfl rfl rfl rfl ?_ | refine stbS rfl HM.out 1 rfl rfl rfl rfl rfl rfl ?_); intro W1 HM1; replace HM := Lib.hid HM1; clear HM1; simp only [lss, Nat.reduceAdd] at HM))) | ((with_reducible refine ialloc ?_); refine alb rfl HM.out ?_; intro g1 W1 HM1; replace HM := Lib.hid HM1; clear HM1))
            exact bodyPost_ret (res_box rfl HM.out 0 rfl rfl rfl) rfl ⟨by rw [list_fin HB.out], HM.out.below⟩
      · obtain rfl : i = N := by omega
        have hgd2 : 1 ≤ k0 ∧ k0 ≤ 4 := by
          rcases HG.out with h | h
          · omega
          · exact h
        have HB := Lib.hid (show (⟨5, k0⟩ : TyD) = v by
          rw [← HV.out]
          refine (items_good (x := ⟨k0, o0⟩) hgd2 (fun t ht => HA.out t ?_)).symm
          rw [List.take_of_length_le (by rw [HN.out]; exact Nat.le_refl _)]
          exact ht)
        have d1 : decide ((i : Int) < i) = false := by simp
        clear HA HG hgd2
        go_wp2_with (first | ((with_reducible refine iat 38 ?_); (refine ixa (i := 0) rfl rfl rfl hpos ?_)) | ((with_reducible refine iat 40 ?_); (refine ldx0 (HM.out.olds E0.out) rfl rfl ?_)) | (go_at_call 30; (with_reducible refine (rlist_any _ _).mono ?_); rintro e W1 ⟨rfl, hb⟩; replace HM := Lib.hid (HM.out.next hb); clear hb) | ((with_reducible refine igd ?_); (with_reducible refine skip_op ?_ ?_); (exact rfl)) | ((with_reducible refine iload ?_); first | refine ldb1 HM.out 0 rfl rfl rfl ?_ | refine ldb1 HM.out 1 rfl rfl rfl ?_ | refine ldbW HM.out 0 rfl rfl rfl ?_ | refine ldbW HM.out 1 rfl rfl rfl ?_ | ((first | refine ldbS HM.out 0 rfl rfl rfl ?_ | refine ldbS HM.out 1 rfl rfl rfl ?_); simp only [List.take, List.drop])) | ((with_reducible refine istore ?_); (first | ((first | refine stbW rfl HM.out 0 rfl rfl rfl rfl rfl rfl ?_ | refine stbW rfl HM.out 1 rfl rfl rfl rfl rfl rfl ?_); intro W1 HM1; replace HM := Lib.hid HM1; clear HM1; simp only [List.set] at HM) | ((first | refine stbS rfl HM.out 0 rfl rfl rfl rfl rfl rfl ?_ | refine stbS rfl HM.out 1 rfl rfl rfl rfl rfl rfl ?_); intro W1 HM1; replace HM := Lib.hid HM1; clear HM1; simp only [lss, Nat.reduceAdd] at HM))) | ((with_reducible refine ialloc ?_); refine alb rfl HM.out ?_; intro g1 W1 HM1; replace HM := Lib.hid HM1; clear HM1))
        exact bodyPost_ret (res_box rfl HM.out 0 rfl rfl rfl) rfl ⟨by rw [list_fin HB.out], HM.out.below⟩
end Go.Proofs.YtpjcjgikfplgnaaDoor
