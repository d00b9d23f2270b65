/- Nodes as plain data; expr.fits, expr.unlike, the reference's fields, twice. -/
import Derived.Test.YtpjcjgikfplgnaaDoorPlain
import Derived.Test.YtpjcjgikfplgnaaDoorExprSmall
import Derived.Test.YtpjcjgikfplgnaaDoorWideA
import Derived.Test.YtpjcjgikfplgnaaDoorCharsA
namespace Go.Proofs.YtpjcjgikfplgnaaDoor
open Go.RowKit
set_option linter.unusedVariables false
set_option linter.unusedSimpArgs false
set_option maxRecDepth 100000

structure NodeD where
  op : Int
  kids : Int
  text : ByteArray
  neg : Bool
  hi : Nat
  lo : Nat
  sc : Int
  day : Int
def NodeD.cs (n : NodeD) : List Value := [.int .i64 n.op, .int .i64 n.kids, .string n.text, .bool n.neg, .int .u64 n.hi, .int .u64 n.lo, .int .i64 n.sc, .int .i64 n.day]
def NodeD.val (n : NodeD) : Value := nodeV n.op n.kids n.text n.neg n.hi n.lo n.sc n.day
def NodeD.num (n : NodeD) : Nat := n.hi * 2 ^ 64 + n.lo
/-- The words are words, the text is no longer than any, the counts are ints. -/
structure NodeD.wf (n : NodeD) : Prop where
  hi : n.hi < 2 ^ 64
  lo : n.lo < 2 ^ 64
  text : n.text.size ≤ 1099511627776
  kids : -9223372036854775808 ≤ n.kids ∧ n.kids ≤ 9223372036854775807
theorem NodeD.cs_len (n : NodeD) : n.cs.length = 8 := rfl
theorem NodeD.w2 {n : NodeD} (h : n.wf) : W2 n.num n.hi n.lo := ⟨rfl, h.lo, h.hi⟩

/-- What is left of the fields behind expr.plain. -/
def usesText (op : Int) : Bool := decide (op = 5 ∨ op = 35) || namedOp op
def leftT (op : Int) (t : ByteArray) : ByteArray := if usesText op then ⟨#[]⟩ else t
def leftB (op : Int) (b : Bool) : Bool := if op = 4 then false else b
def leftN (op : Int) (n : Nat) : Nat := if op = 4 then 0 else n
def leftS (op : Int) (s : Int) : Int := if op = 4 then 0 else s
def leftD (op : Int) (d : Int) : Int := if op = 6 then 0 else d
theorem clrV_eq (op kids : Int) (text : ByteArray) (neg : Bool) (hi lo : Nat) (sc day : Int) : clrV op kids text neg hi lo sc day = nodeV op kids (leftT op text) (leftB op neg) (leftN op hi) (leftN op lo) (leftS op sc) (leftD op day) := by
  unfold clrV leftT leftB leftN leftS leftD usesText
  by_cases h4 : op = 4
  · subst h4; simp [namedOp]
  by_cases h6 : op = 6
  · subst h6; simp [namedOp]
  by_cases h5 : op = 5 ∨ op = 35 ∨ namedOp op = true
  · rcases h5 with h5 | h5 | h5 <;> simp [h4, h6, h5]
  · have := not_or.1 h5
    have := not_or.1 this.2
    simp [h4, h6, h5, this, (not_or.1 h5).1]
/-- Are a node's fields right? -/
def fieldsB (n : NodeD) : Bool :=
  okB n.op n.text n.neg n.num n.sc n.day && (decide (n.op = 4) || (!n.neg && decide (n.hi = 0 ∧ n.lo = 0 ∧ n.sc = 0))) && (usesText n.op || decide (n.text.toList = [])) && (decide (n.op = 6) || decide (n.day = 0))

theorem kids_int (op n : Int) : kidsB op n = decide ((arI op).2 ≠ -2 ∧ (arI op).1 ≤ n ∧ ((arI op).2 = -1 ∨ n ≤ (arI op).2)) := rfl
set_option maxHeartbeats 2000000 in
theorem fits_node (n : NodeD) (w : World) :
    Calls Tryd.prog 39 #[n.val] w fun e w' => e = .returned (.bool (kidsB n.op n.kids)) ∧ Below w.heap.size w w' := by
  have HM := Lib.hid (Mem.start w)
  have HA := Lib.hid (fun W => arity_any n.op W)
  have HK := Lib.hid (kids_int n.op n.kids)
  unfold NodeD.val nodeV
  generalize arI n.op = ar at HK HA
  obtain ⟨lo, hi⟩ := ar
  go_enter Tryd.func39, Tryd.ntmps39
  go_wp2_with (first | ((with_reducible show wpList _ _ _ (Oper.mk _ (Op.load _ _) _ _ _ _ :: _) _ _); first | refine ldb1 HM.out 0 rfl rfl rfl ?_) | ((with_reducible show wpList _ _ _ (Oper.mk _ (Op.box _ _) _ _ _ _ :: _) _ _); refine bxA rfl HM.out rfl ?_; intro g1 W2 HM1; clear HM; (try clear W1); rename World => W1; have HM := Lib.hid HM1; clear HM1) | (go_at_call 61; (with_reducible refine (HA.out _).mono ?_); rintro e W2 ⟨rfl, rfl⟩))
  all_goals go_ret
  all_goals refine ⟨?_, HM.out.below⟩
  all_goals (rw [HK.out]; refine ret_bool ?_; rw [Bool.eq_iff_iff, decide_eq_true_eq])
  all_goals (simp; omega)

/-- Entries as the program's stack has them: sort, depth, place. -/
structure ThingD where
  sort : Int
  depth : Int
  at_ : Nat
def ThingD.cs (t : ThingD) : List Value := [.int .i64 t.sort, .int .i64 t.depth, .int .i64 t.at_]
theorem ThingD.cs_len (t : ThingD) : t.cs.length = 3 := rfl
def textAt (ns : List NodeD) (i : Nat) : List UInt8 := match ns[i]? with | some n => n.text.toList | none => []
theorem textAt_of {ns : List NodeD} {i : Nat} {n : NodeD} (h : ns[i]? = some n) : textAt ns i = n.text.toList := by unfold textAt; rw [h]
/-- No two of a list alike. -/
def unlikeB (l : List (List UInt8)) : Bool := decide (∀ i, i < l.length → ∀ j, j < i → l[i]? ≠ l[j]?)
theorem unlikeB_no {l : List (List UInt8)} {i j : Nat} (hi : i < l.length) (hj : j < i) (h : l[i]? = l[j]?) : unlikeB l = false := decide_eq_false fun H => H i hi j hj h
theorem unlikeB_yes {l : List (List UInt8)} (h : ∀ i, i < l.length → ∀ j, j < i → l[i]? ≠ l[j]?) : unlikeB l = true := decide_eq_true h

set_option maxHeartbeats 4000000 in
theorem unlike_any (p : Option Addr) (c : Nat) (ns : List NodeD) (q : Option Addr) (c' : Nat) (ts : List ThingD) (w : World) (hN : Sl w p (ns.flatMap NodeD.cs)) (hT : Sl w q (ts.flatMap ThingD.cs)) (hc : ts.length ≤ c') (hat : ∀ (i : Nat) (t : ThingD), ts[i]? = some t → t.at_ < ns.length) (hl : ns.length ≤ 4611686018427387904) (hl' : ts.length ≤ 4611686018427387904) :
    Calls Tryd.prog 41 #[.slice p ns.length c, .slice q ts.length c'] w fun e w' => e = .returned (.bool (unlikeB (ts.map fun t => textAt ns t.at_))) ∧ Below w.heap.size w w' := by
  have HM := Lib.hid (Mem.start w)
  obtain ⟨r, hr⟩ : ∃ r, unlikeB (ts.map fun t => textAt ns t.at_) = r := ⟨_, rfl⟩
  rw [hr]
  have HR := Lib.hid hr
  have HN := Lib.hid hN
  have HT := Lib.hid hT
  have HA := Lib.hid hat
  clear hr hN hT hat
  go_enter Tryd.func41, Tryd.ntmps41
  go_wp2_with fail
  go_loopw [11] (fun iv wr => ∃ i : Nat, iv = .int .i64 i ∧ i ≤ ts.length ∧ Hid (∀ x, x < i → ∀ y, y < x → (ts.map fun t => textAt ns t.at_)[x]? ≠ (ts.map fun t => textAt ns t.at_)[y]?) ∧ Hid (Mem w wr [])) (fun iv _ => ts.length - (intOf iv).toNat)
  case atStart => exact ⟨0, rfl, by omega, Lib.hid (fun x hx => by omega), HM⟩
  case round =>
    clear HM
    obtain ⟨i, rfl, hi, HI, HM⟩ := hrel
    by_cases hlt : i < ts.length
    · obtain ⟨b, rfl, hb⟩ := HT.out.some_at ThingD.cs_len (by decide) hlt
      have Hb := Lib.hid hb
      obtain ⟨ti, hti⟩ : ∃ t, ts[i]? = some t := ⟨_, List.getElem?_eq_getElem hlt⟩
      have Hti := Lib.hid hti
      have hai := HA.out i ti hti
      have hne : 0 < ns.length := by omega
      obtain ⟨b2, rfl, hb2⟩ := HN.out.some_at NodeD.cs_len (by decide) hne
      have Hb2 := Lib.hid hb2
      obtain ⟨ni, hni⟩ : ∃ n, ns[ti.at_]? = some n := ⟨_, List.getElem?_eq_getElem hai⟩
      have Hni := Lib.hid hni
      have E1 := Lib.hid (hb.elem ThingD.cs 3 ThingD.cs_len hti)
      have E2 := Lib.hid (hb2.elem NodeD.cs 8 NodeD.cs_len hni)
      have HTi := Lib.hid (show (ts.map fun t => textAt ns t.at_)[i]? = some ni.text.toList by rw [List.getElem?_map, hti, Option.map_some, textAt_of hni])
      clear hb hti hb2 hni
      have d1 : decide ((i : Int) < ts.length) = true := decide_eq_true (by omega)
      go_wp2_with (first | ((with_reducible show wpList _ _ _ (Oper.mk _ (Op.load _ _) _ _ _ _ :: _) _ _); first | refine ldb1 HM.out 0 rfl rfl rfl ?_ | refine ldb1 HM.out 1 rfl rfl rfl ?_ | refine ldbW HM.out 0 rfl rfl rfl ?_ | refine ldbW HM.out 1 rfl rfl rfl ?_ | ((first | refine ldbS HM.out 0 rfl rfl rfl ?_ | refine ldbS HM.out 1 rfl rfl rfl ?_); simp only [List.take, List.drop])) | ((with_reducible show wpList _ _ _ (Oper.mk _ (Op.store _ _ _) _ _ _ _ :: _) _ _); (first | ((first | refine stbW rfl HM.out 0 rfl rfl rfl rfl rfl rfl ?_ | refine stbW rfl HM.out 1 rfl rfl rfl rfl rfl rfl ?_); intro W2 HM1; clear HM; (try clear W1); rename World => W1; have HM := Lib.hid HM1; clear HM1; simp only [List.set] at HM) | ((first | refine stbS rfl HM.out 0 rfl rfl rfl rfl rfl rfl ?_ | refine stbS rfl HM.out 1 rfl rfl rfl rfl rfl rfl ?_); intro W2 HM1; clear HM; (try clear W1); rename World => W1; have HM := Lib.hid HM1; clear HM1; simp only [List.set, List.take, List.drop, List.cons_append, List.nil_append, Nat.reduceAdd] at HM))) | ((with_reducible show wpList _ _ _ (Oper.mk (some 6) (Op.alloc _) _ _ _ _ :: _) _ _); refine alb rfl HM.out ?_; intro g6 W2 HM1; clear HM; (try clear W1); rename World => W1; have HM := Lib.hid HM1; clear HM1) | ((with_reducible show wpList _ _ _ (Oper.mk (some 8) (Op.alloc _) _ _ _ _ :: _) _ _); refine alb rfl HM.out ?_; intro g8 W2 HM1; clear HM; (try clear W1); rename World => W1; have HM := Lib.hid HM1; clear HM1) | (refine ixa rfl rfl rfl hlt ?_) | (refine ldxW (HM.out.olds E1.out) rfl rfl ?_) | (refine sltx rfl rfl rfl (by omega) ?_))
      go_loopw [20] (fun jv wr => ∃ j : Nat, jv = .int .i64 j ∧ j ≤ i ∧ Hid (∀ y, y < j → (ts.map fun t => textAt ns t.at_)[i]? ≠ (ts.map fun t => textAt ns t.at_)[y]?) ∧ Hid (Mem w wr [.box g6 82 ti.cs])) (fun jv _ => i - (intOf jv).toNat)
      case atStart => exact ⟨0, rfl, by omega, Lib.hid (fun y hy => by omega), HM⟩
      case round =>
        clear HM
        obtain ⟨j, rfl, hj, HJ, HM⟩ := hrel
        by_cases hlj : j < i
        · obtain ⟨tj, htj⟩ : ∃ t, ts[j]? = some t := ⟨_, List.getElem?_eq_getElem (by omega)⟩
          have haj := HA.out j tj htj
          obtain ⟨nj, hnj⟩ : ∃ n, ns[tj.at_]? = some n := ⟨_, List.getElem?_eq_getElem haj⟩
          have F1 := Lib.hid (Hb.out.elem ThingD.cs 3 ThingD.cs_len htj)
          have F2 := Lib.hid (Hb2.out.elem NodeD.cs 8 NodeD.cs_len hnj)
          have HTj := Lib.hid (show (ts.map fun t => textAt ns t.at_)[j]? = some nj.text.toList by rw [List.getElem?_map, htj, Option.map_some, textAt_of hnj])
          clear htj hnj
          have d2 : decide ((j : Int) < i) = true := decide_eq_true (by omega)
          by_cases heq : ni.text.toList = nj.text.toList
          · have b1 : (ni.text.toList == nj.text.toList) = true := beq_iff_eq.2 heq
            have HD := Lib.hid (show r = false by rw [← HR.out]; exact unlikeB_no (by simpa using hlt) hlj (by rw [HTi.out, HTj.out, heq]))
            clear heq
            go_wp2_with (first | ((with_reducible show wpList _ _ _ (Oper.mk _ (Op.load _ _) _ _ _ _ :: _) _ _); first | refine ldb1 HM.out 0 rfl rfl rfl ?_ | refine ldb1 HM.out 1 rfl rfl rfl ?_ | refine ldb1 HM.out 2 rfl rfl rfl ?_ | refine ldbW HM.out 0 rfl rfl rfl ?_ | refine ldbW HM.out 1 rfl rfl rfl ?_ | refine ldbW HM.out 2 rfl rfl rfl ?_ | ((first | refine ldbS HM.out 0 rfl rfl rfl ?_ | refine ldbS HM.out 1 rfl rfl rfl ?_ | refine ldbS HM.out 2 rfl rfl rfl ?_); simp only [List.take, List.drop])) | ((with_reducible show wpList _ _ _ (Oper.mk _ (Op.store _ _ _) _ _ _ _ :: _) _ _); (first | ((first | refine stbW rfl HM.out 0 rfl rfl rfl rfl rfl rfl ?_ | refine stbW rfl HM.out 1 rfl rfl rfl rfl rfl rfl ?_ | refine stbW rfl HM.out 2 rfl rfl rfl rfl rfl rfl ?_); intro W2 HM1; clear HM; (try clear W1); rename World => W1; have HM := Lib.hid HM1; clear HM1; simp only [List.set] at HM) | ((first | refine stbS rfl HM.out 0 rfl rfl rfl rfl rfl rfl ?_ | refine stbS rfl HM.out 1 rfl rfl rfl rfl rfl rfl ?_ | refine stbS rfl HM.out 2 rfl rfl rfl rfl rfl rfl ?_); intro W2 HM1; clear HM; (try clear W1); rename World => W1; have HM := Lib.hid HM1; clear HM1; simp only [List.set, List.take, List.drop, List.cons_append, List.nil_append, Nat.reduceAdd] at HM))) | ((with_reducible show wpList _ _ _ (Oper.mk (some 8) (Op.alloc _) _ _ _ _ :: _) _ _); refine alb rfl HM.out ?_; intro g8 W2 HM1; clear HM; (try clear W1); rename World => W1; have HM := Lib.hid HM1; clear HM1) | ((with_reducible show wpList _ _ _ (Oper.mk _ (Op.alloc _) _ _ _ _ :: _) _ _); refine alb rfl HM.out ?_; intro g1 W2 HM1; clear HM; (try clear W1); rename World => W1; have HM := Lib.hid HM1; clear HM1) | (refine ixa rfl rfl rfl hlj ?_) | (refine ldxW (HM.out.olds F1.out) rfl rfl ?_))
            refine wp_region_mem (by kernel_rfl) (by kernel_rfl) HM.out ?_; intro hNE; (repeat (any_goals (first | ((with_reducible show wpQuiet _ _ _ _ (Oper.mk _ (Op.load _ _) _ _ _ _ :: _) _); first | (refine qdb1 HM.out 0 rfl rfl rfl ?_) | (refine qdb1 HM.out 1 rfl rfl rfl ?_) | (refine qdb1 HM.out 2 rfl rfl rfl ?_) | (refine qdbW HM.out 0 rfl rfl rfl ?_) | (refine qdbW HM.out 1 rfl rfl rfl ?_) | (refine qdbW HM.out 2 rfl rfl rfl ?_) | (refine qdbS HM.out 0 rfl rfl rfl ?_; simp only [List.take, List.drop]) | (refine qdbS HM.out 1 rfl rfl rfl ?_; simp only [List.take, List.drop]) | (refine qdbS HM.out 2 rfl rfl rfl ?_; simp only [List.take, List.drop])) | (refine qixa rfl rfl rfl hai ?_) | (refine qixa rfl rfl rfl haj ?_) | (refine qdxf E2.out rfl rfl rfl ?_) | (refine qdxf F2.out rfl rfl rfl ?_) | go_big_quiet_step (fail) | quiet_step (fail)))); clear hNE; refine wpQuiet_nil ?_; intro W2 HM1; clear HM; (try clear W1); rename World => W1; have HM := Lib.hid HM1; clear HM1
            go_wp2
            go_ret
            exact ⟨by rw [HD.out]; rfl, HM.out.below⟩
          · have b1 : (ni.text.toList == nj.text.toList) = false := beq_false_of_ne heq
            have HD := Lib.hid (show ∀ y, y < j + 1 → (ts.map fun t => textAt ns t.at_)[i]? ≠ (ts.map fun t => textAt ns t.at_)[y]? from fun y hy => by
              by_cases e : y = j
              · subst e; rw [HTi.out, HTj.out]; exact fun h => heq (Option.some.inj h)
              · exact HJ.out y (by omega))
            clear heq
            go_wp2_with (first | ((with_reducible show wpList _ _ _ (Oper.mk _ (Op.load _ _) _ _ _ _ :: _) _ _); first | refine ldb1 HM.out 0 rfl rfl rfl ?_ | refine ldb1 HM.out 1 rfl rfl rfl ?_ | refine ldb1 HM.out 2 rfl rfl rfl ?_ | refine ldbW HM.out 0 rfl rfl rfl ?_ | refine ldbW HM.out 1 rfl rfl rfl ?_ | refine ldbW HM.out 2 rfl rfl rfl ?_ | ((first | refine ldbS HM.out 0 rfl rfl rfl ?_ | refine ldbS HM.out 1 rfl rfl rfl ?_ | refine ldbS HM.out 2 rfl rfl rfl ?_); simp only [List.take, List.drop])) | ((with_reducible show wpList _ _ _ (Oper.mk _ (Op.store _ _ _) _ _ _ _ :: _) _ _); (first | ((first | refine stbW rfl HM.out 0 rfl rfl rfl rfl rfl rfl ?_ | refine stbW rfl HM.out 1 rfl rfl rfl rfl rfl rfl ?_ | refine stbW rfl HM.out 2 rfl rfl rfl rfl rfl rfl ?_); intro W2 HM1; clear HM; (try clear W1); rename World => W1; have HM := Lib.hid HM1; clear HM1; simp only [List.set] at HM) | ((first | refine stbS rfl HM.out 0 rfl rfl rfl rfl rfl rfl ?_ | refine stbS rfl HM.out 1 rfl rfl rfl rfl rfl rfl ?_ | refine stbS rfl HM.out 2 rfl rfl rfl rfl rfl rfl ?_); intro W2 HM1; clear HM; (try clear W1); rename World => W1; have HM := Lib.hid HM1; clear HM1; simp only [List.set, List.take, List.drop, List.cons_append, List.nil_append, Nat.reduceAdd] at HM))) | ((with_reducible show wpList _ _ _ (Oper.mk (some 8) (Op.alloc _) _ _ _ _ :: _) _ _); refine alb rfl HM.out ?_; intro g8 W2 HM1; clear HM; (try clear W1); rename World => W1; have HM := Lib.hid HM1; clear HM1) | ((with_reducible show wpList _ _ _ (Oper.mk _ (Op.alloc _) _ _ _ _ :: _) _ _); refine alb rfl HM.out ?_; intro g1 W2 HM1; clear HM; (try clear W1); rename World => W1; have HM := Lib.hid HM1; clear HM1) | (refine ixa rfl rfl rfl hlj ?_) | (refine ldxW (HM.out.olds F1.out) rfl rfl ?_))
            refine wp_region_mem (by kernel_rfl) (by kernel_rfl) HM.out ?_; intro hNE; (repeat (any_goals (first | ((with_reducible show wpQuiet _ _ _ _ (Oper.mk _ (Op.load _ _) _ _ _ _ :: _) _); first | (refine qdb1 HM.out 0 rfl rfl rfl ?_) | (refine qdb1 HM.out 1 rfl rfl rfl ?_) | (refine qdb1 HM.out 2 rfl rfl rfl ?_) | (refine qdbW HM.out 0 rfl rfl rfl ?_) | (refine qdbW HM.out 1 rfl rfl rfl ?_) | (refine qdbW HM.out 2 rfl rfl rfl ?_) | (refine qdbS HM.out 0 rfl rfl rfl ?_; simp only [List.take, List.drop]) | (refine qdbS HM.out 1 rfl rfl rfl ?_; simp only [List.take, List.drop]) | (refine qdbS HM.out 2 rfl rfl rfl ?_; simp only [List.take, List.drop])) | (refine qixa rfl rfl rfl hai ?_) | (refine qixa rfl rfl rfl haj ?_) | (refine qdxf E2.out rfl rfl rfl ?_) | (refine qdxf F2.out rfl rfl rfl ?_) | go_big_quiet_step (fail) | quiet_step (fail)))); clear hNE; refine wpQuiet_nil ?_; intro W2 HM1; clear HM; (try clear W1); rename World => W1; have HM := Lib.hid HM1; clear HM1
            go_wp2
            go_roundw
            case rel => exact ⟨j + 1, by go_num, by omega, HD, Lib.hid (HM.out.sub (List.sublist_cons_self _ _))⟩
            case measure => simp [intOf]; omega
        · obtain rfl : j = i := by omega
          have d2 : decide ((j : Int) < j) = false := by simp
          have HD := Lib.hid (show ∀ x, x < j + 1 → ∀ y, y < x → (ts.map fun t => textAt ns t.at_)[x]? ≠ (ts.map fun t => textAt ns t.at_)[y]? from fun x hx y hy => by
            by_cases e : x = j
            · subst e; exact HJ.out y hy
            · exact HI.out x (by omega) y hy)
          go_wp2
          go_roundw
          case rel => exact ⟨j + 1, by go_num, by omega, HD, Lib.hid (HM.out.sub (List.sublist_cons_self _ _))⟩
          case measure => simp [intOf]; omega
    · obtain rfl : i = ts.length := by omega
      have d1 : decide ((ts.length : Int) < ts.length) = false := by simp
      have HD := Lib.hid (show r = true by rw [← HR.out]; exact unlikeB_yes (fun x hx => HI.out x (by simpa using hx)))
      go_wp2
      go_ret
      exact ⟨by rw [HD.out]; rfl, HM.out.below⟩
end Go.Proofs.YtpjcjgikfplgnaaDoor
