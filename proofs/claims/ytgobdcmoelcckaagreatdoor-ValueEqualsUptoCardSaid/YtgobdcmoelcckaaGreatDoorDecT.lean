/- The decimal digits of a number: the program's Text. (short) -/
import Derived.Test.YtgobdcmoelcckaaGreatDoorDecC
import Derived.Test.YtgobdcmoelcckaaGreatDoorDecE
import Derived.Lib.UnsafeStr
import Derived.Laws.IdiomStrings
namespace Go.Proofs.YtgobdcmoelcckaaGreatDoor
open Go.RowKit
set_option linter.unusedVariables false
set_option linter.unusedSimpArgs false
set_option maxRecDepth 100000

def d48 (d : Nat) : UInt8 := UInt8.ofNat (48 + d)
def txt (n : Nat) : List UInt8 := if h : n < 10 then [d48 n] else txt (n / 10) ++ [d48 (n % 10)]
termination_by n
decreasing_by omega
theorem txt_small {n : Nat} (h : n < 10) : txt n = [d48 n] := by rw [txt, dif_pos h]
theorem txt_big {n : Nat} (h : ¬ n < 10) : txt n = txt (n / 10) ++ [d48 (n % 10)] := by rw [txt, dif_neg h]
theorem d48_val {d : Nat} (h : d < 10) : ((d48 d).toNat : Int) = 48 + d := by
  unfold d48
  have : 48 + d < 256 := by omega
  rw [UInt8.toNat_ofNat']
  omega
theorem set_mid (m : Nat) (z v : Value) (s : List Value) : (List.replicate (m + 1) z ++ s).set m v = List.replicate m z ++ v :: s := by
  rw [List.replicate_succ', List.append_assoc, List.set_append_right _ _ (by simp)]
  simp
theorem tenth_fix {n w0 w1 w2 w3 x0 x1 x2 x3 d : Nat} (w : World) (h : Words n w0 w1 w2 w3) (hx : Words (n / 10) x0 x1 x2 x3) (hd : n % 10 = d) :
    Calls Tryz.prog 153 #[.agg #[.int .u64 w0, .int .u64 w1, .int .u64 w2, .int .u64 w3]] w fun e w' => e = .returned (.tuple #[.agg #[.int .u64 x0, .int .u64 x1, .int .u64 x2, .int .u64 x3], .int .u64 (d : Nat)]) ∧ RowKit.Below w.heap.size w w' :=
  (tenth_any n w0 w1 w2 w3 w h).mono fun e w' ⟨q0, q1, q2, q3, he, hw, hb⟩ => by
    obtain ⟨rfl, rfl, rfl, rfl⟩ := words_one hw hx
    rw [hd] at he
    exact ⟨he, hb⟩
section
variable {P : Program} {ops : Array Oper} {Q : Exit → Act → World → Prop} {a : Act} {W W' w0 : World} {rest : List Oper} {L : List Res}
variable {dst : Option Tmp} {ty0 : TypeId} {pos : String} {after : Array Edge} {gd : Option (Nat × Bool)}
/-- A text of bytes that lie in a row. -/
theorem cvs {src tgt e : TypeId} {x : Operand} {b : Addr} {n cap : Nat} {l : List UInt8} (hs : P.underlying src = some (.slice e)) (he : P.underlying e = some (.int .u8)) (hd : P.underlying tgt = some .string) (hx : a.eval x = .slice (some b) n cap) (hn : n = l.length) (hc : Cells W b (Lib.byteCells l))
    (h : wpList P ops Q (⟨dst, .move (.const (.string ⟨l.toArray⟩)), ty0, pos, after, gd⟩ :: rest) a W) : wpList P ops Q (⟨dst, .convert src tgt x, ty0, pos, after, gd⟩ :: rest) a W := by
  subst hn
  refine as_move (o := ⟨dst, .convert src tgt x, ty0, pos, after, gd⟩) ?_ h
  have hr := run_convert_bytes_back (P := P) W src tgt e b cap l hs he hd (fun j hj => hc j _ (by simp [Lib.byteCells, List.getElem?_eq_getElem hj]))
  simp only [execOp, hx, Sem.run_bind, hr, Result.andThen_ok]
  rfl
/-- The end of an array, as a slice. -/
theorem slp {t e : TypeId} {len : Nat} {i : TypeInfo} (hu : P.underlying t = some (.array len e)) (hi : P.info? e = some i) (h1 : i.size = 1) {x lo : Operand} {g m n : Nat} {d : Int} (hx : a.eval x = .pointer (some ⟨g, 0, none⟩)) (hh : a.eval lo = .int .i64 d) (hd : d = (m : Int)) (hm : m < len) (hn : len - m = n)
    (h : wpList P ops Q (⟨dst, .move (.const (.slice (some ⟨g, m, none⟩) n n)), ty0, pos, after, gd⟩ :: rest) a W) : wpList P ops Q (⟨dst, .slice t x (some lo) none none, ty0, pos, after, gd⟩ :: rest) a W := by
  subst hd hn
  refine as_move (o := ⟨dst, .slice t x (some lo) none none, ty0, pos, after, gd⟩) ?_ h
  have hr : (Instr.sliceAt t (.pointer (some ⟨g, 0, none⟩)) (some (.int .i64 m)) none none).run P W = .ok (.slice (some ⟨g, m, none⟩) (len - m) (len - m)) W := by
    have hne : ¬ len = m := by omega
    have hle : (m : Int) ≤ len := by omega
    simp [Instr.sliceAt, run_underlying hu, Instr.sliceBounds, Instr.sliceBound, asIntOf, sizeOf, typeInfo, hi, h1, hle, Instr.sureAddr, hne, add_none]
    intro h
    omega
  simp only [execOp, Option.map_none, Option.map_some, hx, hh, Sem.run_bind, hr, Result.andThen_ok]
  rfl
end
theorem words_zero {x0 x1 x2 x3 : Nat} (h : Words 0 x0 x1 x2 x3) : x0 = 0 ∧ x1 = 0 ∧ x2 = 0 ∧ x3 = 0 := by
  unfold Words longN at h; omega

set_option maxHeartbeats 16000000 in
theorem text_any (n hi lo : Nat) (w : World) (h : W2 n hi lo) :
    Calls Tryz.prog 120 #[.agg #[.int .u64 hi, .int .u64 lo]] w fun e w' => e = .returned (.string ⟨(txt n).toArray⟩) ∧ RowKit.Below w.heap.size w w' := by
  have HM := Lib.hid (Mem.start w)
  have HW := Lib.hid (show Words n lo hi 0 0 from h.words)
  have HN := Lib.hid h.lt
  obtain ⟨T, hT⟩ : ∃ T, txt n = T := ⟨_, rfl⟩
  rw [hT]
  have HT := Lib.hid hT
  obtain ⟨i8, hi8⟩ : ∃ i, Tryz.prog.info? 5 = some i := Option.isSome_iff_exists.1 (by kernel_rfl)
  have HI81 := Lib.hid (show i8.size = 1 by have h : (Tryz.prog.info? 5).map (·.size) = some 1 := by kernel_rfl
                                            rw [hi8] at h; simpa using h)
  have HI8 := Lib.hid hi8
  clear hi8
  have hq1 := eql_long
  have hq2 := eq_long
  clear h hT
  go_enter Tryz.func120, Tryz.ntmps120
  go_wp2_with (first | refine mP ?_ | (refine mS ?_; clear HM; intro W1 HM) | ((with_reducible refine iat 1 ?_); refine mB ?_; clear HM; intro g1 W1 HM) | (refine hal (dst := some 3) HM rfl ?_; clear HM; intro g3 W1 HM) | (refine hal (dst := some 4) HM rfl ?_; clear HM; intro g4 W1 HM))
  go_loopw [5] (fun iv wr => ∃ (m n' v0 v1 v2 v3 : Nat) (s : List UInt8), iv = .int .i64 (m + 1 : Nat) ∧ m ≤ 39 ∧ Hid (m + 1 + s.length = 40) ∧ Hid (Words n' v0 v1 v2 v3) ∧ Hid (txt n' ++ s = T) ∧ Hid (s = [] ∨ n' ≠ 0) ∧ Hid (n' * 10 ^ s.length ≤ n) ∧ Hid (Mem w wr [.box g4 174 (List.replicate (m + 1) (.int .u8 0) ++ Lib.byteCells s), .box g3 80 [.int .u64 v0, .int .u64 v1, .int .u64 v2, .int .u64 v3]])) (fun iv _ => (intOf iv).toNat)
  case atStart => exact ⟨39, n, lo, hi, 0, 0, [], rfl, by omega, Lib.hid rfl, HW, Lib.hid (by rw [List.append_nil]; exact HT.out), Lib.hid (Or.inl rfl), Lib.hid (by simp), Lib.hid (HM.out.sub (.cons_cons _ (.cons_cons _ (List.nil_sublist _))))⟩
  case round =>
    clear HM
    obtain ⟨m, n', v0, v1, v2, v3, s, rfl, hm, HL, HV, HS, HZ, HB, HM⟩ := hrel
    obtain ⟨d, hd⟩ : ∃ d, n' % 10 = d := ⟨_, rfl⟩
    have hd9 : d ≤ 9 := by omega
    have hnb : n' < 115792089237316195423570985008687907853269984665640564039457584007913129639936 := by
      have h1 := HB.out
      have h2 := HN.out
      have h3 : n' * 1 ≤ n' * 10 ^ s.length := Nat.mul_le_mul_left _ (Nat.pow_pos (by decide))
      omega
    obtain ⟨x0, x1, x2, x3, hx⟩ := words_ex (n := n' / 10) (by omega)
    have HC := Lib.hid (fun W => tenth_fix W HV.out hx hd)
    have HX := Lib.hid hx
    have HD := Lib.hid hd
    have H48 := Lib.hid (d48_val (d := d) (by omega))
    clear hx hd hnb
    have HFt := Lib.hid (show decide (m < (List.replicate (m + 1) (Value.int .u8 0) ++ Lib.byteCells s).length) = true from decide_eq_true (by rw [List.length_append, List.length_replicate]; omega))
    have hcells : ∀ x : List UInt8, Lib.byteCells (d48 d :: x) = .int .u8 (48 + (d : Int)) :: Lib.byteCells x := fun x => by
      rw [← H48.out]; rfl
    have HCl := Lib.hid hcells
    clear hcells
    by_cases h0 : n' / 10 = 0
    · obtain ⟨rfl, rfl, rfl, rfl⟩ := words_zero (h0 ▸ HX.out)
      have HE := Lib.hid (show d48 d :: s = T by
        rw [← HS.out, txt_small (show n' < 10 by omega), ← HD.out, Nat.mod_eq_of_lt (by omega)]; rfl)
      clear h0
      have HCe := Lib.hid (fun W t (h : (Res.box g4 t (List.replicate m (.int .u8 0) ++ .int .u8 (48 + (d : Int)) :: Lib.byteCells s)).holds w.heap.size W) => (show Cells W ⟨g4, m, none⟩ (Lib.byteCells (d48 d :: s)) from by
        have h2 := box_cells h m
        rw [List.drop_left' (by simp)] at h2
        rw [HCl.out]; exact h2))
      go_wp2_with (first | ((with_reducible refine iat 28 ?_); (refine slp (len := 40) (e := 5) (by kernel_rfl) HI8.out HI81.out rfl rfl (m := m) rfl (by omega) (n := s.length + 1) (by have := HL.out; omega) ?_)) | ((with_reducible refine iat 29 ?_); (refine cvs (l := d48 d :: s) (e := 5) (by kernel_rfl) (by kernel_rfl) (by kernel_rfl) rfl rfl (HCe.out _ _ (HM.out.get (k := 0) rfl)) ?_)) | ((with_reducible refine istore ?_); refine hst1 (v := .int .u8 (48 + (d : Int))) HM rfl rfl rfl rfl HFt.out ?_; clear HM; intro W1 HM; rw [set_mid] at HM) | refine mP ?_ | (refine mS ?_; clear HM; intro W1 HM) | ((with_reducible refine iat 1 ?_); refine mB ?_; clear HM; intro g1 W1 HM) | (refine hal (dst := some 3) HM rfl ?_; clear HM; intro g3 W1 HM) | (refine hal (dst := some 4) HM rfl ?_; clear HM; intro g4 W1 HM) | (go_at_call 153; (with_reducible refine cB HM (HC.out _) ?_); clear HM; intro W1 HM))
      go_ret
      exact ⟨by rw [← HE.out]; rfl, HM.out.below⟩
    · have hx : (x0 = 0 ∧ x1 = 0 ∧ x2 = 0 ∧ x3 ≠ 0) ∨ (x0 = 0 ∧ x1 = 0 ∧ x2 ≠ 0) ∨ (x0 = 0 ∧ x1 ≠ 0) ∨ x0 ≠ 0 := by
        have := HX.out
        unfold Words longN at this
        omega
      have HE := Lib.hid (show txt (n' / 10) ++ d48 d :: s = T by
        rw [← HS.out, txt_big (show ¬ n' < 10 by omega), HD.out, List.append_assoc]; rfl)
      have HB2 := Lib.hid (show n' / 10 * 10 ^ (d48 d :: s).length ≤ n by
        have h1 := HB.out
        rw [List.length_cons, Nat.pow_succ, Nat.mul_comm (10 ^ s.length), ← Nat.mul_assoc]
        exact Nat.le_trans (Nat.mul_le_mul_right _ (Nat.div_mul_le_self n' 10)) h1)
      have hm1 : 1 ≤ m := by
        have h1 := HB2.out
        have h2 := HN.out
        have h3 := HL.out
        rcases Nat.eq_zero_or_pos m with h | h
        · exfalso
          have h5 : (d48 d :: s).length = 40 := by rw [List.length_cons]; omega
          rw [h5] at h1
          have h6 : 1 * 10 ^ 40 ≤ n' / 10 * 10 ^ 40 := Nat.mul_le_mul_right _ (by omega)
          have h7 : (340282366920938463463374607431768211456 : Nat) < 1 * 10 ^ 40 := by decide
          omega
        · exact h
      have H0 := Lib.hid h0
      obtain ⟨m', rfl⟩ : ∃ k, m = k + 1 := ⟨m - 1, by omega⟩
      clear h0 hm1
      rcases hx with ⟨rfl, rfl, rfl, h3⟩ | ⟨rfl, rfl, h3⟩ | ⟨rfl, h3⟩ | h3
      all_goals
        have q3 := beq_false_of_ne (show (_ : Int) ≠ 0 from Int.natCast_ne_zero.2 h3)
        go_wp2_with (first | ((with_reducible refine istore ?_); refine hst1 (v := .int .u8 (48 + (d : Int))) HM rfl rfl rfl rfl HFt.out ?_; clear HM; intro W1 HM; rw [set_mid] at HM) | refine mP ?_ | (refine mS ?_; clear HM; intro W1 HM) | ((with_reducible refine iat 1 ?_); refine mB ?_; clear HM; intro g1 W1 HM) | (refine hal (dst := some 3) HM rfl ?_; clear HM; intro g3 W1 HM) | (refine hal (dst := some 4) HM rfl ?_; clear HM; intro g4 W1 HM) | (go_at_call 153; (with_reducible refine cB HM (HC.out _) ?_); clear HM; intro W1 HM))
        go_roundw
        case rel => exact ⟨m', _, _, _, _, _, d48 d :: s, rfl, by omega, Lib.hid (by have := HL.out; rw [List.length_cons]; omega), HX, HE, Lib.hid (Or.inr H0.out), HB2, by rw [HCl.out]; exact HM⟩
        case measure => simp [intOf]; omega

set_option maxHeartbeats 8000000 in
theorem dPrint_nat (hi lo : Nat) (w : World) (hd : (DcD.mk false hi lo 0).ok = true) (hw : (DcD.mk false hi lo 0).wf) :
    Calls Tryz.prog 81 #[.agg #[.bool false, .int .u64 hi, .int .u64 lo, .int .i64 0]] w fun e w' => e = .returned (.tuple #[.string ⟨(txt (DcD.mk false hi lo 0).n).toArray⟩, .int .i64 0]) ∧ RowKit.Below w.heap.size w w' := by
  have HM := Lib.hid (Mem.start w)
  have hw2 : W2 (DcD.mk false hi lo 0).n hi lo := DcD.w2 (d := DcD.mk false hi lo 0) hw
  have HT := Lib.hid (fun W => text_any (DcD.mk false hi lo 0).n hi lo W hw2)
  obtain ⟨T, hT⟩ : ∃ T, txt (DcD.mk false hi lo 0).n = T := ⟨_, rfl⟩
  rw [hT] at HT ⊢
  have HF := Lib.hid (show ∀ W g t, RowKit.Below w.heap.size w W → (Res.box g t [.bool false, .int .u64 hi, .int .u64 lo, .int .i64 0]).holds w.heap.size W → Calls Tryz.prog 62 #[.slice (some ⟨g, 0, none⟩) 1 1] W fun e w' => e = .returned (.int .i64 0) ∧ RowKit.Below W.heap.size W w' from fun W g t hb hbox => by
    have h := formed_any (some ⟨g, 0, none⟩) 1 1 [DcD.mk false hi lo 0] W ⟨(fun e => by cases e), fun a e => by cases e; exact box_cells hbox 0⟩ (fun i d hd => by
      have := List.mem_of_getElem? hd
      simp only [List.mem_cons, List.not_mem_nil, or_false] at this
      subst this
      exact hw) (by simp) rfl
    have e : [DcD.mk false hi lo 0].all DcD.ok = true := by rw [List.all_cons, hd]; rfl
    rw [e] at h
    exact h)
  have hl : 0 < T.length := by
    rw [← hT, txt]
    split <;> simp
  have q1 : decide (T = []) = false := decide_eq_false (fun e => by rw [e] at hl; simp at hl)
  clear hT hd hw hw2 hl
  go_enter Tryz.func81, Tryz.ntmps81
  go_wp2_with (first | refine mP ?_ | (refine mL ?_; clear HM; intro g1 W1 HM) | ((with_reducible refine iat 1 ?_); refine mB ?_; clear HM; intro g1 W1 HM) | (go_at_call 62; (with_reducible refine cB HM (HF.out _ _ _ HM.out.below (HM.out.get (k := 0) rfl)) ?_); clear HM; intro W1 HM) | (go_at_call 120; (with_reducible refine cB HM (HT.out _) ?_); clear HM; intro W1 HM))
  go_ret2
  exact ⟨rfl, HM.out.below⟩
end Go.Proofs.YtgobdcmoelcckaaGreatDoor
