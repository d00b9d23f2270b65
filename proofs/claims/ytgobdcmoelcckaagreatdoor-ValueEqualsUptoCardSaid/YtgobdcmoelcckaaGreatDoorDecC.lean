/- Decimals compared: the program's formed, times, both, order, Cmp. (short) -/
import Derived.Test.YtgobdcmoelcckaaGreatDoorValDec
import Derived.Test.YtgobdcmoelcckaaGreatDoorSepA
import Derived.Test.YtgobdcmoelcckaaGreatDoorWideA
namespace Go.Proofs.YtgobdcmoelcckaaGreatDoor
open Go.RowKit
set_option linter.unusedVariables false
set_option linter.unusedSimpArgs false
set_option maxRecDepth 100000

section
variable {P : Program} {ops : Array Oper} {Q : Exit → Act → World → Prop} {a : Act} {W W' w0 : World} {rest : List Oper} {L : List Res}
variable {dst : Option Tmp} {ty0 : TypeId} {pos : String} {after : Array Edge} {gd : Option (Nat × Bool)}
/-- A literal of two elements. -/
theorem bs2 {t e : TypeId} {k bytes : Nat} {z : Value} [hR : RowT P t e k bytes z] {x y : Operand} {c1 c2 : List Value} (hw : Region.wanted ⟨dst, .buildSlice t 2 #[(0, x), (1, y)], ty0, pos, after, gd⟩ (yielded ops a.tmps) = true) (HM : Mem w0 W L)
    (h1 : a.eval x = .agg c1.toArray) (h2 : a.eval y = .agg c2.toArray) (e1 : c1.length = k) (e2 : c2.length = k) (hk : decide (k ≤ 1000) = true)
    (h : ∀ g W', Mem w0 W' (.box g e (c1 ++ c2) :: L) → wpList P ops Q (⟨dst, .move (.const (.slice (some ⟨g, 0, none⟩) 2 2)), ty0, pos, after, gd⟩ :: rest) a W') : wpList P ops Q (⟨dst, .buildSlice t 2 #[(0, x), (1, y)], ty0, pos, after, gd⟩ :: rest) a W := by
  have hk' := of_decide_eq_true hk
  have hp := hR.pos
  refine bsb (cs := c1 ++ c2) hw HM (by omega) (by omega) ?_ h
  have hf := fill_parts k [.agg c1.toArray, .agg c2.toArray] 0 ((Array.range (2 * k)).map (z.cells[· % z.cells.size]!)).toList (fun v hv => by simp at hv; rcases hv with rfl | rfl <;> simp [Value.cells, e1, e2]) (by simp)
  rw [Array.toArray_toList] at hf
  have hp1 : (Array.map (fun x : Nat × Operand => (x.1, a.eval x.2)) #[(0, x), (1, y)]).toList = [(0, .agg c1.toArray), (1, .agg c2.toArray)] := by simp [h1, h2]
  show Instr.fill _ _ (Array.map (fun x : Nat × Operand => (x.1, a.eval x.2)) #[(0, x), (1, y)]).toList = _
  rw [hp1]
  refine Eq.trans hf ?_
  simp [Value.cells]
theorem res_box_box_tmp {fn : Func} {d1 d2 u : Tmp} {ty1 ty2 : TypeId} {n1 n2 : Nat} [hA1 : AggT P ty1 n1] [hA2 : AggT P ty2 n2] (h : fn.results = #[.cell d1 ty1, .cell d2 ty2, .tmp u]) {tmps : Array Value} (HM : Mem w0 W L) (k1 k2 : Nat) {g1 g2 : Nat} {t1 t2 : TypeId} {cs1 cs2 : List Value} (hk1 : L[k1]? = some (.box g1 t1 cs1)) (hk2 : L[k2]? = some (.box g2 t2 cs2)) (hd1 : tmps.getD d1 undef = .pointer (some ⟨g1, 0, none⟩)) (hd2 : tmps.getD d2 undef = .pointer (some ⟨g2, 0, none⟩)) (hn1 : cs1.length = n1) (hn2 : cs2.length = n2) {v : Value} (hu : tmps.getD u undef = v) :
    (results fn tmps).run P W = .ok (.tuple #[.agg cs1.toArray, .agg cs2.toArray, v]) W := by
  have hd1' : tmps[d1]?.getD undef = .pointer (some ⟨g1, 0, none⟩) := by simpa using hd1
  have hd2' : tmps[d2]?.getD undef = .pointer (some ⟨g2, 0, none⟩) := by simpa using hd2
  have hu' : tmps[u]?.getD undef = v := by simpa using hu
  simp [results, h, hd1', hd2', hu', asAddr, run_load_agg hA1 hn1 (box_cells (HM.get hk1) 0), run_load_agg hA2 hn2 (box_cells (HM.get hk2) 0)]
end
theorem DcD.cs_len (d : DcD) : d.cs.length = 4 := rfl
def DcD.wf (d : DcD) : Prop := d.hi < 2 ^ 64 ∧ d.lo < 2 ^ 64
theorem DcD.w2 {d : DcD} (h : d.wf) : W2 d.n d.hi d.lo := ⟨rfl, h.2, h.1⟩

set_option maxHeartbeats 4000000 in
theorem formed_any (p : Option Addr) (c n : Nat) (l : List DcD) (w : World) (hS : Sl w p (l.flatMap DcD.cs)) (hw : ∀ (i : Nat) (d : DcD), l[i]? = some d → d.wf) (hl : l.length ≤ 1048576) (hn : n = l.length) : Calls Tryz.prog 62 #[.slice p n c] w fun e w' => e = .returned (.int .i64 (if l.all DcD.ok then 0 else 2)) ∧ RowKit.Below w.heap.size w w' := by
  subst hn
  have HM := Lib.hid (Mem.start w)
  have HS := Lib.hid hS
  have HW := Lib.hid hw
  obtain ⟨r, hr⟩ : ∃ r : Int, (if l.all DcD.ok then 0 else 2) = r := ⟨_, rfl⟩
  rw [hr]
  have HR := Lib.hid hr
  clear hS hr hw
  go_enter Tryz.func62, Tryz.ntmps62
  go_wp2_with fail
  go_loopw [7] (fun iv wr => ∃ i : Nat, iv = .int .i64 i ∧ i ≤ l.length ∧ Hid ((l.take i).all DcD.ok = true) ∧ Hid (Mem w wr [])) (fun iv _ => l.length - (intOf iv).toNat)
  case atStart => exact ⟨0, rfl, by omega, Lib.hid rfl, HM⟩
  case round =>
    clear HM
    obtain ⟨i, rfl, hi0, HI, HM⟩ := hrel
    by_cases hlt : i < l.length
    · obtain ⟨⟨ng, hi, lo, sc⟩, hx⟩ : ∃ x, l[i]? = some x := ⟨_, List.getElem?_eq_getElem hlt⟩
      obtain ⟨b, rfl, hb⟩ := HS.out.some_at DcD.cs_len (by decide) hlt
      have HE := Lib.hid (show Cells w (b.add (i * 4)) [.bool ng, .int .u64 hi, .int .u64 lo, .int .i64 sc] from hb.elem DcD.cs 4 DcD.cs_len hx)
      have HD := Lib.hid (DcD.w2 (HW.out i _ hx))
      have q1 : decide ((i : Int) < l.length) = true := decide_eq_true (by omega)
      obtain ⟨u, hu⟩ : ∃ u, dcmB ng (DcD.mk ng hi lo sc).n sc = u := ⟨_, rfl⟩
      have HT := Lib.hid (show (l.take (i + 1)).all DcD.ok = u by rw [List.take_add_one, hx, List.all_append, HI.out, ← hu]; simp [DcD.ok])
      have HF := Lib.hid (show ∀ W, Calls Tryz.prog 66 #[.agg #[.bool ng, .int .u64 hi, .int .u64 lo, .int .i64 sc]] W fun e w' => e = .returned (.bool u) ∧ RowKit.Below W.heap.size W w' from fun W => by
        rw [← hu]; exact form_any ng _ hi lo sc W HD.out)
      have HX := Lib.hid hx
      clear hx hb hu
      cases u with
      | true =>
        go_wp2_with (first | refine mP ?_ | (refine mS ?_; clear HM; intro W1 HM) | (refine hal (dst := some 4) HM rfl ?_; clear HM; intro g4 W1 HM) | (refine ixa rfl rfl rfl hlt ?_) | (refine ldxW (HM.out.olds HE.out) rfl rfl ?_) | (go_at_call 66; (with_reducible refine cB HM (HF.out _) ?_); clear HM; intro W1 HM))
        go_roundw
        case rel => exact ⟨i + 1, by go_num, by omega, HT, Lib.hid (HM.out.sub (List.nil_sublist _))⟩
        case measure => simp [intOf]; omega
      | false =>
        have HE2 := Lib.hid (show (2 : Int) = r by
          rw [← HR.out]
          have : l.all DcD.ok = false := by
            have h := HT.out
            cases h2 : l.all DcD.ok with
            | false => rfl
            | true =>
              rw [List.all_eq_true] at h2
              rw [List.all_eq_true.2 (fun x hx => h2 x (List.mem_of_mem_take hx))] at h
              cases h
          rw [this]; rfl)
        go_wp2_with (first | refine mP ?_ | (refine mS ?_; clear HM; intro W1 HM) | (refine hal (dst := some 4) HM rfl ?_; clear HM; intro g4 W1 HM) | (refine ixa rfl rfl rfl hlt ?_) | (refine ldxW (HM.out.olds HE.out) rfl rfl ?_) | (go_at_call 66; (with_reducible refine cB HM (HF.out _) ?_); clear HM; intro W1 HM))
        go_ret
        exact ⟨by rw [← HE2.out]; rfl, HM.out.below⟩
    · obtain rfl : i = l.length := by omega
      have HE2 := Lib.hid (show (0 : Int) = r by rw [← HR.out]; have := HI.out; rw [List.take_length] at this; rw [this]; rfl)
      go_wp2
      go_ret
      exact ⟨by rw [← HE2.out]; rfl, HM.out.below⟩

set_option maxHeartbeats 4000000 in
theorem long_any (hi lo : Nat) (w : World) : Calls Tryz.prog 149 #[.agg #[.int .u64 hi, .int .u64 lo]] w fun e w' => e = .returned (.agg #[.int .u64 lo, .int .u64 hi, .int .u64 0, .int .u64 0]) ∧ RowKit.Below w.heap.size w w' := by
  have HM := Lib.hid (Mem.start w)
  go_enter Tryz.func149, Tryz.ntmps149
  go_wp2_with (first | refine mP ?_ | (refine mS ?_; clear HM; intro W1 HM) | ((with_reducible refine iat 1 ?_); refine mB ?_; clear HM; intro g1 W1 HM) | (refine hal (dst := some 2) HM rfl ?_; clear HM; intro g2 W1 HM))
  exact bodyPost_ret (res_box rfl HM.out 0 rfl rfl rfl) rfl ⟨rfl, HM.out.below⟩

/-- Ten times a word and what was carried. -/
def tmL (x : Nat) : Nat := x * 10 % 18446744073709551616
def tmH (x : Nat) : Nat := x * 10 / 18446744073709551616
def tmC (x c : Nat) : Nat := tmH x + adh (tmL x) c
theorem mul10_any (x : Nat) (w : World) (hx : x < 18446744073709551616) :
    Calls Tryz.prog 150 #[.int .u64 x, .int .u64 10] w fun e w' => e = .returned (.tuple #[.int .u64 (tmH x : Nat), .int .u64 (tmL x : Nat)]) ∧ w = w' :=
  mul64_h x 10 w hx (by omega)
theorem tm_step {x c : Nat} (hx : x < 18446744073709551616) (hc : c < 10) : adl (tmL x) c + 18446744073709551616 * tmC x c = 10 * x + c ∧ adl (tmL x) c < 18446744073709551616 ∧ tmC x c < 10 := by
  unfold tmC tmH tmL adl adh; omega
theorem wrap_tmC {x c : Nat} (hx : x < 18446744073709551616) (hc : c < 10) : IntKind.u64.wrap ((tmH x : Int) + (adh (tmL x) c : Int)) = (tmC x c : Nat) := by
  have h := (tm_step hx hc).2.2
  unfold tmC at h ⊢
  rw [IntKind.wrap_u64]; omega
theorem words_ten {n v0 v1 v2 v3 : Nat} (h : Words n v0 v1 v2 v3) (hn : n * 10 < 115792089237316195423570985008687907853269984665640564039457584007913129639936) :
    Words (n * 10) (adl (tmL v0) 0) (adl (tmL v1) (tmC v0 0)) (adl (tmL v2) (tmC v1 (tmC v0 0))) (adl (tmL v3) (tmC v2 (tmC v1 (tmC v0 0)))) := by
  obtain ⟨h0, h1, h2, h3, h4⟩ := h
  obtain ⟨a1, a2, a3⟩ := tm_step h1 (show 0 < 10 by omega)
  obtain ⟨b1, b2, b3⟩ := tm_step h2 a3
  obtain ⟨c1, c2, c3⟩ := tm_step h3 b3
  obtain ⟨d1, d2, d3⟩ := tm_step h4 c3
  unfold Words
  unfold longN at *
  generalize adl (tmL v0) 0 = x0 at *
  generalize adl (tmL v1) (tmC v0 0) = x1 at *
  generalize adl (tmL v2) (tmC v1 (tmC v0 0)) = x2 at *
  generalize adl (tmL v3) (tmC v2 (tmC v1 (tmC v0 0))) = x3 at *
  generalize tmC v3 (tmC v2 (tmC v1 (tmC v0 0))) = y3 at *
  generalize tmC v2 (tmC v1 (tmC v0 0)) = y2 at *
  generalize tmC v1 (tmC v0 0) = y1 at *
  generalize tmC v0 0 = y0 at *
  omega

set_option maxHeartbeats 16000000 in
theorem times_any (n hi lo k : Nat) (w : World) (h : W2 n hi lo) (hk : k ≤ 60) (hn : n * 10 ^ k < 115792089237316195423570985008687907853269984665640564039457584007913129639936) :
    Calls Tryz.prog 100 #[.agg #[.int .u64 hi, .int .u64 lo], .int .i64 k] w fun e w' => ∃ w0 w1 w2 w3 : Nat, e = .returned (.agg #[.int .u64 w0, .int .u64 w1, .int .u64 w2, .int .u64 w3]) ∧ Words (n * 10 ^ k) w0 w1 w2 w3 ∧ RowKit.Below w.heap.size w w' := by
  have HM := Lib.hid (Mem.start w)
  have HW := Lib.hid (show Words n lo hi 0 0 from h.words)
  have HN := Lib.hid hn
  have hadd := add64_run
  have hadd0 := add64_run0
  have hl := h.lo
  have hh := h.hi
  clear h hn
  go_enter Tryz.func100, Tryz.ntmps100
  go_wp2_with (first | refine mP ?_ | (refine mS ?_; clear HM; intro W1 HM) | ((with_reducible refine iat 2 ?_); refine mB ?_; clear HM; intro g2 W1 HM) | (refine hal (dst := some 4) HM rfl ?_; clear HM; intro g4 W1 HM) | (refine hal (dst := some 5) HM rfl ?_; clear HM; intro g5 W1 HM) | (go_at_call 149; (with_reducible refine cB HM (long_any _ _ _) ?_); clear HM; intro W1 HM))
  go_loopw [14] (fun iv wr => ∃ (i v0 v1 v2 v3 : Nat), iv = .int .i64 i ∧ i ≤ k ∧ Hid (Words (n * 10 ^ i) v0 v1 v2 v3) ∧ Hid (Mem w wr [.box g5 80 [.int .u64 v0, .int .u64 v1, .int .u64 v2, .int .u64 v3], .box g4 80 [.int .u64 0, .int .u64 0, .int .u64 0, .int .u64 0]])) (fun iv _ => k - (intOf iv).toNat)
  case atStart => exact ⟨0, lo, hi, 0, 0, rfl, by omega, Lib.hid (by rw [Nat.pow_zero, Nat.mul_one]; exact HW.out), HM.out.sub (.cons_cons _ (.cons_cons _ (List.nil_sublist _))) |> Lib.hid⟩
  case round =>
    clear HM
    obtain ⟨i, v0, v1, v2, v3, rfl, hi0, HV, HM⟩ := hrel
    by_cases hlt : i < k
    · have q1 : decide ((i : Int) < k) = true := decide_eq_true (by omega)
      have HT := Lib.hid (show Words (n * 10 ^ (i + 1)) _ _ _ _ by
        have h1 : n * 10 ^ i * 10 ≤ n * 10 ^ k := by
          rw [Nat.mul_assoc, ← Nat.pow_succ]
          exact Nat.mul_le_mul_left _ (Nat.pow_le_pow_right (by decide) hlt)
        have h2 := words_ten HV.out (Nat.lt_of_le_of_lt h1 HN.out)
        rw [Nat.mul_assoc, ← Nat.pow_succ] at h2
        exact h2)
      obtain ⟨-, k0, k1, k2, k3⟩ := HV.out
      have H0 := Lib.hid k0
      have H1 := Lib.hid k1
      have H2 := Lib.hid k2
      have H3 := Lib.hid k3
      have s0 := tm_step k0 (show 0 < 10 by omega)
      have s1 := tm_step k1 s0.2.2
      have s2 := tm_step k2 s1.2.2
      have r0 := wrap_tmC k0 (show 0 < 10 by omega)
      have r1 := wrap_tmC k1 s0.2.2
      have r2 := wrap_tmC k2 s1.2.2
      have r3 := wrap_tmC k3 s2.2.2
      clear s0 s1 s2 k0 k1 k2 k3
      go_wp2_with (first | refine mP ?_ | (refine mS ?_; clear HM; intro W1 HM) | ((with_reducible refine iat 2 ?_); refine mB ?_; clear HM; intro g2 W1 HM) | (refine hal (dst := some 4) HM rfl ?_; clear HM; intro g4 W1 HM) | (refine hal (dst := some 5) HM rfl ?_; clear HM; intro g5 W1 HM) | (go_at_call 150; first | (with_reducible refine cQ (mul10_any v0 _ H0.out) ?_) | (with_reducible refine cQ (mul10_any v1 _ H1.out) ?_) | (with_reducible refine cQ (mul10_any v2 _ H2.out) ?_) | (with_reducible refine cQ (mul10_any v3 _ H3.out) ?_)))
      refine wp_loop_rounds 5 ?_
      rw [rounds_succ]
      go_wp2_with (first | refine mP ?_ | (refine mS ?_; clear HM; intro W1 HM) | ((with_reducible refine iat 2 ?_); refine mB ?_; clear HM; intro g2 W1 HM) | (refine hal (dst := some 4) HM rfl ?_; clear HM; intro g4 W1 HM) | (refine hal (dst := some 5) HM rfl ?_; clear HM; intro g5 W1 HM) | (go_at_call 150; first | (with_reducible refine cQ (mul10_any v0 _ H0.out) ?_) | (with_reducible refine cQ (mul10_any v1 _ H1.out) ?_) | (with_reducible refine cQ (mul10_any v2 _ H2.out) ?_) | (with_reducible refine cQ (mul10_any v3 _ H3.out) ?_)))
      rw [rounds_succ]
      go_wp2_with (first | refine mP ?_ | (refine mS ?_; clear HM; intro W1 HM) | ((with_reducible refine iat 2 ?_); refine mB ?_; clear HM; intro g2 W1 HM) | (refine hal (dst := some 4) HM rfl ?_; clear HM; intro g4 W1 HM) | (refine hal (dst := some 5) HM rfl ?_; clear HM; intro g5 W1 HM) | (go_at_call 150; first | (with_reducible refine cQ (mul10_any v0 _ H0.out) ?_) | (with_reducible refine cQ (mul10_any v1 _ H1.out) ?_) | (with_reducible refine cQ (mul10_any v2 _ H2.out) ?_) | (with_reducible refine cQ (mul10_any v3 _ H3.out) ?_)))
      rw [rounds_succ]
      go_wp2_with (first | refine mP ?_ | (refine mS ?_; clear HM; intro W1 HM) | ((with_reducible refine iat 2 ?_); refine mB ?_; clear HM; intro g2 W1 HM) | (refine hal (dst := some 4) HM rfl ?_; clear HM; intro g4 W1 HM) | (refine hal (dst := some 5) HM rfl ?_; clear HM; intro g5 W1 HM) | (go_at_call 150; first | (with_reducible refine cQ (mul10_any v0 _ H0.out) ?_) | (with_reducible refine cQ (mul10_any v1 _ H1.out) ?_) | (with_reducible refine cQ (mul10_any v2 _ H2.out) ?_) | (with_reducible refine cQ (mul10_any v3 _ H3.out) ?_)))
      rw [rounds_succ]
      go_wp2_with (first | refine mP ?_ | (refine mS ?_; clear HM; intro W1 HM) | ((with_reducible refine iat 2 ?_); refine mB ?_; clear HM; intro g2 W1 HM) | (refine hal (dst := some 4) HM rfl ?_; clear HM; intro g4 W1 HM) | (refine hal (dst := some 5) HM rfl ?_; clear HM; intro g5 W1 HM) | (go_at_call 150; first | (with_reducible refine cQ (mul10_any v0 _ H0.out) ?_) | (with_reducible refine cQ (mul10_any v1 _ H1.out) ?_) | (with_reducible refine cQ (mul10_any v2 _ H2.out) ?_) | (with_reducible refine cQ (mul10_any v3 _ H3.out) ?_)))
      rw [rounds_succ]
      go_wp2_with (first | refine mP ?_ | (refine mS ?_; clear HM; intro W1 HM) | ((with_reducible refine iat 2 ?_); refine mB ?_; clear HM; intro g2 W1 HM) | (refine hal (dst := some 4) HM rfl ?_; clear HM; intro g4 W1 HM) | (refine hal (dst := some 5) HM rfl ?_; clear HM; intro g5 W1 HM) | (go_at_call 150; first | (with_reducible refine cQ (mul10_any v0 _ H0.out) ?_) | (with_reducible refine cQ (mul10_any v1 _ H1.out) ?_) | (with_reducible refine cQ (mul10_any v2 _ H2.out) ?_) | (with_reducible refine cQ (mul10_any v3 _ H3.out) ?_)))
      go_roundw
      case rel => exact ⟨i + 1, _, _, _, _, by go_num, by omega, HT, HM⟩
      case measure => simp [intOf]; omega
    · obtain rfl : i = k := by omega
      have q1 : decide ((i : Int) < i) = false := by simp
      go_wp2_with (first | refine mP ?_ | (refine mS ?_; clear HM; intro W1 HM) | ((with_reducible refine iat 2 ?_); refine mB ?_; clear HM; intro g2 W1 HM) | (refine hal (dst := some 4) HM rfl ?_; clear HM; intro g4 W1 HM) | (refine hal (dst := some 5) HM rfl ?_; clear HM; intro g5 W1 HM))
      exact bodyPost_ret (res_box rfl HM.out 1 rfl rfl rfl) rfl ⟨v0, v1, v2, v3, rfl, HV.out, HM.out.below⟩

theorem words_ex {n : Nat} (h : n < 115792089237316195423570985008687907853269984665640564039457584007913129639936) : ∃ w0 w1 w2 w3, Words n w0 w1 w2 w3 := by
  refine ⟨n % 18446744073709551616, n / 18446744073709551616 % 18446744073709551616, n / 18446744073709551616 / 18446744073709551616 % 18446744073709551616, n / 18446744073709551616 / 18446744073709551616 / 18446744073709551616, ?_⟩
  unfold Words longN
  omega
theorem words_one {n a0 a1 a2 a3 b0 b1 b2 b3 : Nat} (h : Words n a0 a1 a2 a3) (h' : Words n b0 b1 b2 b3) : a0 = b0 ∧ a1 = b1 ∧ a2 = b2 ∧ a3 = b3 := by
  unfold Words longN at *
  omega
theorem times_fix {n hi lo k x0 x1 x2 x3 : Nat} (w : World) (h : W2 n hi lo) (hk : k ≤ 60) (hn : n * 10 ^ k < 115792089237316195423570985008687907853269984665640564039457584007913129639936) (hx : Words (n * 10 ^ k) x0 x1 x2 x3) :
    Calls Tryz.prog 100 #[.agg #[.int .u64 hi, .int .u64 lo], .int .i64 k] w fun e w' => e = .returned (.agg #[.int .u64 x0, .int .u64 x1, .int .u64 x2, .int .u64 x3]) ∧ RowKit.Below w.heap.size w w' :=
  (times_any n hi lo k w h hk hn).mono fun e w' ⟨w0, w1, w2, w3, he, hw, hb⟩ => by
    obtain ⟨rfl, rfl, rfl, rfl⟩ := words_one hw hx
    exact ⟨he, hb⟩
theorem word_four (a0 a1 a2 a3 m : Nat) (h : m < 4) : ∃ x : Nat, [a0, a1, a2, a3][m]? = some x ∧ [Value.int .u64 (a0 : Nat), .int .u64 (a1 : Nat), .int .u64 (a2 : Nat), .int .u64 (a3 : Nat)][m]? = some (.int .u64 (x : Nat)) := by
  have h4 : m = 0 ∨ m = 1 ∨ m = 2 ∨ m = 3 := by omega
  rcases h4 with rfl | rfl | rfl | rfl
  · exact ⟨a0, rfl, rfl⟩
  · exact ⟨a1, rfl, rfl⟩
  · exact ⟨a2, rfl, rfl⟩
  · exact ⟨a3, rfl, rfl⟩
theorem words_lt {X Y a0 a1 a2 a3 b0 b1 b2 b3 m x y : Nat} (hX : Words X a0 a1 a2 a3) (hY : Words Y b0 b1 b2 b3) (hm : m < 4) (hx : [a0, a1, a2, a3][m]? = some x) (hy : [b0, b1, b2, b3][m]? = some y) (he : ∀ j, m < j → j < 4 → [a0, a1, a2, a3][j]? = [b0, b1, b2, b3][j]?) (hlt : x < y) : X < Y := by
  have h4 : m = 0 ∨ m = 1 ∨ m = 2 ∨ m = 3 := by omega
  have e1 := he 1
  have e2 := he 2
  have e3 := he 3
  unfold Words longN at *
  rcases h4 with rfl | rfl | rfl | rfl
  · simp at hx hy e1 e2 e3; omega
  · simp at hx hy e2 e3; omega
  · simp at hx hy e3; omega
  · simp at hx hy; omega
theorem words_eq {X Y a0 a1 a2 a3 b0 b1 b2 b3 : Nat} (hX : Words X a0 a1 a2 a3) (hY : Words Y b0 b1 b2 b3) (he : ∀ j, j < 4 → [a0, a1, a2, a3][j]? = [b0, b1, b2, b3][j]?) : X = Y := by
  have e0 := he 0
  have e1 := he 1
  have e2 := he 2
  have e3 := he 3
  unfold Words longN at *
  simp at e0 e1 e2 e3
  omega

set_option maxHeartbeats 8000000 in
theorem order_any (X Y a0 a1 a2 a3 b0 b1 b2 b3 : Nat) (w : World) (hX : Words X a0 a1 a2 a3) (hY : Words Y b0 b1 b2 b3) : Calls Tryz.prog 64 #[.agg #[.int .u64 a0, .int .u64 a1, .int .u64 a2, .int .u64 a3], .agg #[.int .u64 b0, .int .u64 b1, .int .u64 b2, .int .u64 b3]] w fun e w' => e = .returned (.int .i64 (cmpZ X Y)) ∧ RowKit.Below w.heap.size w w' := by
  have HM := Lib.hid (Mem.start w)
  have HX := Lib.hid hX
  have HY := Lib.hid hY
  obtain ⟨r, hr⟩ : ∃ r, cmpZ X Y = r := ⟨_, rfl⟩
  rw [hr]
  have HR := Lib.hid hr
  clear hX hY hr
  go_enter Tryz.func64, Tryz.ntmps64
  go_wp2_with (first | refine mP ?_ | ((with_reducible refine iat 2 ?_); refine mB ?_; clear HM; intro g2 W1 HM) | ((with_reducible refine iat 3 ?_); refine mB ?_; clear HM; intro g3 W1 HM))
  go_loopw [5] (fun iv wr => ∃ (z : Int), iv = .int .i64 z ∧ -1 ≤ z ∧ z ≤ 3 ∧ Hid (∀ j : Nat, z < j → j < 4 → [a0, a1, a2, a3][j]? = [b0, b1, b2, b3][j]?) ∧ Hid (Mem w wr [.box g3 80 [.int .u64 b0, .int .u64 b1, .int .u64 b2, .int .u64 b3], .box g2 80 [.int .u64 a0, .int .u64 a1, .int .u64 a2, .int .u64 a3]])) (fun iv _ => (intOf iv + 1).toNat)
  case atStart => exact ⟨3, rfl, by omega, by omega, Lib.hid (fun j h1 h2 => by omega), HM⟩
  case round =>
    clear HM
    obtain ⟨z, rfl, hz0, hz1, HE, HM⟩ := hrel
    by_cases hlt : 0 ≤ z
    · obtain ⟨m, rfl⟩ : ∃ m : Nat, z = m := ⟨z.toNat, by omega⟩
      have hm : m < 4 := by omega
      obtain ⟨x, hx, hx2⟩ := word_four a0 a1 a2 a3 m hm
      obtain ⟨y, hy, hy2⟩ := word_four b0 b1 b2 b3 m hm
      have HA := Lib.hid hx2
      have HB := Lib.hid hy2
      have HL := Lib.hid (show x < y → X < Y from fun h => words_lt HX.out HY.out hm hx hy (fun j h1 h2 => HE.out j (by omega) h2) h)
      have HG := Lib.hid (show y < x → Y < X from fun h => words_lt HY.out HX.out hm hy hx (fun j h1 h2 => (HE.out j (by omega) h2).symm) h)
      have HEq := Lib.hid (show x = y → ∀ j : Nat, (m : Int) - 1 < j → j < 4 → [a0, a1, a2, a3][j]? = [b0, b1, b2, b3][j]? from fun h j h1 h2 => by
        by_cases e : j = m
        · subst e; rw [hx, hy, h]
        · exact HE.out j (by omega) h2)
      clear hx hy hx2 hy2
      have p0 : decide ((0 : Int) ≤ m) = true := decide_eq_true (by omega)
      rcases Nat.lt_trichotomy x y with h | h | h
      · have q1 : decide ((x : Int) < y) = true := decide_eq_true (by omega)
        have HE2 := Lib.hid (show (-1 : Int) = r by rw [← HR.out]; unfold cmpZ; have := HL.out h; rw [if_pos (by omega)])
        go_wp2_with (first | refine mP ?_ | ((with_reducible refine iat 2 ?_); refine mB ?_; clear HM; intro g2 W1 HM) | ((with_reducible refine iat 3 ?_); refine mB ?_; clear HM; intro g3 W1 HM))
        refine wp_region_mem (by kernel_rfl) (by kernel_rfl) HM.out ?_; intro hNE; (repeat (any_goals (first | refine mQ ?_ | ((with_reducible refine qat 13 ?_); (refine hqd1 HM rfl HA.out ?_)) | ((with_reducible refine qat 16 ?_); (refine hqd1 HM rfl HB.out ?_)) | go_big_quiet_step (fail) | quiet_step (fail)))); clear hNE; refine wpQuiet_nil ?_; intro W1 HM1; replace HM := Lib.hid HM1; clear HM1
        go_wp2
        go_ret
        exact ⟨by rw [← HE2.out]; rfl, HM.out.below⟩
      · have HE2 := Lib.hid (HEq.out h)
        subst h
        have q1 : decide ((x : Int) < x) = false := by simp
        go_wp2_with (first | refine mP ?_ | ((with_reducible refine iat 2 ?_); refine mB ?_; clear HM; intro g2 W1 HM) | ((with_reducible refine iat 3 ?_); refine mB ?_; clear HM; intro g3 W1 HM))
        refine wp_region_mem (by kernel_rfl) (by kernel_rfl) HM.out ?_; intro hNE; (repeat (any_goals (first | refine mQ ?_ | ((with_reducible refine qat 13 ?_); (refine hqd1 HM rfl HA.out ?_)) | ((with_reducible refine qat 16 ?_); (refine hqd1 HM rfl HB.out ?_)) | go_big_quiet_step (fail) | quiet_step (fail)))); clear hNE; refine wpQuiet_nil ?_; intro W1 HM1; replace HM := Lib.hid HM1; clear HM1
        go_wp2_with (first | refine mP ?_ | ((with_reducible refine iat 2 ?_); refine mB ?_; clear HM; intro g2 W1 HM) | ((with_reducible refine iat 3 ?_); refine mB ?_; clear HM; intro g3 W1 HM))
        refine wp_region_mem (by kernel_rfl) (by kernel_rfl) HM.out ?_; intro hNE; (repeat (any_goals (first | refine mQ ?_ | ((with_reducible refine qat 21 ?_); (refine hqd1 HM rfl HA.out ?_)) | ((with_reducible refine qat 24 ?_); (refine hqd1 HM rfl HB.out ?_)) | go_big_quiet_step (fail) | quiet_step (fail)))); clear hNE; refine wpQuiet_nil ?_; intro W1 HM1; replace HM := Lib.hid HM1; clear HM1
        go_wp2
        go_roundw
        case rel => exact ⟨(m : Int) - 1, rfl, by omega, by omega, HE2, HM⟩
        case measure => simp [intOf]
      · have q1 : decide ((x : Int) < y) = false := decide_eq_false (by omega)
        have q2 : decide ((y : Int) < x) = true := decide_eq_true (by omega)
        have HE2 := Lib.hid (show (1 : Int) = r by rw [← HR.out]; unfold cmpZ; have := HG.out h; rw [if_neg (by omega), if_neg (by omega)])
        go_wp2_with (first | refine mP ?_ | ((with_reducible refine iat 2 ?_); refine mB ?_; clear HM; intro g2 W1 HM) | ((with_reducible refine iat 3 ?_); refine mB ?_; clear HM; intro g3 W1 HM))
        refine wp_region_mem (by kernel_rfl) (by kernel_rfl) HM.out ?_; intro hNE; (repeat (any_goals (first | refine mQ ?_ | ((with_reducible refine qat 13 ?_); (refine hqd1 HM rfl HA.out ?_)) | ((with_reducible refine qat 16 ?_); (refine hqd1 HM rfl HB.out ?_)) | go_big_quiet_step (fail) | quiet_step (fail)))); clear hNE; refine wpQuiet_nil ?_; intro W1 HM1; replace HM := Lib.hid HM1; clear HM1
        go_wp2_with (first | refine mP ?_ | ((with_reducible refine iat 2 ?_); refine mB ?_; clear HM; intro g2 W1 HM) | ((with_reducible refine iat 3 ?_); refine mB ?_; clear HM; intro g3 W1 HM))
        refine wp_region_mem (by kernel_rfl) (by kernel_rfl) HM.out ?_; intro hNE; (repeat (any_goals (first | refine mQ ?_ | ((with_reducible refine qat 21 ?_); (refine hqd1 HM rfl HA.out ?_)) | ((with_reducible refine qat 24 ?_); (refine hqd1 HM rfl HB.out ?_)) | go_big_quiet_step (fail) | quiet_step (fail)))); clear hNE; refine wpQuiet_nil ?_; intro W1 HM1; replace HM := Lib.hid HM1; clear HM1
        go_wp2
        go_ret
        exact ⟨by rw [← HE2.out]; rfl, HM.out.below⟩
    · have p0 : decide (0 ≤ z) = false := decide_eq_false hlt
      have HE2 := Lib.hid (show (0 : Int) = r by
        have := words_eq HX.out HY.out (fun j h => HE.out j (by omega) h)
        rw [← HR.out, this, cmpZ_self])
      go_wp2
      go_ret
      exact ⟨by rw [← HE2.out]; rfl, HM.out.below⟩

/-- The two sizes at the greater scale. -/
def dAt (d : DcD) (m : Nat) : Nat := d.n * 10 ^ (m - d.sc.toNat)
theorem dAt_lt {d : DcD} (h : d.ok = true) {m : Nat} (hm : m ≤ 18) : dAt d m < 115792089237316195423570985008687907853269984665640564039457584007913129639936 := by
  have h1 := (DcD.ok_parts h).1
  have h2 : 10 ^ (m - d.sc.toNat) ≤ 10 ^ 18 := Nat.pow_le_pow_right (by decide) (by omega)
  have h3 : dAt d m ≤ 10 ^ 34 * 10 ^ 18 := Nat.mul_le_mul (by omega) h2
  exact Nat.lt_of_le_of_lt h3 (by decide)

set_option maxHeartbeats 8000000 in
theorem dboth_any (x y : DcD) (w : World) (hx : x.ok = true) (hy : y.ok = true) (hxw : x.wf) (hyw : y.wf) (s t : Nat) (hs : x.sc = s) (ht : y.sc = t) (m : Nat) (hm : m = max s t) (a0 a1 a2 a3 b0 b1 b2 b3 : Nat) (hA : Words (dAt x m) a0 a1 a2 a3) (hB : Words (dAt y m) b0 b1 b2 b3) :
    Calls Tryz.prog 63 #[.agg x.cs.toArray, .agg y.cs.toArray] w fun e w' => e = .returned (.tuple #[.agg #[.int .u64 a0, .int .u64 a1, .int .u64 a2, .int .u64 a3], .agg #[.int .u64 b0, .int .u64 b1, .int .u64 b2, .int .u64 b3], .int .i64 m]) ∧ RowKit.Below w.heap.size w w' := by
  have HM := Lib.hid (Mem.start w)
  obtain ⟨-, x1, x2, -⟩ := DcD.ok_parts hx
  obtain ⟨-, y1, y2, -⟩ := DcD.ok_parts hy
  have hs18 : s ≤ 18 := by omega
  have ht18 : t ≤ 18 := by omega
  obtain ⟨u, hu⟩ : ∃ u, m - s = u := ⟨_, rfl⟩
  obtain ⟨v, hv⟩ : ∃ u, m - t = u := ⟨_, rfl⟩
  have HC1 := Lib.hid (fun W => times_fix (k := u) (hi := x.hi) (lo := x.lo) W (DcD.w2 hxw) (by omega) (by have := dAt_lt hx (m := m) (by omega); unfold dAt at this; rwa [hs, Int.toNat_natCast, hu] at this) (by have := hA; unfold dAt at this; rwa [hs, Int.toNat_natCast, hu] at this))
  have HC2 := Lib.hid (fun W => times_fix (k := v) (hi := y.hi) (lo := y.lo) W (DcD.w2 hyw) (by omega) (by have := dAt_lt hy (m := m) (by omega); unfold dAt at this; rwa [ht, Int.toNat_natCast, hv] at this) (by have := hB; unfold dAt at this; rwa [ht, Int.toNat_natCast, hv] at this))
  have e1 : (m : Int) - s = u := by omega
  have e2 : (m : Int) - t = v := by omega
  have e3 : max (s : Int) (t : Int) = m := by omega
  obtain ⟨xn, xh, xl, xs⟩ := x
  obtain ⟨yn, yh, yl, ys⟩ := y
  simp only at hs ht
  subst hs ht
  simp only [DcD.cs]
  clear hx hy hxw hyw hA hB x1 x2 y1 y2 hm hu hv
  go_enter Tryz.func63, Tryz.ntmps63
  go_wp2_with (first | refine mP ?_ | (refine mS ?_; clear HM; intro W1 HM) | ((with_reducible refine iat 2 ?_); refine mB ?_; clear HM; intro g2 W1 HM) | ((with_reducible refine iat 3 ?_); refine mB ?_; clear HM; intro g3 W1 HM) | (refine hal (dst := some 4) HM rfl ?_; clear HM; intro g4 W1 HM) | (refine hal (dst := some 5) HM rfl ?_; clear HM; intro g5 W1 HM))
  refine wp_region_steps2 [(true, 0), (true, 1), (true, 2), (true, 3), (true, 4), (true, 5), (true, 7), (true, 8), (true, 9), (true, 10), (true, 11), (true, 12), (true, 14), (false, 6), (false, 13), (false, 15), (false, 16), (true, 17)] (by kernel_rfl) (by kernel_rfl) rfl (by kernel_rfl) (fun _ _ _ _ _ h => h) HM.out _ (.cons _ (.cons _ (.cons_cons _ (.cons_cons _ .slnil)))) ?_
  intro hNE W1 HM1; replace HM := Lib.hid HM1; clear HM1
  have HS0 := Lib.hid (HM.out.sub (.cons _ (.cons _ (.cons_cons _ (.cons_cons _ .slnil)))))
  simp only [wpSteps, List.getElem?_cons_succ, List.getElem?_cons_zero]
  (repeat (first | ((with_reducible refine wpQuiet_nil ?_); (try dsimp only)) | refine mQ ?_ | go_big_quiet_step (fail) | quiet_step (fail)))
  go_wp2_with (first | (go_at_call 100; first | ((with_reducible refine cB HM (HC1.out _) ?_); clear HM; intro W1 HM) | ((with_reducible refine cB HM (HC2.out _) ?_); clear HM; intro W1 HM)))
  refine ⟨⟨⟨_, HM.out.sub (by repeat (first | exact List.nil_sublist _ | with_reducible refine List.Sublist.cons_cons _ ?_ | refine List.Sublist.cons _ ?_))⟩, rfl⟩, ?_⟩
  (try dsimp only)
  go_wp2_with (first | (go_at_call 100; first | ((with_reducible refine cB HM (HC1.out _) ?_); clear HM; intro W1 HM) | ((with_reducible refine cB HM (HC2.out _) ?_); clear HM; intro W1 HM)))
  refine ⟨⟨⟨_, HM.out.sub (by repeat (first | exact List.nil_sublist _ | with_reducible refine List.Sublist.cons_cons _ ?_ | refine List.Sublist.cons _ ?_))⟩, rfl⟩, ?_⟩
  (try dsimp only)
  go_wp2_with (first | (refine mS ?_; clear HM; intro W1 HM))
  refine ⟨⟨⟨_, HM.out.sub (by repeat (first | exact List.nil_sublist _ | with_reducible refine List.Sublist.cons_cons _ ?_ | refine List.Sublist.cons _ ?_))⟩, rfl⟩, ?_⟩
  (try dsimp only)
  go_wp2_with (first | (refine mS ?_; clear HM; intro W1 HM))
  refine ⟨⟨⟨_, HM.out.sub (by repeat (first | exact List.nil_sublist _ | with_reducible refine List.Sublist.cons_cons _ ?_ | refine List.Sublist.cons _ ?_))⟩, rfl⟩, ?_⟩
  (try dsimp only)
  (repeat (first | ((with_reducible refine wpQuiet_nil ?_); (try dsimp only)) | refine mQ ?_ | go_big_quiet_step (fail) | quiet_step (fail)))
  clear HS0 hNE
  go_wp2_with fail
  exact bodyPost_ret (res_box_box_tmp rfl HM.out 1 0 rfl rfl rfl rfl rfl rfl rfl) rfl ⟨rfl, HM.out.below⟩

theorem two_decs {B : Nat} {W : World} {g : Nat} {t : TypeId} {x y : DcD} (hb : (Res.box g t (x.cs ++ y.cs)).holds B W) : Sl W (some ⟨g, 0, none⟩) ([x, y].flatMap DcD.cs) :=
  ⟨(fun e => by cases e), fun a e => by cases e; simpa using box_cells hb 0⟩

set_option maxHeartbeats 16000000 in
theorem dCmp_any (x y : DcD) (w : World) (hx : x.ok = true) (hy : y.ok = true) (hxw : x.wf) (hyw : y.wf) :
    Calls Tryz.prog 37 #[.agg x.cs.toArray, .agg y.cs.toArray] w fun e w' => e = .returned (.tuple #[.int .i64 (cmpZ x.val y.val), .int .i64 0]) ∧ RowKit.Below w.heap.size w w' := by
  have HM := Lib.hid (Mem.start w)
  obtain ⟨-, x1, x2, -⟩ := DcD.ok_parts hx
  obtain ⟨-, y1, y2, -⟩ := DcD.ok_parts hy
  obtain ⟨s, hs⟩ : ∃ s : Nat, x.sc = s := ⟨x.sc.toNat, by omega⟩
  obtain ⟨t, ht⟩ : ∃ s : Nat, y.sc = s := ⟨y.sc.toNat, by omega⟩
  obtain ⟨m, hm⟩ : ∃ m, m = max s t := ⟨_, rfl⟩
  have hm18 : m ≤ 18 := by omega
  obtain ⟨a0, a1, a2, a3, hA⟩ := words_ex (dAt_lt hx hm18)
  obtain ⟨b0, b1, b2, b3, hB⟩ := words_ex (dAt_lt hy hm18)
  have HB := Lib.hid (fun W => dboth_any x y W hx hy hxw hyw s t hs ht m hm a0 a1 a2 a3 b0 b1 b2 b3 hA hB)
  have hc1 : cmpZ (dAt x m) (dAt y m) = cmpZ x.size y.size := cmp_max hx hy (by omega) (by omega) hm18
  have hc2 : cmpZ (dAt y m) (dAt x m) = cmpZ y.size x.size := cmp_max hy hx (by omega) (by omega) hm18
  have HO1 := Lib.hid (fun W => hc1 ▸ order_any (dAt x m) (dAt y m) a0 a1 a2 a3 b0 b1 b2 b3 W hA hB)
  have HO2 := Lib.hid (fun W => hc2 ▸ order_any (dAt y m) (dAt x m) b0 b1 b2 b3 a0 a1 a2 a3 W hB hA)
  have hv := cmp_prog hx hy
  have HF := Lib.hid (show ∀ W g t, RowKit.Below w.heap.size w W → (Res.box g t (x.cs ++ y.cs)).holds w.heap.size W → Calls Tryz.prog 62 #[.slice (some ⟨g, 0, none⟩) 2 2] W fun e w' => e = .returned (.int .i64 0) ∧ RowKit.Below W.heap.size W w' from fun W g t hb hbox => by
    have h := formed_any (some ⟨g, 0, none⟩) 2 2 [x, y] W (two_decs hbox) (fun i d hd => by
      have := List.mem_of_getElem? hd
      simp only [List.mem_cons, List.not_mem_nil, or_false] at this
      rcases this with rfl | rfl
      · exact hxw
      · exact hyw) (by simp) rfl
    have e : [x, y].all DcD.ok = true := by simp [hx, hy]
    rw [e] at h
    exact h)
  obtain ⟨r, hr⟩ : ∃ r, cmpZ x.val y.val = r := ⟨_, rfl⟩
  obtain ⟨r1, hr1⟩ : ∃ r, cmpZ (x.size : Int) y.size = r := ⟨_, rfl⟩
  obtain ⟨r2, hr2⟩ : ∃ r, cmpZ (y.size : Int) x.size = r := ⟨_, rfl⟩
  rw [hr1] at HO1
  rw [hr2] at HO2
  rw [hr, hr1, hr2] at hv
  rw [hr]
  have HV := Lib.hid hv
  obtain ⟨xn, xh, xl, xs⟩ := x
  obtain ⟨yn, yh, yl, ys⟩ := y
  simp only at hs ht
  subst hs ht
  simp only [DcD.cs, List.cons_append, List.nil_append] at HF HB ⊢
  clear hx hy hxw hyw hA hB x1 x2 y1 y2 hm hr hr1 hr2 hv hc1 hc2 hm18
  cases xn <;> cases yn
  all_goals
    go_enter Tryz.func37, Tryz.ntmps37
    go_wp2_with (first | (refine bs2 rfl HM.out rfl rfl rfl rfl rfl ?_; intro g12 W1 HM1; replace HM := Lib.hid HM1; clear HM1; simp only [List.cons_append, List.nil_append] at HM) | refine mP ?_ | (refine mS ?_; clear HM; intro W1 HM) | (refine mL ?_; clear HM; intro g1 W1 HM) | ((with_reducible refine iat 2 ?_); refine mB ?_; clear HM; intro g2 W1 HM) | ((with_reducible refine iat 3 ?_); refine mB ?_; clear HM; intro g3 W1 HM) | (refine hal (dst := some 7) HM rfl ?_; clear HM; intro g7 W1 HM) | (refine hal (dst := some 8) HM rfl ?_; clear HM; intro g8 W1 HM) | (go_at_call 62; (with_reducible refine cB HM (HF.out _ _ _ HM.out.below (HM.out.get (k := 0) rfl)) ?_); clear HM; intro W1 HM) | (go_at_call 63; (with_reducible refine cB HM (HB.out _) ?_); clear HM; intro W1 HM) | (go_at_call 64; first | ((with_reducible refine cB HM (HO1.out _) ?_); clear HM; intro W1 HM) | ((with_reducible refine cB HM (HO2.out _) ?_); clear HM; intro W1 HM)))
    go_ret2
    exact ⟨by rw [HV.out]; rfl, HM.out.below⟩
end Go.Proofs.YtgobdcmoelcckaaGreatDoor
