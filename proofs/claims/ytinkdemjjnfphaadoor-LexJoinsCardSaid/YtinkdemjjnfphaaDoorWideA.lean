/- The walk over bits.Div64 at the divisor ten. The walks over package wide's tenth, Narrow, Cmp. Numbers of two and four words. The walks over package wide's Mul. The walks over package wide's Narrow, Ten, Cmp, Trim, and package dec's Form. -/
import Derived.Test.YtinkdemjjnfphaaDoorShelf
import Derived.Test.YtinkdemjjnfphaaDoorSepA
import Derived.BigQuiet
import Derived.Deep.QuietTactic
import Derived.IntWalk
import Derived.Laws.BitsAllLaws
import Derived.LoopN
import Derived.RegionTactic
import Derived.BigRegion
import Derived.ChangeAlike
import Derived.Shelf.Spec.BitsCarry
import Derived.Deep.DeepCutAuto
namespace Go.Proofs.YtinkdemjjnfphaaDoor
open Go.RowKit
set_option linter.unusedVariables false
set_option maxRecDepth 100000

theorem pair_u64 {a b c d : Int} (h1 : a = c) (h2 : b = d) : Ending.returned (.tuple #[.int .u64 a, .int .u64 b]) = .returned (.tuple #[.int .u64 c, .int .u64 d]) := by rw [h1, h2]
theorem div_or (hi lo : Nat) (hhi : hi < 10) (hlo : lo < 18446744073709551616) : bits .or .u64 ((hi : Int) * 1152921504606846976) ((lo : Int) / 16) = ((hi * 1152921504606846976 + lo / 16 : Nat) : Int) := by
  have h1 : ((hi : Int) * 1152921504606846976) = ((hi * 1152921504606846976 : Nat) : Int) := by omega
  have h2 : ((lo : Int) / 16) = ((lo / 16 : Nat) : Int) := by omega
  rw [h1, h2, u64_or_nat _ _ (by omega) (by omega)]
  have h3 := Nat.two_pow_add_eq_or_of_lt (i := 60) (b := lo / 16) (by omega) hi
  rw [show (2 : Nat) ^ 60 = 1152921504606846976 by decide, Nat.mul_comm] at h3
  rw [h3]
theorem div_low (lo : Nat) : IntKind.u64.wrap ((lo : Int) * 1152921504606846976) = ((lo % 16 * 1152921504606846976 : Nat) : Int) := by rw [IntKind.wrap_u64]; omega
theorem div_mid (l : Nat) : ((l * 1152921504606846976 : Nat) : Int) / 4294967296 = ((l * 268435456 : Nat) : Int) := by omega
theorem div_and (l : Nat) (h : l < 16) : bits .and .u64 ((l * 1152921504606846976 : Nat) : Int) 4294967295 = 0 := by
  have h1 : (4294967295 : Int) = ((4294967295 : Nat) : Int) := rfl
  rw [h1, u64_and_nat _ _ (by omega) (by omega)]
  have h2 : l * 1152921504606846976 &&& 4294967295 = 0 := by
    have := Nat.and_two_pow_sub_one_eq_mod (l * 1152921504606846976) 32
    rw [show (2 : Nat) ^ 32 - 1 = 4294967295 by decide] at this
    rw [this]
    omega
  rw [h2]
  rfl
theorem div_and0 : bits .and .u64 11529215046068469760 4294967295 = 0 := div_and 10 (by omega)

end Go.Proofs.YtinkdemjjnfphaaDoor

namespace Go.Proofs.YtinkdemjjnfphaaDoor
open Go.RowKit
set_option linter.unusedVariables false
set_option maxRecDepth 100000

/-- What a callee that makes memory leaves of what lay before. -/
theorem bkeep {W w1 : World} (hb : Below W.heap.size W w1) : (∀ b o, b < W.heap.size → w1.cell? ⟨b, o, none⟩ = W.cell? ⟨b, o, none⟩) ∧ (∀ b o, b < W.heap.size → w1.frozen? ⟨b, o, none⟩ = W.frozen? ⟨b, o, none⟩) :=
  ⟨fun b o h => hb.cell (p := ⟨b, o, none⟩) h, fun b o h => hb.frozen (p := ⟨b, o, none⟩) h⟩

/-- A number in two words, and in four. -/
def wideV (n : Nat) : Value := .agg #[.int .u64 ((n / 18446744073709551616 : Nat) : Int), .int .u64 ((n % 18446744073709551616 : Nat) : Int)]
def longN (w0 w1 w2 w3 : Nat) : Nat := w0 + w1 * 18446744073709551616 + w2 * 340282366920938463463374607431768211456 + w3 * 6277101735386680763835789423207666416102355444464034512896
def Words (n w0 w1 w2 w3 : Nat) : Prop := n = longN w0 w1 w2 w3 ∧ w0 < 18446744073709551616 ∧ w1 < 18446744073709551616 ∧ w2 < 18446744073709551616 ∧ w3 < 18446744073709551616

end Go.Proofs.YtinkdemjjnfphaaDoor

namespace Go.Proofs.YtinkdemjjnfphaaDoor
open Go.RowKit
set_option linter.unusedVariables false
set_option maxRecDepth 100000

/-- A sum's low word and its carry; a product's two words. -/
def adl (x y : Nat) : Nat := (x + y) % 18446744073709551616
def adh (x y : Nat) : Nat := (x + y) / 18446744073709551616
def mulH (x y : Nat) : Nat := x * y / 18446744073709551616
def mulL (x y : Nat) : Nat := x * y % 18446744073709551616
theorem ad_eq (x y : Nat) : adh x y * 18446744073709551616 + adl x y = x + y ∧ adl x y < 18446744073709551616 := by unfold adl adh; omega
theorem add64_run (x y : Nat) (w : World) : (callFunc 66 #[.int .u64 x, .int .u64 y, .int .u64 0]).run Tryd.prog w = .ok (.value (.tuple #[.int .u64 (adl x y : Nat), .int .u64 (adh x y : Nat)])) w :=
  Any7.bits_Add64 Tryd.lays25 x y 0 (by omega) w
theorem add64_run0 (x : Nat) (w : World) : (callFunc 66 #[.int .u64 x, .int .u64 0, .int .u64 0]).run Tryd.prog w = .ok (.value (.tuple #[.int .u64 (adl x 0 : Nat), .int .u64 (adh x 0 : Nat)])) w := add64_run x 0 w
theorem wrap_adl (x y : Nat) : IntKind.u64.wrap ((x : Int) + (y : Int)) = ((adl x y : Nat) : Int) := by rw [IntKind.wrap_u64]; unfold adl; omega
theorem mul64_h (x y : Nat) (w : World) (hx : x < 18446744073709551616) (hy : y < 18446744073709551616) :
    Calls Tryd.prog 65 #[.int .u64 x, .int .u64 y] w fun e w' => e = .returned (.tuple #[.int .u64 (mulH x y : Nat), .int .u64 (mulL x y : Nat)]) ∧ w = w' :=
  (Tryd.bits_Mul64 x y hx hy w).mono fun _ _ ⟨he, hw⟩ => ⟨he, hw.symm⟩

/-- One step of the long multiplication: the word, and the carry. -/
def stepL (x y o c : Nat) : Nat := adl (adl (mulL x y) o) c
def stepH (x y o c : Nat) : Nat := adl (adl (mulH x y) (adh (mulL x y) o)) (adh (adl (mulL x y) o) c)
theorem step_eq {x y o c : Nat} (hx : x < 18446744073709551616) (hy : y < 18446744073709551616) (ho : o < 18446744073709551616) (hc : c < 18446744073709551616) :
    stepH x y o c * 18446744073709551616 + stepL x y o c = x * y + o + c ∧ stepH x y o c < 18446744073709551616 ∧ stepL x y o c < 18446744073709551616 := by
  have hp : x * y ≤ 18446744073709551615 * 18446744073709551615 := Nat.mul_le_mul (by omega) (by omega)
  unfold stepH stepL mulH mulL adl adh
  generalize x * y = p at *
  omega
def mw0 (a0 a1 b0 b1 : Nat) : Nat := stepL a0 b0 0 0
def mw1 (a0 a1 b0 b1 : Nat) : Nat := stepL a1 b0 (stepL a0 b1 0 (stepH a0 b0 0 0)) 0
def mw2 (a0 a1 b0 b1 : Nat) : Nat := stepL a1 b1 (stepH a0 b1 0 (stepH a0 b0 0 0)) (stepH a1 b0 (stepL a0 b1 0 (stepH a0 b0 0 0)) 0)
def mw3 (a0 a1 b0 b1 : Nat) : Nat := stepH a1 b1 (stepH a0 b1 0 (stepH a0 b0 0 0)) (stepH a1 b0 (stepL a0 b1 0 (stepH a0 b0 0 0)) 0)
theorem mul_lin (B p0 p1 p2 p3 x0 x1 x2 x3 y0 y1 y2 y3 : Nat)
    (f0 : y0 * B + x0 = p0 + 0 + 0) (g0 : y1 * B + x1 = p1 + 0 + y0) (i0 : y2 * B + x2 = p2 + x1 + 0) (j0 : y3 * B + x3 = p3 + y1 + y2) :
    p3 * (B * B) + p2 * B + p1 * B + p0 = x0 + x2 * B + x3 * (B * B) + y3 * (B * B * B) := by
  grind
theorem mul_words {a0 a1 b0 b1 : Nat} (h1 : a0 < 18446744073709551616) (h2 : a1 < 18446744073709551616) (h3 : b0 < 18446744073709551616) (h4 : b1 < 18446744073709551616) :
    Words ((a1 * 18446744073709551616 + a0) * (b1 * 18446744073709551616 + b0)) (mw0 a0 a1 b0 b1) (mw1 a0 a1 b0 b1) (mw2 a0 a1 b0 b1) (mw3 a0 a1 b0 b1) := by
  have e00 := step_eq (o := 0) (c := 0) h1 h3 (by omega) (by omega)
  have e01 := step_eq (o := 0) (c := stepH a0 b0 0 0) h1 h4 (by omega) e00.2.1
  have e10 := step_eq (o := stepL a0 b1 0 (stepH a0 b0 0 0)) (c := 0) h2 h3 e01.2.2 (by omega)
  have e11 := step_eq (o := stepH a0 b1 0 (stepH a0 b0 0 0)) (c := stepH a1 b0 (stepL a0 b1 0 (stepH a0 b0 0 0)) 0) h2 h4 e01.2.1 e10.2.1
  unfold Words longN mw0 mw1 mw2 mw3
  have hmul : (a1 * 18446744073709551616 + a0) * (b1 * 18446744073709551616 + b0) = a1 * b1 * 340282366920938463463374607431768211456 + a1 * b0 * 18446744073709551616 + a0 * b1 * 18446744073709551616 + a0 * b0 := by grind
  rw [hmul]
  generalize stepL a0 b0 0 0 = x0 at *
  generalize stepH a0 b0 0 0 = y0 at *
  generalize stepL a0 b1 0 y0 = x1 at *
  generalize stepH a0 b1 0 y0 = y1 at *
  generalize stepL a1 b0 x1 0 = x2 at *
  generalize stepH a1 b0 x1 0 = y2 at *
  generalize stepL a1 b1 y1 y2 = x3 at *
  generalize stepH a1 b1 y1 y2 = y3 at *
  obtain ⟨f0, f1, f2⟩ := e00
  obtain ⟨g0, g1, g2⟩ := e01
  obtain ⟨i0, i1, i2⟩ := e10
  obtain ⟨j0, j1, j2⟩ := e11
  refine ⟨?_, f2, i2, j2, j1⟩
  generalize a1 * b1 = p3 at *
  generalize a1 * b0 = p2 at *
  generalize a0 * b1 = p1 at *
  generalize a0 * b0 = p0 at *
  exact mul_lin 18446744073709551616 p0 p1 p2 p3 x0 x1 x2 x3 y0 y1 y2 y3 f0 g0 i0 j0

set_option maxHeartbeats 4000000 in
theorem mul_any (a0 a1 b0 b1 : Nat) (w : World) (h1 : a0 < 18446744073709551616) (h2 : a1 < 18446744073709551616) (h3 : b0 < 18446744073709551616) (h4 : b1 < 18446744073709551616) :
    Calls Tryd.prog 55 #[.agg #[.int .u64 a1, .int .u64 a0], .agg #[.int .u64 b1, .int .u64 b0]] w fun e w' => e = .returned (.agg #[.int .u64 (mw0 a0 a1 b0 b1 : Nat), .int .u64 (mw1 a0 a1 b0 b1 : Nat), .int .u64 (mw2 a0 a1 b0 b1 : Nat), .int .u64 (mw3 a0 a1 b0 b1 : Nat)]) ∧ Below w.heap.size w w' := by
  have H1 := Lib.hid h1
  have H2 := Lib.hid h2
  have H3 := Lib.hid h3
  have H4 := Lib.hid h4
  have hadd := add64_run
  have hadd0 := add64_run0
  have hwr := wrap_adl
  clear h1 h2 h3 h4
  go_enter Tryd.func55, Tryd.ntmps55
  go_upto_region 2 with fail
  go_cut [6, 7] (fun x y wx => ∃ X Y : Nat, x = .pointer (some ⟨X, 0, none⟩) ∧ y = .pointer (some ⟨Y, 0, none⟩) ∧ Hid (At wx X 99 #[.int .u64 a0, .int .u64 a1]) ∧ Hid (At wx Y 99 #[.int .u64 b0, .int .u64 b1]) ∧ Hid (At wx (w.heap.size + 1 + 1 + 1) 89 #[.int .u64 0, .int .u64 0, .int .u64 0, .int .u64 0]) ∧ Hid (At wx (w.heap.size + 1 + 1) 89 #[.int .u64 0, .int .u64 0, .int .u64 0, .int .u64 0]) ∧ Hid (w.heap.size + 1 + 1 + 1 < X) ∧ Hid (w.heap.size + 1 + 1 + 1 < Y) ∧ Hid (Below w.heap.size w wx))
  case first =>
    go_region
    all_goals
      go_wp2_with fail
      go_meet
      refine ⟨_, _, rfl, rfl, ?_, ?_, ?_, ?_, ?_, ?_, ?_⟩
    · exact (by refine At.drew ?_; refine At.alloc ?_ _; exact At.newAt (by simp) _ _)
    · exact (by refine At.drew ?_; exact At.newAt (by simp) _ _)
    · exact (by refine At.drew ?_; refine At.alloc ?_ _; refine At.alloc ?_ _; exact At.newAt (by simp) _ _)
    · exact (by refine At.drew ?_; refine At.alloc ?_ _; refine At.alloc ?_ _; refine At.alloc ?_ _; exact At.newAt (by simp) _ _)
    · show _ < _; omega
    · show _ < _; omega
    · exact (((((((Below.refl _ w).alloc (Nat.le_refl _) _).alloc (by simp) _).alloc (by simp; omega) _).alloc (by simp; omega) _).alloc (by simp; omega) _).alloc (by simp; omega) _).drew
    · exact (by refine At.drew ?_; exact At.newAt (by simp) _ _)
    · exact (by refine At.drew ?_; refine At.alloc ?_ _; exact At.newAt (by simp) _ _)
    · exact (by refine At.drew ?_; refine At.alloc ?_ _; refine At.alloc ?_ _; exact At.newAt (by simp) _ _)
    · exact (by refine At.drew ?_; refine At.alloc ?_ _; refine At.alloc ?_ _; refine At.alloc ?_ _; exact At.newAt (by simp) _ _)
    · show _ < _; omega
    · show _ < _; omega
    · exact (((((((Below.refl _ w).alloc (Nat.le_refl _) _).alloc (by simp) _).alloc (by simp; omega) _).alloc (by simp; omega) _).alloc (by simp; omega) _).alloc (by simp; omega) _).drew
  case rest =>
    obtain ⟨X, Y, rfl, rfl, HX, HY, HO, HR, LX, LY, HB⟩ := hcut
    have cX0 : wc.cell? ⟨X, 0, none⟩ = some (.int .u64 (a0 : Nat)) := HX.out.cell 0 rfl
    have cX1 : wc.cell? ⟨X, 1, none⟩ = some (.int .u64 (a1 : Nat)) := HX.out.cell 1 rfl
    have cY0 : wc.cell? ⟨Y, 0, none⟩ = some (.int .u64 (b0 : Nat)) := HY.out.cell 0 rfl
    have cY1 : wc.cell? ⟨Y, 1, none⟩ = some (.int .u64 (b1 : Nat)) := HY.out.cell 1 rfl
    have cO0 : wc.cell? ⟨w.heap.size + 1 + 1 + 1, 0, none⟩ = some (.int .u64 0) := HO.out.cell 0 rfl
    have cO1 : wc.cell? ⟨w.heap.size + 1 + 1 + 1, 1, none⟩ = some (.int .u64 0) := HO.out.cell 1 rfl
    have cO2 : wc.cell? ⟨w.heap.size + 1 + 1 + 1, 2, none⟩ = some (.int .u64 0) := HO.out.cell 2 rfl
    have cO3 : wc.cell? ⟨w.heap.size + 1 + 1 + 1, 3, none⟩ = some (.int .u64 0) := HO.out.cell 3 rfl
    have fO0 : wc.frozen? ⟨w.heap.size + 1 + 1 + 1, 0, none⟩ = false := HO.out.free 0
    have fO1 : wc.frozen? ⟨w.heap.size + 1 + 1 + 1, 1, none⟩ = false := HO.out.free 1
    have fO2 : wc.frozen? ⟨w.heap.size + 1 + 1 + 1, 2, none⟩ = false := HO.out.free 2
    have fO3 : wc.frozen? ⟨w.heap.size + 1 + 1 + 1, 3, none⟩ = false := HO.out.free 3
    go_wp2
    refine wp_loop_rounds 3 ?_
    rw [rounds_succ]
    go_wp2
    refine wp_loop_rounds 3 ?_
    rw [rounds_succ]
    go_wp2
    go_quiet ((go_at_call 65; first | exact q_left (mul64_h a0 b0 _ H1.out H3.out) | exact q_add (mul64_h a0 b0 _ H1.out H3.out)))
    go_wp2
    refine name_rounds ?_
    intro W1 hW
    have HX := Lib.hid (show At W1 X 99 #[.int .u64 a0, .int .u64 a1] by rw [hW]; exact ((HX.out.drewN _).far (p := ⟨w.heap.size + 1 + 1 + 1, 0, none⟩) (by show X ≠ w.heap.size + 1 + 1 + 1; have := LX.out; have := LY.out; first | (simp; done) | omega) _))
    have HY := Lib.hid (show At W1 Y 99 #[.int .u64 b0, .int .u64 b1] by rw [hW]; exact ((HY.out.drewN _).far (p := ⟨w.heap.size + 1 + 1 + 1, 0, none⟩) (by show Y ≠ w.heap.size + 1 + 1 + 1; have := LX.out; have := LY.out; first | (simp; done) | omega) _))
    have HO := Lib.hid (show At W1 (w.heap.size + 1 + 1 + 1) 89 #[.int .u64 (stepL a0 b0 0 0 : Nat), .int .u64 0, .int .u64 0, .int .u64 0] by rw [hW]; exact ((HO.out.drewN _).set_ 0 _))
    have HR := Lib.hid (show At W1 (w.heap.size + 1 + 1) 89 #[.int .u64 0, .int .u64 0, .int .u64 0, .int .u64 0] by rw [hW]; exact ((HR.out.drewN _).far (p := ⟨w.heap.size + 1 + 1 + 1, 0, none⟩) (by show w.heap.size + 1 + 1 ≠ w.heap.size + 1 + 1 + 1; have := LX.out; have := LY.out; first | (simp; done) | omega) _))
    have HB := Lib.hid (show Below w.heap.size w W1 by rw [hW]; exact (Below.setCell (p := ⟨w.heap.size + 1 + 1 + 1, 0, none⟩) (below_dn HB.out _) (by simp; omega) _))
    clear hW cX0 cX1 cY0 cY1 cO0 cO1 cO2 cO3 fO0 fO1 fO2 fO3
    have cX0 : W1.cell? ⟨X, 0, none⟩ = some (.int .u64 (a0 : Nat)) := HX.out.cell 0 rfl
    have cX1 : W1.cell? ⟨X, 1, none⟩ = some (.int .u64 (a1 : Nat)) := HX.out.cell 1 rfl
    have cY0 : W1.cell? ⟨Y, 0, none⟩ = some (.int .u64 (b0 : Nat)) := HY.out.cell 0 rfl
    have cY1 : W1.cell? ⟨Y, 1, none⟩ = some (.int .u64 (b1 : Nat)) := HY.out.cell 1 rfl
    have cO0 : W1.cell? ⟨w.heap.size + 1 + 1 + 1, 0, none⟩ = some (.int .u64 (stepL a0 b0 0 0 : Nat)) := HO.out.cell 0 rfl
    have cO1 : W1.cell? ⟨w.heap.size + 1 + 1 + 1, 1, none⟩ = some (.int .u64 0) := HO.out.cell 1 rfl
    have cO2 : W1.cell? ⟨w.heap.size + 1 + 1 + 1, 2, none⟩ = some (.int .u64 0) := HO.out.cell 2 rfl
    have cO3 : W1.cell? ⟨w.heap.size + 1 + 1 + 1, 3, none⟩ = some (.int .u64 0) := HO.out.cell 3 rfl
    have fO0 : W1.frozen? ⟨w.heap.size + 1 + 1 + 1, 0, none⟩ = false := HO.out.free 0
    have fO1 : W1.frozen? ⟨w.heap.size + 1 + 1 + 1, 1, none⟩ = false := HO.out.free 1
    have fO2 : W1.frozen? ⟨w.heap.size + 1 + 1 + 1, 2, none⟩ = false := HO.out.free 2
    have fO3 : W1.frozen? ⟨w.heap.size + 1 + 1 + 1, 3, none⟩ = false := HO.out.free 3
    rw [rounds_succ]
    go_wp2
    go_quiet ((go_at_call 65; first | exact q_left (mul64_h a0 b1 _ H1.out H4.out) | exact q_add (mul64_h a0 b1 _ H1.out H4.out)))
    go_wp2
    refine name_rounds ?_
    intro W2 hW
    have HX := Lib.hid (show At W2 X 99 #[.int .u64 a0, .int .u64 a1] by rw [hW]; exact ((HX.out.drewN _).far (p := ⟨w.heap.size + 1 + 1 + 1, 1, none⟩) (by show X ≠ w.heap.size + 1 + 1 + 1; have := LX.out; have := LY.out; first | (simp; done) | omega) _))
    have HY := Lib.hid (show At W2 Y 99 #[.int .u64 b0, .int .u64 b1] by rw [hW]; exact ((HY.out.drewN _).far (p := ⟨w.heap.size + 1 + 1 + 1, 1, none⟩) (by show Y ≠ w.heap.size + 1 + 1 + 1; have := LX.out; have := LY.out; first | (simp; done) | omega) _))
    have HO := Lib.hid (show At W2 (w.heap.size + 1 + 1 + 1) 89 #[.int .u64 (stepL a0 b0 0 0 : Nat), .int .u64 (stepL a0 b1 0 (stepH a0 b0 0 0) : Nat), .int .u64 0, .int .u64 0] by rw [hW]; exact ((HO.out.drewN _).set_ 1 _))
    have HR := Lib.hid (show At W2 (w.heap.size + 1 + 1) 89 #[.int .u64 0, .int .u64 0, .int .u64 0, .int .u64 0] by rw [hW]; exact ((HR.out.drewN _).far (p := ⟨w.heap.size + 1 + 1 + 1, 1, none⟩) (by show w.heap.size + 1 + 1 ≠ w.heap.size + 1 + 1 + 1; have := LX.out; have := LY.out; first | (simp; done) | omega) _))
    have HB := Lib.hid (show Below w.heap.size w W2 by rw [hW]; exact (Below.setCell (p := ⟨w.heap.size + 1 + 1 + 1, 1, none⟩) (below_dn HB.out _) (by simp; omega) _))
    clear hW cX0 cX1 cY0 cY1 cO0 cO1 cO2 cO3 fO0 fO1 fO2 fO3
    have cX0 : W2.cell? ⟨X, 0, none⟩ = some (.int .u64 (a0 : Nat)) := HX.out.cell 0 rfl
    have cX1 : W2.cell? ⟨X, 1, none⟩ = some (.int .u64 (a1 : Nat)) := HX.out.cell 1 rfl
    have cY0 : W2.cell? ⟨Y, 0, none⟩ = some (.int .u64 (b0 : Nat)) := HY.out.cell 0 rfl
    have cY1 : W2.cell? ⟨Y, 1, none⟩ = some (.int .u64 (b1 : Nat)) := HY.out.cell 1 rfl
    have cO0 : W2.cell? ⟨w.heap.size + 1 + 1 + 1, 0, none⟩ = some (.int .u64 (stepL a0 b0 0 0 : Nat)) := HO.out.cell 0 rfl
    have cO1 : W2.cell? ⟨w.heap.size + 1 + 1 + 1, 1, none⟩ = some (.int .u64 (stepL a0 b1 0 (stepH a0 b0 0 0) : Nat)) := HO.out.cell 1 rfl
    have cO2 : W2.cell? ⟨w.heap.size + 1 + 1 + 1, 2, none⟩ = some (.int .u64 0) := HO.out.cell 2 rfl
    have cO3 : W2.cell? ⟨w.heap.size + 1 + 1 + 1, 3, none⟩ = some (.int .u64 0) := HO.out.cell 3 rfl
    have fO0 : W2.frozen? ⟨w.heap.size + 1 + 1 + 1, 0, none⟩ = false := HO.out.free 0
    have fO1 : W2.frozen? ⟨w.heap.size + 1 + 1 + 1, 1, none⟩ = false := HO.out.free 1
    have fO2 : W2.frozen? ⟨w.heap.size + 1 + 1 + 1, 2, none⟩ = false := HO.out.free 2
    have fO3 : W2.frozen? ⟨w.heap.size + 1 + 1 + 1, 3, none⟩ = false := HO.out.free 3
    rw [rounds_succ]
    go_wp2
    refine name_rounds ?_
    intro W3 hW
    have HX := Lib.hid (show At W3 X 99 #[.int .u64 a0, .int .u64 a1] by rw [hW]; exact ((HX.out).far (p := ⟨w.heap.size + 1 + 1 + 1, 2, none⟩) (by show X ≠ w.heap.size + 1 + 1 + 1; have := LX.out; have := LY.out; first | (simp; done) | omega) _))
    have HY := Lib.hid (show At W3 Y 99 #[.int .u64 b0, .int .u64 b1] by rw [hW]; exact ((HY.out).far (p := ⟨w.heap.size + 1 + 1 + 1, 2, none⟩) (by show Y ≠ w.heap.size + 1 + 1 + 1; have := LX.out; have := LY.out; first | (simp; done) | omega) _))
    have HO := Lib.hid (show At W3 (w.heap.size + 1 + 1 + 1) 89 #[.int .u64 (stepL a0 b0 0 0 : Nat), .int .u64 (stepL a0 b1 0 (stepH a0 b0 0 0) : Nat), .int .u64 (stepH a0 b1 0 (stepH a0 b0 0 0) : Nat), .int .u64 0] by rw [hW]; exact ((HO.out).set_ 2 _))
    have HR := Lib.hid (show At W3 (w.heap.size + 1 + 1) 89 #[.int .u64 0, .int .u64 0, .int .u64 0, .int .u64 0] by rw [hW]; exact ((HR.out).far (p := ⟨w.heap.size + 1 + 1 + 1, 2, none⟩) (by show w.heap.size + 1 + 1 ≠ w.heap.size + 1 + 1 + 1; have := LX.out; have := LY.out; first | (simp; done) | omega) _))
    have HB := Lib.hid (show Below w.heap.size w W3 by rw [hW]; exact (Below.setCell (p := ⟨w.heap.size + 1 + 1 + 1, 2, none⟩) HB.out (by simp; omega) _))
    clear hW cX0 cX1 cY0 cY1 cO0 cO1 cO2 cO3 fO0 fO1 fO2 fO3
    have cX0 : W3.cell? ⟨X, 0, none⟩ = some (.int .u64 (a0 : Nat)) := HX.out.cell 0 rfl
    have cX1 : W3.cell? ⟨X, 1, none⟩ = some (.int .u64 (a1 : Nat)) := HX.out.cell 1 rfl
    have cY0 : W3.cell? ⟨Y, 0, none⟩ = some (.int .u64 (b0 : Nat)) := HY.out.cell 0 rfl
    have cY1 : W3.cell? ⟨Y, 1, none⟩ = some (.int .u64 (b1 : Nat)) := HY.out.cell 1 rfl
    have cO0 : W3.cell? ⟨w.heap.size + 1 + 1 + 1, 0, none⟩ = some (.int .u64 (stepL a0 b0 0 0 : Nat)) := HO.out.cell 0 rfl
    have cO1 : W3.cell? ⟨w.heap.size + 1 + 1 + 1, 1, none⟩ = some (.int .u64 (stepL a0 b1 0 (stepH a0 b0 0 0) : Nat)) := HO.out.cell 1 rfl
    have cO2 : W3.cell? ⟨w.heap.size + 1 + 1 + 1, 2, none⟩ = some (.int .u64 (stepH a0 b1 0 (stepH a0 b0 0 0) : Nat)) := HO.out.cell 2 rfl
    have cO3 : W3.cell? ⟨w.heap.size + 1 + 1 + 1, 3, none⟩ = some (.int .u64 0) := HO.out.cell 3 rfl
    have fO0 : W3.frozen? ⟨w.heap.size + 1 + 1 + 1, 0, none⟩ = false := HO.out.free 0
    have fO1 : W3.frozen? ⟨w.heap.size + 1 + 1 + 1, 1, none⟩ = false := HO.out.free 1
    have fO2 : W3.frozen? ⟨w.heap.size + 1 + 1 + 1, 2, none⟩ = false := HO.out.free 2
    have fO3 : W3.frozen? ⟨w.heap.size + 1 + 1 + 1, 3, none⟩ = false := HO.out.free 3
    rw [rounds_succ]
    go_wp2
    refine wp_loop_rounds 3 ?_
    rw [rounds_succ]
    go_wp2
    go_quiet ((go_at_call 65; first | exact q_left (mul64_h a1 b0 _ H2.out H3.out) | exact q_add (mul64_h a1 b0 _ H2.out H3.out)))
    go_wp2
    refine name_rounds ?_
    intro W4 hW
    have HX := Lib.hid (show At W4 X 99 #[.int .u64 a0, .int .u64 a1] by rw [hW]; exact ((HX.out.drewN _).far (p := ⟨w.heap.size + 1 + 1 + 1, 1, none⟩) (by show X ≠ w.heap.size + 1 + 1 + 1; have := LX.out; have := LY.out; first | (simp; done) | omega) _))
    have HY := Lib.hid (show At W4 Y 99 #[.int .u64 b0, .int .u64 b1] by rw [hW]; exact ((HY.out.drewN _).far (p := ⟨w.heap.size + 1 + 1 + 1, 1, none⟩) (by show Y ≠ w.heap.size + 1 + 1 + 1; have := LX.out; have := LY.out; first | (simp; done) | omega) _))
    have HO := Lib.hid (show At W4 (w.heap.size + 1 + 1 + 1) 89 #[.int .u64 (stepL a0 b0 0 0 : Nat), .int .u64 (stepL a1 b0 (stepL a0 b1 0 (stepH a0 b0 0 0)) 0 : Nat), .int .u64 (stepH a0 b1 0 (stepH a0 b0 0 0) : Nat), .int .u64 0] by rw [hW]; exact ((HO.out.drewN _).set_ 1 _))
    have HR := Lib.hid (show At W4 (w.heap.size + 1 + 1) 89 #[.int .u64 0, .int .u64 0, .int .u64 0, .int .u64 0] by rw [hW]; exact ((HR.out.drewN _).far (p := ⟨w.heap.size + 1 + 1 + 1, 1, none⟩) (by show w.heap.size + 1 + 1 ≠ w.heap.size + 1 + 1 + 1; have := LX.out; have := LY.out; first | (simp; done) | omega) _))
    have HB := Lib.hid (show Below w.heap.size w W4 by rw [hW]; exact (Below.setCell (p := ⟨w.heap.size + 1 + 1 + 1, 1, none⟩) (below_dn HB.out _) (by simp; omega) _))
    clear hW cX0 cX1 cY0 cY1 cO0 cO1 cO2 cO3 fO0 fO1 fO2 fO3
    have cX0 : W4.cell? ⟨X, 0, none⟩ = some (.int .u64 (a0 : Nat)) := HX.out.cell 0 rfl
    have cX1 : W4.cell? ⟨X, 1, none⟩ = some (.int .u64 (a1 : Nat)) := HX.out.cell 1 rfl
    have cY0 : W4.cell? ⟨Y, 0, none⟩ = some (.int .u64 (b0 : Nat)) := HY.out.cell 0 rfl
    have cY1 : W4.cell? ⟨Y, 1, none⟩ = some (.int .u64 (b1 : Nat)) := HY.out.cell 1 rfl
    have cO0 : W4.cell? ⟨w.heap.size + 1 + 1 + 1, 0, none⟩ = some (.int .u64 (stepL a0 b0 0 0 : Nat)) := HO.out.cell 0 rfl
    have cO1 : W4.cell? ⟨w.heap.size + 1 + 1 + 1, 1, none⟩ = some (.int .u64 (stepL a1 b0 (stepL a0 b1 0 (stepH a0 b0 0 0)) 0 : Nat)) := HO.out.cell 1 rfl
    have cO2 : W4.cell? ⟨w.heap.size + 1 + 1 + 1, 2, none⟩ = some (.int .u64 (stepH a0 b1 0 (stepH a0 b0 0 0) : Nat)) := HO.out.cell 2 rfl
    have cO3 : W4.cell? ⟨w.heap.size + 1 + 1 + 1, 3, none⟩ = some (.int .u64 0) := HO.out.cell 3 rfl
    have fO0 : W4.frozen? ⟨w.heap.size + 1 + 1 + 1, 0, none⟩ = false := HO.out.free 0
    have fO1 : W4.frozen? ⟨w.heap.size + 1 + 1 + 1, 1, none⟩ = false := HO.out.free 1
    have fO2 : W4.frozen? ⟨w.heap.size + 1 + 1 + 1, 2, none⟩ = false := HO.out.free 2
    have fO3 : W4.frozen? ⟨w.heap.size + 1 + 1 + 1, 3, none⟩ = false := HO.out.free 3
    rw [rounds_succ]
    go_wp2
    go_quiet ((go_at_call 65; first | exact q_left (mul64_h a1 b1 _ H2.out H4.out) | exact q_add (mul64_h a1 b1 _ H2.out H4.out)))
    go_wp2
    refine name_rounds ?_
    intro W5 hW
    have HX := Lib.hid (show At W5 X 99 #[.int .u64 a0, .int .u64 a1] by rw [hW]; exact ((HX.out.drewN _).far (p := ⟨w.heap.size + 1 + 1 + 1, 2, none⟩) (by show X ≠ w.heap.size + 1 + 1 + 1; have := LX.out; have := LY.out; first | (simp; done) | omega) _))
    have HY := Lib.hid (show At W5 Y 99 #[.int .u64 b0, .int .u64 b1] by rw [hW]; exact ((HY.out.drewN _).far (p := ⟨w.heap.size + 1 + 1 + 1, 2, none⟩) (by show Y ≠ w.heap.size + 1 + 1 + 1; have := LX.out; have := LY.out; first | (simp; done) | omega) _))
    have HO := Lib.hid (show At W5 (w.heap.size + 1 + 1 + 1) 89 #[.int .u64 (stepL a0 b0 0 0 : Nat), .int .u64 (stepL a1 b0 (stepL a0 b1 0 (stepH a0 b0 0 0)) 0 : Nat), .int .u64 (stepL a1 b1 (stepH a0 b1 0 (stepH a0 b0 0 0)) (stepH a1 b0 (stepL a0 b1 0 (stepH a0 b0 0 0)) 0) : Nat), .int .u64 0] by rw [hW]; exact ((HO.out.drewN _).set_ 2 _))
    have HR := Lib.hid (show At W5 (w.heap.size + 1 + 1) 89 #[.int .u64 0, .int .u64 0, .int .u64 0, .int .u64 0] by rw [hW]; exact ((HR.out.drewN _).far (p := ⟨w.heap.size + 1 + 1 + 1, 2, none⟩) (by show w.heap.size + 1 + 1 ≠ w.heap.size + 1 + 1 + 1; have := LX.out; have := LY.out; first | (simp; done) | omega) _))
    have HB := Lib.hid (show Below w.heap.size w W5 by rw [hW]; exact (Below.setCell (p := ⟨w.heap.size + 1 + 1 + 1, 2, none⟩) (below_dn HB.out _) (by simp; omega) _))
    clear hW cX0 cX1 cY0 cY1 cO0 cO1 cO2 cO3 fO0 fO1 fO2 fO3
    have cX0 : W5.cell? ⟨X, 0, none⟩ = some (.int .u64 (a0 : Nat)) := HX.out.cell 0 rfl
    have cX1 : W5.cell? ⟨X, 1, none⟩ = some (.int .u64 (a1 : Nat)) := HX.out.cell 1 rfl
    have cY0 : W5.cell? ⟨Y, 0, none⟩ = some (.int .u64 (b0 : Nat)) := HY.out.cell 0 rfl
    have cY1 : W5.cell? ⟨Y, 1, none⟩ = some (.int .u64 (b1 : Nat)) := HY.out.cell 1 rfl
    have cO0 : W5.cell? ⟨w.heap.size + 1 + 1 + 1, 0, none⟩ = some (.int .u64 (stepL a0 b0 0 0 : Nat)) := HO.out.cell 0 rfl
    have cO1 : W5.cell? ⟨w.heap.size + 1 + 1 + 1, 1, none⟩ = some (.int .u64 (stepL a1 b0 (stepL a0 b1 0 (stepH a0 b0 0 0)) 0 : Nat)) := HO.out.cell 1 rfl
    have cO2 : W5.cell? ⟨w.heap.size + 1 + 1 + 1, 2, none⟩ = some (.int .u64 (stepL a1 b1 (stepH a0 b1 0 (stepH a0 b0 0 0)) (stepH a1 b0 (stepL a0 b1 0 (stepH a0 b0 0 0)) 0) : Nat)) := HO.out.cell 2 rfl
    have cO3 : W5.cell? ⟨w.heap.size + 1 + 1 + 1, 3, none⟩ = some (.int .u64 0) := HO.out.cell 3 rfl
    have fO0 : W5.frozen? ⟨w.heap.size + 1 + 1 + 1, 0, none⟩ = false := HO.out.free 0
    have fO1 : W5.frozen? ⟨w.heap.size + 1 + 1 + 1, 1, none⟩ = false := HO.out.free 1
    have fO2 : W5.frozen? ⟨w.heap.size + 1 + 1 + 1, 2, none⟩ = false := HO.out.free 2
    have fO3 : W5.frozen? ⟨w.heap.size + 1 + 1 + 1, 3, none⟩ = false := HO.out.free 3
    rw [rounds_succ]
    go_wp2
    refine name_rounds ?_
    intro W6 hW
    have HX := Lib.hid (show At W6 X 99 #[.int .u64 a0, .int .u64 a1] by rw [hW]; exact ((HX.out).far (p := ⟨w.heap.size + 1 + 1 + 1, 3, none⟩) (by show X ≠ w.heap.size + 1 + 1 + 1; have := LX.out; have := LY.out; first | (simp; done) | omega) _))
    have HY := Lib.hid (show At W6 Y 99 #[.int .u64 b0, .int .u64 b1] by rw [hW]; exact ((HY.out).far (p := ⟨w.heap.size + 1 + 1 + 1, 3, none⟩) (by show Y ≠ w.heap.size + 1 + 1 + 1; have := LX.out; have := LY.out; first | (simp; done) | omega) _))
    have HO := Lib.hid (show At W6 (w.heap.size + 1 + 1 + 1) 89 #[.int .u64 (stepL a0 b0 0 0 : Nat), .int .u64 (stepL a1 b0 (stepL a0 b1 0 (stepH a0 b0 0 0)) 0 : Nat), .int .u64 (stepL a1 b1 (stepH a0 b1 0 (stepH a0 b0 0 0)) (stepH a1 b0 (stepL a0 b1 0 (stepH a0 b0 0 0)) 0) : Nat), .int .u64 (stepH a1 b1 (stepH a0 b1 0 (stepH a0 b0 0 0)) (stepH a1 b0 (stepL a0 b1 0 (stepH a0 b0 0 0)) 0) : Nat)] by rw [hW]; exact ((HO.out).set_ 3 _))
    have HR := Lib.hid (show At W6 (w.heap.size + 1 + 1) 89 #[.int .u64 0, .int .u64 0, .int .u64 0, .int .u64 0] by rw [hW]; exact ((HR.out).far (p := ⟨w.heap.size + 1 + 1 + 1, 3, none⟩) (by show w.heap.size + 1 + 1 ≠ w.heap.size + 1 + 1 + 1; have := LX.out; have := LY.out; first | (simp; done) | omega) _))
    have HB := Lib.hid (show Below w.heap.size w W6 by rw [hW]; exact (Below.setCell (p := ⟨w.heap.size + 1 + 1 + 1, 3, none⟩) HB.out (by simp; omega) _))
    clear hW cX0 cX1 cY0 cY1 cO0 cO1 cO2 cO3 fO0 fO1 fO2 fO3
    have cX0 : W6.cell? ⟨X, 0, none⟩ = some (.int .u64 (a0 : Nat)) := HX.out.cell 0 rfl
    have cX1 : W6.cell? ⟨X, 1, none⟩ = some (.int .u64 (a1 : Nat)) := HX.out.cell 1 rfl
    have cY0 : W6.cell? ⟨Y, 0, none⟩ = some (.int .u64 (b0 : Nat)) := HY.out.cell 0 rfl
    have cY1 : W6.cell? ⟨Y, 1, none⟩ = some (.int .u64 (b1 : Nat)) := HY.out.cell 1 rfl
    have cO0 : W6.cell? ⟨w.heap.size + 1 + 1 + 1, 0, none⟩ = some (.int .u64 (stepL a0 b0 0 0 : Nat)) := HO.out.cell 0 rfl
    have cO1 : W6.cell? ⟨w.heap.size + 1 + 1 + 1, 1, none⟩ = some (.int .u64 (stepL a1 b0 (stepL a0 b1 0 (stepH a0 b0 0 0)) 0 : Nat)) := HO.out.cell 1 rfl
    have cO2 : W6.cell? ⟨w.heap.size + 1 + 1 + 1, 2, none⟩ = some (.int .u64 (stepL a1 b1 (stepH a0 b1 0 (stepH a0 b0 0 0)) (stepH a1 b0 (stepL a0 b1 0 (stepH a0 b0 0 0)) 0) : Nat)) := HO.out.cell 2 rfl
    have cO3 : W6.cell? ⟨w.heap.size + 1 + 1 + 1, 3, none⟩ = some (.int .u64 (stepH a1 b1 (stepH a0 b1 0 (stepH a0 b0 0 0)) (stepH a1 b0 (stepL a0 b1 0 (stepH a0 b0 0 0)) 0) : Nat)) := HO.out.cell 3 rfl
    have fO0 : W6.frozen? ⟨w.heap.size + 1 + 1 + 1, 0, none⟩ = false := HO.out.free 0
    have fO1 : W6.frozen? ⟨w.heap.size + 1 + 1 + 1, 1, none⟩ = false := HO.out.free 1
    have fO2 : W6.frozen? ⟨w.heap.size + 1 + 1 + 1, 2, none⟩ = false := HO.out.free 2
    have fO3 : W6.frozen? ⟨w.heap.size + 1 + 1 + 1, 3, none⟩ = false := HO.out.free 3
    have cR0 : W6.cell? ⟨w.heap.size + 1 + 1, 0, none⟩ = some (.int .u64 0) := HR.out.cell 0 rfl
    have fR0 : W6.frozen? ⟨w.heap.size + 1 + 1, 0, none⟩ = false := HR.out.free 0
    have cR1 : W6.cell? ⟨w.heap.size + 1 + 1, 1, none⟩ = some (.int .u64 0) := HR.out.cell 1 rfl
    have fR1 : W6.frozen? ⟨w.heap.size + 1 + 1, 1, none⟩ = false := HR.out.free 1
    have cR2 : W6.cell? ⟨w.heap.size + 1 + 1, 2, none⟩ = some (.int .u64 0) := HR.out.cell 2 rfl
    have fR2 : W6.frozen? ⟨w.heap.size + 1 + 1, 2, none⟩ = false := HR.out.free 2
    have cR3 : W6.cell? ⟨w.heap.size + 1 + 1, 3, none⟩ = some (.int .u64 0) := HR.out.cell 3 rfl
    have fR3 : W6.frozen? ⟨w.heap.size + 1 + 1, 3, none⟩ = false := HR.out.free 3
    rw [rounds_succ]
    go_wp2
    refine bodyPost_ret (v := .agg #[.int .u64 (mw0 a0 a1 b0 b1 : Nat), .int .u64 (mw1 a0 a1 b0 b1 : Nat), .int .u64 (mw2 a0 a1 b0 b1 : Nat), .int .u64 (mw3 a0 a1 b0 b1 : Nat)]) (by simp [results, Tryd.results55, go_sem, cR0, cR1, cR2, cR3]; exact ⟨rfl, rfl, rfl, rfl⟩) rfl ⟨rfl, ?_⟩
    exact Below.setCell (p := ⟨w.heap.size + 1 + 1, 3, none⟩) (Below.setCell (p := ⟨w.heap.size + 1 + 1, 2, none⟩) (Below.setCell (p := ⟨w.heap.size + 1 + 1, 1, none⟩) (Below.setCell (p := ⟨w.heap.size + 1 + 1, 0, none⟩) HB.out (by simp; omega) _) (by simp; omega) _) (by simp; omega) _) (by simp; omega) _
end Go.Proofs.YtinkdemjjnfphaaDoor

namespace Go.Proofs.YtinkdemjjnfphaaDoor
open Go.RowKit
set_option linter.unusedVariables false
set_option maxRecDepth 100000

/-- A number in two words. -/
def W2 (n hi lo : Nat) : Prop := n = hi * 18446744073709551616 + lo ∧ lo < 18446744073709551616 ∧ hi < 18446744073709551616
theorem W2.lo {n hi lo : Nat} (h : W2 n hi lo) : lo < 18446744073709551616 := h.2.1
theorem W2.hi {n hi lo : Nat} (h : W2 n hi lo) : hi < 18446744073709551616 := h.2.2
theorem W2.mul10 {n hi lo : Nat} (h : W2 n hi lo) (hn : n * 10 < 340282366920938463463374607431768211456) : W2 (n * 10) (mw1 lo hi 10 0) (mw0 lo hi 10 0) ∧ mw2 lo hi 10 0 = 0 ∧ mw3 lo hi 10 0 = 0 := by
  have hw := mul_words (b0 := 10) (b1 := 0) h.lo h.hi (by omega) (by omega)
  rw [← h.1, Nat.zero_mul, Nat.zero_add] at hw
  generalize mw0 lo hi 10 0 = x0 at *
  generalize mw1 lo hi 10 0 = x1 at *
  generalize mw2 lo hi 10 0 = x2 at *
  generalize mw3 lo hi 10 0 = x3 at *
  obtain ⟨h0, h1, h2, h3, h4⟩ := hw
  unfold longN at h0
  have e3 : x3 = 0 := by
    by_cases e : x3 = 0
    · exact e
    · have : 6277101735386680763835789423207666416102355444464034512896 ≤ x3 * 6277101735386680763835789423207666416102355444464034512896 := Nat.le_mul_of_pos_left _ (by omega)
      omega
  have e2 : x2 = 0 := by
    by_cases e : x2 = 0
    · exact e
    · have : 340282366920938463463374607431768211456 ≤ x2 * 340282366920938463463374607431768211456 := Nat.le_mul_of_pos_left _ (by omega)
      omega
  subst e2 e3
  exact ⟨⟨by omega, h1, h2⟩, rfl, rfl⟩

theorem narrow_fit (w0 w1 : Nat) (w : World) :
    Calls Tryd.prog 54 #[.agg #[.int .u64 w0, .int .u64 w1, .int .u64 0, .int .u64 0]] w fun e w' => e = .returned (.tuple #[.agg #[.int .u64 w1, .int .u64 w0], .int .i64 0]) ∧ Below w.heap.size w w' := by
  go_enter Tryd.func54, Tryd.ntmps54
  go_wp2
  refine bodyPost_ret (v := .tuple #[.agg #[.int .u64 w1, .int .u64 w0], .int .i64 0]) (by simp [results, Tryd.results54, go_sem]) rfl ⟨rfl, ?_⟩
  exact (((Below.refl _ w).alloc (Nat.le_refl _) _).alloc (by simp) _)

theorem ten_pow_lt {k : Nat} (h : k < 38) : 10 ^ k * 10 < 340282366920938463463374607431768211456 := by
  have h1 : 10 ^ k ≤ 10 ^ 37 := Nat.pow_le_pow_right (by omega) (by omega)
  have h2 : (10 : Nat) ^ 37 * 10 < 340282366920938463463374607431768211456 := by decide
  omega

end Go.Proofs.YtinkdemjjnfphaaDoor
