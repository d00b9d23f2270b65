/- The law ExprBrackets: its walk. (fast) -/
import Derived.Test.YtkackccmhghphaaGreatDoorExprLawK
import Derived.Test.YtkackccmhghphaaGreatDoorExprBrP
namespace Go.Proofs.YtkackccmhghphaaGreatDoor
open Go.RowKit
set_option linter.unusedVariables false
set_option linter.unusedSimpArgs false
set_option maxRecDepth 100000

section
variable {P : Program} {ops : Array Oper} {Q : Exit → Act → World → Prop} {a : Act} {W W' w0 : World} {rest : List Oper} {L : List Res}
variable {dst : Option Tmp} {ty0 : TypeId} {pos : String} {after : Array Edge} {gd : Option (Nat × Bool)}
/-- A literal of two elements. -/
theorem bs2k {t e : TypeId} {k bytes : Nat} {z : Value} [hR : RowT P t e k bytes z] {x y : Operand} {c1 c2 : List Value} (hw : Region.wanted ⟨dst, .buildSlice t 2 #[(0, x), (1, y)], ty0, pos, after, gd⟩ (yielded ops a.tmps) = true) (HM : Mem w0 W L)
  (h1 : a.eval x = .agg c1.toArray) (h2 : a.eval y = .agg c2.toArray) (e1 : c1.length = k) (e2 : c2.length = k) (hk : decide (k ≤ 1000) = true)
  (h : ∀ g W', Mem w0 W' (.box g e (c1 ++ c2) :: L) → wpList P ops Q (⟨dst, .move (.const (.slice (some ⟨g, 0, none⟩) 2 2)), ty0, pos, after, gd⟩ :: rest) a W') : wpList P ops Q (⟨dst, .buildSlice t 2 #[(0, x), (1, y)], ty0, pos, after, gd⟩ :: rest) a W := by
 have hk' := of_decide_eq_true hk
 have hp := hR.pos
 refine bsb (cs := c1 ++ c2) hw HM (by omega) (by omega) ?_ h
 have hf := fill_parts k [.agg c1.toArray, .agg c2.toArray] 0 ((Array.range (2 * k)).map (z.cells[· % z.cells.size]!)).toList (fun v hv => by simp at hv; rcases hv with rfl | rfl <;> simp [Value.cells, e1, e2]) (by simp)
 rw [Array.toArray_toList] at hf
 have hp1 : (Array.map (fun x : Nat × Operand => (x.1, a.eval x.2)) #[(0, x), (1, y)]).toList = [(0, .agg c1.toArray), (1, .agg c2.toArray)] := by simp [h1, h2]
 show Instr.fill _ _ (Array.map (fun x : Nat × Operand => (x.1, a.eval x.2)) #[(0, x), (1, y)]).toList = _
 rw [hp1]
 refine Eq.trans hf ?_
 simp [Value.cells]
end

set_option maxHeartbeats 16000000 in
theorem exprBrackets_walk (s : ByteArray) (w : World) (hT : U8 w) :
  Calls Tryz.prog 5 #[.string s] w fun e w' => e = .returned (.bool true) ∧ Below w.heap.size w w' := by
 have HM := Lib.hid (Mem.start w)
 have HT := Lib.hid hT
 have HB := Lib.hid (fun W h => xParse_any s W h)
 unfold NPost at HB
 have hok := (parseF_ok s false).1
 have herr := parseF_err (s := s) (tests := false)
 obtain ⟨⟨l, er⟩, hr⟩ : ∃ x, parseF s false = x := ⟨_, rfl⟩
 simp only [hr] at HB hok herr
 by_cases hlen : 400 < s.size
 ·have d1 : decide ((400 : Int) < s.size) = true := decide_eq_true (by omega)
  clear hT hr hok herr hlen
  go_enter Tryz.func5, Tryz.ntmps5
  go_wp2_with (first | (go_at_call 11; (with_reducible refine (xknown_any _ (U8.below HT.out HM.out.below)).mono ?_); rintro e W1 ⟨rfl, hb⟩; replace HM := Lib.hid (HM.out.next hb); clear hb) | (go_at_call 13; first | ((with_reducible refine (HB.out _ (U8.below HT.out HM.out.below)).mono ?_); rintro e W2 ⟨p, oc, rfl, hM2⟩; have HM1 := Lib.hid (HM.out.comp2 hM2); clear HM hM2; (try clear W1); rename World => W1; have HM := HM1; clear HM1; simp only [List.cons_append, List.nil_append] at HM)) | ((with_reducible refine igd ?_); (with_reducible refine skip_op ?_ ?_); (exact rfl)) | ((with_reducible refine ibuildSlice ?_); refine bs0 rfl HM.out ?_; intro g1 W1 HM1; replace HM := Lib.hid HM1; clear HM1))
  go_ret
  exact ⟨rfl, HM.out.below⟩
 have d1 : decide ((400 : Int) < s.size) = false := decide_eq_false (by omega)
 obtain ⟨x1, hx1⟩ : ∃ x, (⟨#[40]⟩ : ByteArray) ++ s = x := ⟨_, rfl⟩
 have b1 : x1.data.toList = [40] ++ s.data.toList := by rw [← hx1]; simp
 have z1 : x1.size = 1 + s.size := by rw [← hx1, ByteArray.size_append]; rfl
 have c1 : ∀ W : World, (Op.stringOp .add (⟨#[40]⟩ : ByteArray) s).run Tryz.prog W = .ok (.string x1) W := fun W => by rw [← hx1]; exact run_string_add_sum (P := Tryz.prog) W _ _ (by have : (⟨#[40]⟩ : ByteArray).size = 1 := rfl; omega)
 obtain ⟨u, hu⟩ : ∃ x, x1 ++ (⟨#[41]⟩ : ByteArray) = x := ⟨_, rfl⟩
 have bu : u.data.toList = [40] ++ s.data.toList ++ [41] := by rw [← hu]; simp [b1]
 have c2 : ∀ W : World, (Op.stringOp .add x1 (⟨#[41]⟩ : ByteArray)).run Tryz.prog W = .ok (.string u) W := fun W => by rw [← hu]; exact run_string_add_sum (P := Tryz.prog) W _ _ (by have : (⟨#[41]⟩ : ByteArray).size = 1 := rfl; omega)
 have HU := Lib.hid (fun W h => xParse_any u W h)
 unfold NPost at HU
 by_cases h0 : er = 0
 ·subst h0
  rw [br_one hr (by omega) bu] at HU
  have q0 : ((0 : Int) != 0) = false := rfl
  obtain ⟨y2, hy2⟩ : ∃ x, x1 ++ (⟨#[41, 32, 45, 32, 40]⟩ : ByteArray) = x := ⟨_, rfl⟩
  have zy2 : y2.size = x1.size + 5 := by rw [← hy2, ByteArray.size_append]; rfl
  have c3 : ∀ W : World, (Op.stringOp .add x1 (⟨#[41, 32, 45, 32, 40]⟩ : ByteArray)).run Tryz.prog W = .ok (.string y2) W := fun W => by rw [← hy2]; exact run_string_add_sum (P := Tryz.prog) W _ _ (by have : (⟨#[41, 32, 45, 32, 40]⟩ : ByteArray).size = 5 := rfl; omega)
  obtain ⟨y3, hy3⟩ : ∃ x, y2 ++ s = x := ⟨_, rfl⟩
  have zy3 : y3.size = y2.size + s.size := by rw [← hy3, ByteArray.size_append]
  have c4 : ∀ W : World, (Op.stringOp .add y2 s).run Tryz.prog W = .ok (.string y3) W := fun W => by rw [← hy3]; exact run_string_add_sum (P := Tryz.prog) W _ _ (by omega)
  obtain ⟨v, hv⟩ : ∃ x, y3 ++ (⟨#[41, 32, 45, 32, 49]⟩ : ByteArray) = x := ⟨_, rfl⟩
  have c5 : ∀ W : World, (Op.stringOp .add y3 (⟨#[41, 32, 45, 32, 49]⟩ : ByteArray)).run Tryz.prog W = .ok (.string v) W := fun W => by rw [← hv]; exact run_string_add_sum (P := Tryz.prog) W _ _ (by have : (⟨#[41, 32, 45, 32, 49]⟩ : ByteArray).size = 5 := rfl; omega)
  have bv : v.data.toList = [40] ++ s.data.toList ++ [41, 32, 45, 32, 40] ++ s.data.toList ++ [41, 32, 45, 32, 49] := by rw [← hv, ← hy3, ← hy2]; simp [b1]
  have HV := Lib.hid (fun W h => xParse_any v W h)
  unfold NPost at HV
  have HS := Lib.hid (fun (p q : Option Addr) (c d : Nat) W h1 h2 => rSame_any p q c d l W h1 h2 (by have := hok; omega))
  by_cases h140 : 140 < l.length
  ·have d2 : decide ((140 : Int) < l.length) = true := decide_eq_true (by omega)
   clear hT hr herr hlen hx1 b1 z1 hu bu hy2 zy2 hy3 zy3 hv bv h140
   go_enter Tryz.func5, Tryz.ntmps5
   go_wp2_with (first | (go_at_call 11; (with_reducible refine (xknown_any _ (U8.below HT.out HM.out.below)).mono ?_); rintro e W1 ⟨rfl, hb⟩; replace HM := Lib.hid (HM.out.next hb); clear hb) | (go_at_call 13; first | ((with_reducible refine (HB.out _ (U8.below HT.out HM.out.below)).mono ?_); rintro e W2 ⟨p, oc, rfl, hM2⟩; have HM1 := Lib.hid (HM.out.comp2 hM2); clear HM hM2; (try clear W1); rename World => W1; have HM := HM1; clear HM1; simp only [List.cons_append, List.nil_append] at HM) | ((with_reducible refine (HU.out _ (U8.below HT.out HM.out.below)).mono ?_); rintro e W2 ⟨p, oc, rfl, hM2⟩; have HM1 := Lib.hid (HM.out.comp2 hM2); clear HM hM2; (try clear W1); rename World => W1; have HM := HM1; clear HM1; simp only [List.cons_append, List.nil_append] at HM) | ((with_reducible refine (HV.out _ (U8.below HT.out HM.out.below)).mono ?_); rintro e W2 ⟨p, oc, rfl, hM2⟩; have HM1 := Lib.hid (HM.out.comp2 hM2); clear HM hM2; (try clear W1); rename World => W1; have HM := HM1; clear HM1; simp only [List.cons_append, List.nil_append] at HM)) | (go_at_call 14; first | ((with_reducible refine (HS.out _ _ _ _ _ (row_sl (HM.out.get (k := 1) rfl)) (row_sl (HM.out.get (k := 0) rfl))).mono ?_); rintro e W1 ⟨rfl, hb⟩; replace HM := Lib.hid (HM.out.next hb); clear hb)) | ((with_reducible refine igd ?_); (with_reducible refine skip_op ?_ ?_); (exact rfl)) | ((with_reducible refine ibuildSlice ?_); refine bs0 rfl HM.out ?_; intro g1 W1 HM1; replace HM := Lib.hid HM1; clear HM1))
   go_ret
   exact ⟨rfl, HM.out.below⟩
  have d2 : decide ((140 : Int) < l.length) = false := decide_eq_false (by omega)
  rcases br_sum hr (by omega) (by omega) bv with hp | hp
  ·rw [hp] at HV
   clear hT hr herr hlen hx1 b1 z1 hu bu hy2 zy2 hy3 zy3 hv bv h140 hp
   go_enter Tryz.func5, Tryz.ntmps5
   go_wp2_with (first | (go_at_call 11; (with_reducible refine (xknown_any _ (U8.below HT.out HM.out.below)).mono ?_); rintro e W1 ⟨rfl, hb⟩; replace HM := Lib.hid (HM.out.next hb); clear hb) | (go_at_call 13; first | ((with_reducible refine (HB.out _ (U8.below HT.out HM.out.below)).mono ?_); rintro e W2 ⟨p, oc, rfl, hM2⟩; have HM1 := Lib.hid (HM.out.comp2 hM2); clear HM hM2; (try clear W1); rename World => W1; have HM := HM1; clear HM1; simp only [List.cons_append, List.nil_append] at HM) | ((with_reducible refine (HU.out _ (U8.below HT.out HM.out.below)).mono ?_); rintro e W2 ⟨p, oc, rfl, hM2⟩; have HM1 := Lib.hid (HM.out.comp2 hM2); clear HM hM2; (try clear W1); rename World => W1; have HM := HM1; clear HM1; simp only [List.cons_append, List.nil_append] at HM) | ((with_reducible refine (HV.out _ (U8.below HT.out HM.out.below)).mono ?_); rintro e W2 ⟨p, oc, rfl, hM2⟩; have HM1 := Lib.hid (HM.out.comp2 hM2); clear HM hM2; (try clear W1); rename World => W1; have HM := HM1; clear HM1; simp only [List.cons_append, List.nil_append] at HM)) | (go_at_call 14; first | ((with_reducible refine (HS.out _ _ _ _ _ (row_sl (HM.out.get (k := 1) rfl)) (row_sl (HM.out.get (k := 0) rfl))).mono ?_); rintro e W1 ⟨rfl, hb⟩; replace HM := Lib.hid (HM.out.next hb); clear hb)) | ((with_reducible refine igd ?_); (with_reducible refine skip_op ?_ ?_); (exact rfl)) | ((with_reducible refine ibuildSlice ?_); refine bs0 rfl HM.out ?_; intro g1 W1 HM1; replace HM := Lib.hid HM1; clear HM1))
   go_ret
   exact ⟨rfl, HM.out.below⟩
  ·rw [hp, show l ++ l ++ [nOp 10 2] ++ [nNum tOne] ++ [nOp 10 2] = l ++ l ++ [nOp 10 2, nNum tOne, nOp 10 2] by simp] at HV
   have HS2 := Lib.hid (fun (p q : Option Addr) (c d : Nat) W h1 h2 => rSame_any p q c d (l ++ l ++ [nOp 10 2, nNum tOne, nOp 10 2]) W h1 h2 (by simp; omega))
   simp only [show (l ++ l ++ [nOp 10 2, nNum tOne, nOp 10 2]).length = l.length + (l.length + 3) by simp] at HS2
   obtain ⟨z2, hz2⟩ : ∃ x, (⟨#[40, 40]⟩ : ByteArray) ++ s = x := ⟨_, rfl⟩
   have zz2 : z2.size = 2 + s.size := by rw [← hz2, ByteArray.size_append]; rfl
   have c6 : ∀ W : World, (Op.stringOp .add (⟨#[40, 40]⟩ : ByteArray) s).run Tryz.prog W = .ok (.string z2) W := fun W => by rw [← hz2]; exact run_string_add_sum (P := Tryz.prog) W _ _ (by have : (⟨#[40, 40]⟩ : ByteArray).size = 2 := rfl; omega)
   obtain ⟨x, hx⟩ : ∃ x, z2 ++ (⟨#[41, 41]⟩ : ByteArray) = x := ⟨_, rfl⟩
   have c7 : ∀ W : World, (Op.stringOp .add z2 (⟨#[41, 41]⟩ : ByteArray)).run Tryz.prog W = .ok (.string x) W := fun W => by rw [← hx]; exact run_string_add_sum (P := Tryz.prog) W _ _ (by have : (⟨#[41, 41]⟩ : ByteArray).size = 2 := rfl; omega)
   have bx : x.data.toList = [40, 40] ++ s.data.toList ++ [41, 41] := by rw [← hx, ← hz2]; simp
   have HX := Lib.hid (fun W h => xTests_any x W h)
   unfold NPost at HX
   rcases br_test hr (by omega) (by omega) bx with hp2 | hp2
   ·rw [hp2] at HX
    clear hT hr herr hlen hx1 b1 z1 hu bu hy2 zy2 hy3 zy3 hv bv hp hz2 zz2 hx bx hp2
    go_enter Tryz.func5, Tryz.ntmps5
    go_wp2_with (first | (go_at_call 11; (with_reducible refine (xknown_any _ (U8.below HT.out HM.out.below)).mono ?_); rintro e W1 ⟨rfl, hb⟩; replace HM := Lib.hid (HM.out.next hb); clear hb) | (go_at_call 13; first | ((with_reducible refine (HB.out _ (U8.below HT.out HM.out.below)).mono ?_); rintro e W2 ⟨p, oc, rfl, hM2⟩; have HM1 := Lib.hid (HM.out.comp2 hM2); clear HM hM2; (try clear W1); rename World => W1; have HM := HM1; clear HM1; simp only [List.cons_append, List.nil_append] at HM) | ((with_reducible refine (HU.out _ (U8.below HT.out HM.out.below)).mono ?_); rintro e W2 ⟨p, oc, rfl, hM2⟩; have HM1 := Lib.hid (HM.out.comp2 hM2); clear HM hM2; (try clear W1); rename World => W1; have HM := HM1; clear HM1; simp only [List.cons_append, List.nil_append] at HM) | ((with_reducible refine (HV.out _ (U8.below HT.out HM.out.below)).mono ?_); rintro e W2 ⟨p, oc, rfl, hM2⟩; have HM1 := Lib.hid (HM.out.comp2 hM2); clear HM hM2; (try clear W1); rename World => W1; have HM := HM1; clear HM1; simp only [List.cons_append, List.nil_append] at HM)) | (go_at_call 14; first | ((with_reducible refine (HS.out _ _ _ _ _ (row_sl (HM.out.get (k := 1) rfl)) (row_sl (HM.out.get (k := 0) rfl))).mono ?_); rintro e W1 ⟨rfl, hb⟩; replace HM := Lib.hid (HM.out.next hb); clear hb) | ((with_reducible refine (HS2.out _ _ _ _ _ (row_sl (HM.out.get (k := 2) rfl)) (row_sl (HM.out.get (k := 1) rfl))).mono ?_); rintro e W1 ⟨rfl, hb⟩; replace HM := Lib.hid (HM.out.next hb); clear hb)) | ((with_reducible refine iat 55 ?_); (refine bs0 rfl HM.out ?_; intro g55 W1 HM1; replace HM := Lib.hid HM1; clear HM1)) | ((with_reducible refine iat 57 ?_); (refine apN (l := []) rfl HM.out 0 rfl rfl rfl rfl (by first | rfl | simp only [List.length_append, List.nil_append, List.length_nil, List.length_cons, Nat.zero_add]) rfl (row_sl (HM.out.get (k := 3) rfl)) (by (first | omega | (simp only [List.length_append, List.length_cons, List.length_nil]; omega))) (by (first | omega | (simp only [List.length_append, List.length_cons, List.length_nil]; omega))) (by decide) ?_; intro p57 c57 W1 HM1; replace HM := Lib.hid HM1; clear HM1; simp only [List.set, List.nil_append] at HM)) | ((with_reducible refine iat 59 ?_); (refine apN rfl HM.out 0 rfl rfl rfl rfl (by first | rfl | simp only [List.length_append, List.nil_append, List.length_nil, List.length_cons, Nat.zero_add]) rfl (row_sl (HM.out.get (k := 3) rfl)) (by (first | omega | (simp only [List.length_append, List.length_cons, List.length_nil]; omega))) (by (first | omega | (simp only [List.length_append, List.length_cons, List.length_nil]; omega))) (by decide) ?_; intro p59 c59 W1 HM1; replace HM := Lib.hid HM1; clear HM1; simp only [List.set, List.nil_append] at HM)) | ((with_reducible refine iat 65 ?_); (refine bs3 (c1 := [_, _, _, _, _, _, _, _]) (c2 := [_, _, _, _, _, _, _, _]) (c3 := [_, _, _, _, _, _, _, _]) rfl HM.out rfl rfl rfl rfl rfl rfl (by decide) ?_; intro g65 W1 HM1; replace HM := Lib.hid HM1; clear HM1)) | ((with_reducible refine iat 66 ?_); (have h5 : Sl _ _ (([nOp 10 2, nNum tOne, nOp 10 2] : List NodeD).flatMap NodeD.cs) := row_sl (box_row (n := 3) (k := 8) (HM.out.get (k := 0) rfl) rfl (by decide)); refine apN (la := [nOp 10 2, nNum tOne, nOp 10 2]) rfl HM.out 1 rfl rfl rfl rfl (by first | rfl | simp only [List.length_append, List.nil_append, List.length_nil, List.length_cons, Nat.zero_add]) rfl h5 (by (first | omega | (simp only [List.length_append, List.length_cons, List.length_nil]; omega))) (by decide) (by decide) ?_; intro p66 c66 W2 HM1; clear h5; clear HM; (try clear W1); rename World => W1; have HM := Lib.hid HM1; clear HM1; simp only [List.set, List.nil_append] at HM)) | (go_at_call 17; first | ((with_reducible refine (HX.out _ (U8.below HT.out HM.out.below)).mono ?_); rintro e W2 ⟨p, oc, rfl, hM2⟩; have HM1 := Lib.hid (HM.out.comp2 hM2); clear HM hM2; (try clear W1); rename World => W1; have HM := HM1; clear HM1; simp only [List.cons_append, List.nil_append] at HM)) | ((with_reducible refine igd ?_); (with_reducible refine skip_op ?_ ?_); (exact rfl)) | ((with_reducible refine ibuildSlice ?_); refine bs0 rfl HM.out ?_; intro g1 W1 HM1; replace HM := Lib.hid HM1; clear HM1))
    go_ret
    exact ⟨rfl, HM.out.below⟩
   ·rw [hp2, show l ++ [nOp 30 1] ++ [nOp 36 1] = l ++ [nOp 30 1, nOp 36 1] by simp] at HX
    have HS3 := Lib.hid (fun (p q : Option Addr) (c d : Nat) W h1 h2 => rSame_any p q c d (l ++ [nOp 30 1, nOp 36 1]) W h1 h2 (by simp; omega))
    simp only [show (l ++ [nOp 30 1, nOp 36 1]).length = l.length + 2 by simp] at HS3
    clear hT hr herr hlen hx1 b1 z1 hu bu hy2 zy2 hy3 zy3 hv bv hp hz2 zz2 hx bx hp2
    go_enter Tryz.func5, Tryz.ntmps5
    go_wp2_with (first | (go_at_call 11; (with_reducible refine (xknown_any _ (U8.below HT.out HM.out.below)).mono ?_); rintro e W1 ⟨rfl, hb⟩; replace HM := Lib.hid (HM.out.next hb); clear hb) | (go_at_call 13; first | ((with_reducible refine (HB.out _ (U8.below HT.out HM.out.below)).mono ?_); rintro e W2 ⟨p, oc, rfl, hM2⟩; have HM1 := Lib.hid (HM.out.comp2 hM2); clear HM hM2; (try clear W1); rename World => W1; have HM := HM1; clear HM1; simp only [List.cons_append, List.nil_append] at HM) | ((with_reducible refine (HU.out _ (U8.below HT.out HM.out.below)).mono ?_); rintro e W2 ⟨p, oc, rfl, hM2⟩; have HM1 := Lib.hid (HM.out.comp2 hM2); clear HM hM2; (try clear W1); rename World => W1; have HM := HM1; clear HM1; simp only [List.cons_append, List.nil_append] at HM) | ((with_reducible refine (HV.out _ (U8.below HT.out HM.out.below)).mono ?_); rintro e W2 ⟨p, oc, rfl, hM2⟩; have HM1 := Lib.hid (HM.out.comp2 hM2); clear HM hM2; (try clear W1); rename World => W1; have HM := HM1; clear HM1; simp only [List.cons_append, List.nil_append] at HM)) | (go_at_call 14; first | ((with_reducible refine (HS.out _ _ _ _ _ (row_sl (HM.out.get (k := 1) rfl)) (row_sl (HM.out.get (k := 0) rfl))).mono ?_); rintro e W1 ⟨rfl, hb⟩; replace HM := Lib.hid (HM.out.next hb); clear hb) | ((with_reducible refine (HS2.out _ _ _ _ _ (row_sl (HM.out.get (k := 2) rfl)) (row_sl (HM.out.get (k := 1) rfl))).mono ?_); rintro e W1 ⟨rfl, hb⟩; replace HM := Lib.hid (HM.out.next hb); clear hb) | ((with_reducible refine (HS3.out _ _ _ _ _ (row_sl (HM.out.get (k := 2) rfl)) (row_sl (HM.out.get (k := 1) rfl))).mono ?_); rintro e W1 ⟨rfl, hb⟩; replace HM := Lib.hid (HM.out.next hb); clear hb)) | ((with_reducible refine iat 55 ?_); (refine bs0 rfl HM.out ?_; intro g55 W1 HM1; replace HM := Lib.hid HM1; clear HM1)) | ((with_reducible refine iat 57 ?_); (refine apN (l := []) rfl HM.out 0 rfl rfl rfl rfl (by first | rfl | simp only [List.length_append, List.nil_append, List.length_nil, List.length_cons, Nat.zero_add]) rfl (row_sl (HM.out.get (k := 3) rfl)) (by (first | omega | (simp only [List.length_append, List.length_cons, List.length_nil]; omega))) (by (first | omega | (simp only [List.length_append, List.length_cons, List.length_nil]; omega))) (by decide) ?_; intro p57 c57 W1 HM1; replace HM := Lib.hid HM1; clear HM1; simp only [List.set, List.nil_append] at HM)) | ((with_reducible refine iat 59 ?_); (refine apN rfl HM.out 0 rfl rfl rfl rfl (by first | rfl | simp only [List.length_append, List.nil_append, List.length_nil, List.length_cons, Nat.zero_add]) rfl (row_sl (HM.out.get (k := 3) rfl)) (by (first | omega | (simp only [List.length_append, List.length_cons, List.length_nil]; omega))) (by (first | omega | (simp only [List.length_append, List.length_cons, List.length_nil]; omega))) (by decide) ?_; intro p59 c59 W1 HM1; replace HM := Lib.hid HM1; clear HM1; simp only [List.set, List.nil_append] at HM)) | ((with_reducible refine iat 65 ?_); (refine bs3 (c1 := [_, _, _, _, _, _, _, _]) (c2 := [_, _, _, _, _, _, _, _]) (c3 := [_, _, _, _, _, _, _, _]) rfl HM.out rfl rfl rfl rfl rfl rfl (by decide) ?_; intro g65 W1 HM1; replace HM := Lib.hid HM1; clear HM1)) | ((with_reducible refine iat 66 ?_); (have h5 : Sl _ _ (([nOp 10 2, nNum tOne, nOp 10 2] : List NodeD).flatMap NodeD.cs) := row_sl (box_row (n := 3) (k := 8) (HM.out.get (k := 0) rfl) rfl (by decide)); refine apN (la := [nOp 10 2, nNum tOne, nOp 10 2]) rfl HM.out 1 rfl rfl rfl rfl (by first | rfl | simp only [List.length_append, List.nil_append, List.length_nil, List.length_cons, Nat.zero_add]) rfl h5 (by (first | omega | (simp only [List.length_append, List.length_cons, List.length_nil]; omega))) (by decide) (by decide) ?_; intro p66 c66 W2 HM1; clear h5; clear HM; (try clear W1); rename World => W1; have HM := Lib.hid HM1; clear HM1; simp only [List.set, List.nil_append] at HM)) | (go_at_call 17; first | ((with_reducible refine (HX.out _ (U8.below HT.out HM.out.below)).mono ?_); rintro e W2 ⟨p, oc, rfl, hM2⟩; have HM1 := Lib.hid (HM.out.comp2 hM2); clear HM hM2; (try clear W1); rename World => W1; have HM := HM1; clear HM1; simp only [List.cons_append, List.nil_append] at HM)) | ((with_reducible refine iat 88 ?_); (refine bs0 rfl HM.out ?_; intro g88 W1 HM1; replace HM := Lib.hid HM1; clear HM1)) | ((with_reducible refine iat 90 ?_); (refine apN (l := []) rfl HM.out 0 rfl rfl rfl rfl (by first | rfl | simp only [List.length_append, List.nil_append, List.length_nil, List.length_cons, Nat.zero_add]) rfl (row_sl (HM.out.get (k := 6) rfl)) (by (first | omega | (simp only [List.length_append, List.length_cons, List.length_nil]; omega))) (by (first | omega | (simp only [List.length_append, List.length_cons, List.length_nil]; omega))) (by decide) ?_; intro p90 c90 W1 HM1; replace HM := Lib.hid HM1; clear HM1; simp only [List.set, List.nil_append] at HM)) | ((with_reducible refine iat 93 ?_); (refine bs2k (c1 := [_, _, _, _, _, _, _, _]) (c2 := [_, _, _, _, _, _, _, _]) rfl HM.out rfl rfl rfl rfl (by decide) ?_; intro g93 W1 HM1; replace HM := Lib.hid HM1; clear HM1)) | ((with_reducible refine iat 94 ?_); (have h5 : Sl _ _ (([nOp 30 1, nOp 36 1] : List NodeD).flatMap NodeD.cs) := row_sl (box_row (n := 2) (k := 8) (HM.out.get (k := 0) rfl) rfl (by decide)); refine apN (la := [nOp 30 1, nOp 36 1]) rfl HM.out 1 rfl rfl rfl rfl (by first | rfl | simp only [List.length_append, List.nil_append, List.length_nil, List.length_cons, Nat.zero_add]) rfl h5 (by (first | omega | (simp only [List.length_append, List.length_cons, List.length_nil]; omega))) (by decide) (by decide) ?_; intro p94 c94 W2 HM1; clear h5; clear HM; (try clear W1); rename World => W1; have HM := Lib.hid HM1; clear HM1; simp only [List.set, List.nil_append] at HM)) | ((with_reducible refine igd ?_); (with_reducible refine skip_op ?_ ?_); (exact rfl)) | ((with_reducible refine ibuildSlice ?_); refine bs0 rfl HM.out ?_; intro g1 W1 HM1; replace HM := Lib.hid HM1; clear HM1))
    go_ret
    exact ⟨rfl, HM.out.below⟩
 ·have q1 : (er != 0) = true := by simpa using h0
  have HL := Lib.hid (show l = [] from herr h0)
  rw [HL.out] at HB
  clear hT hr hok herr hlen hx1 b1 z1 hu bu HL
  go_enter Tryz.func5, Tryz.ntmps5
  go_wp2_with (first | (go_at_call 11; (with_reducible refine (xknown_any _ (U8.below HT.out HM.out.below)).mono ?_); rintro e W1 ⟨rfl, hb⟩; replace HM := Lib.hid (HM.out.next hb); clear hb) | (go_at_call 13; first | ((with_reducible refine (HB.out _ (U8.below HT.out HM.out.below)).mono ?_); rintro e W2 ⟨p, oc, rfl, hM2⟩; have HM1 := Lib.hid (HM.out.comp2 hM2); clear HM hM2; (try clear W1); rename World => W1; have HM := HM1; clear HM1; simp only [List.cons_append, List.nil_append] at HM) | ((with_reducible refine (HU.out _ (U8.below HT.out HM.out.below)).mono ?_); rintro e W2 ⟨p, oc, rfl, hM2⟩; have HM1 := Lib.hid (HM.out.comp2 hM2); clear HM hM2; (try clear W1); rename World => W1; have HM := HM1; clear HM1; simp only [List.cons_append, List.nil_append] at HM)) | ((with_reducible refine igd ?_); (with_reducible refine skip_op ?_ ?_); (exact rfl)) | ((with_reducible refine ibuildSlice ?_); refine bs0 rfl HM.out ?_; intro g1 W1 HM1; replace HM := Lib.hid HM1; clear HM1))
  go_ret
  exact ⟨rfl, HM.out.below⟩
end Go.Proofs.YtkackccmhghphaaGreatDoor
