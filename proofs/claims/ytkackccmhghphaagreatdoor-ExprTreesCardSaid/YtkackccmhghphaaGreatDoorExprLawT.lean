/- The law ExprTrees: its walk. (fast) -/
import Derived.Test.YtkackccmhghphaaGreatDoorExprLawK
import Derived.Test.YtkackccmhghphaaGreatDoorExprParts
import Derived.Test.YtkackccmhghphaaGreatDoorExprEv
namespace Go.Proofs.YtkackccmhghphaaGreatDoor
open Go.RowKit
set_option linter.unusedVariables false
set_option linter.unusedSimpArgs false
set_option maxRecDepth 100000

section
variable {P : Program} {ops : Array Oper} {Q : Exit → Act → World → Prop} {a : Act} {W w0 : World} {rest : List Oper} {L : List Res}
variable {dst : Option Tmp} {ty0 : TypeId} {pos : String} {after : Array Edge} {gd : Option (Nat × Bool)}
theorem run_slice_both {t e : TypeId} {k bytes : Nat} {z : Value} (hR : RowT P t e k bytes z) (p : Option Addr) (n cap m j : Nat) (hm : m ≤ j) (hj : j ≤ cap) : (Instr.sliceAt t (.slice p n cap) (some (.int .i64 m)) (some (.int .i64 j)) none).run P W = .ok (.slice (if cap = m then p else p.map (·.add (m * k))) (j - m) (cap - m)) W := by
 obtain ⟨i, hi, hz, hsz, -⟩ := rowT_parts hR
 subst hsz
 have h1 : (m : Int) ≤ j := by omega
 simp [Instr.sliceAt, Instr.slice, run_underlying hR.under, Instr.sliceBounds, Instr.sliceBound, asIntOf, sizeOf, typeInfo, hi, hm, hj]
/-- A slice of the middle. -/
theorem slb {t e : TypeId} {k bytes : Nat} {z : Value} [hR : RowT P t e k bytes z] {x lo hi : Operand} {p : Option Addr} {cap n m j : Nat} {d d2 : Int} (hx : a.eval x = .slice p n cap) (hl : a.eval lo = .int .i64 d) (hh : a.eval hi = .int .i64 d2) (hd : d = (m : Int)) (hd2 : d2 = (j : Int)) (hm : m ≤ j) (hj : j ≤ cap)
  (h : ∀ q, (if cap = m then p else p.map (·.add (m * k))) = q → wpList P ops Q (⟨dst, .move (.const (.slice q (j - m) (cap - m))), ty0, pos, after, gd⟩ :: rest) a W) : wpList P ops Q (⟨dst, .slice t x (some lo) (some hi) none, ty0, pos, after, gd⟩ :: rest) a W := by
 subst hd hd2
 refine as_move (o := ⟨dst, .slice t x (some lo) (some hi) none, ty0, pos, after, gd⟩) ?_ (h _ rfl)
 simp only [execOp, Option.map_none, Option.map_some, hx, hl, hh, Sem.run_bind, run_slice_both (P := P) (W := W) hR p n cap m j hm hj, Result.andThen_ok]
 rfl
end
theorem sl_mid {α : Type} (f : α → List Value) (k : Nat) (hf : ∀ x, (f x).length = k) {B : Nat} {W : World} {p : Option Addr} {cap m j : Nat} {e : TypeId} {l q : List α} (h : (Res.row p cap e k l.length (l.flatMap f)).holds B W) (hm : m ≤ j) (hj : j ≤ l.length) (hq : (l.drop m).take (j - m) = q) : Sl W (if cap = m then p else p.map (·.add (m * k))) (q.flatMap f) := by
 have h1 := sl_from f k hf h (m := m) (by omega)
 have e1 : (l.drop m).flatMap f = q.flatMap f ++ ((l.drop m).drop (j - m)).flatMap f := by rw [← List.flatMap_append, ← hq, List.take_append_drop]
 rw [e1] at h1
 refine ⟨fun e => (List.append_eq_nil_iff.1 (h1.1 e)).1, fun a ha i u hu => h1.2 a ha i u ?_⟩
 rw [List.getElem?_append_left (List.getElem?_eq_some_iff.1 hu).1]
 exact hu
theorem row_el {α : Type} (f : α → List Value) (k : Nat) (hf : ∀ x, (f x).length = k) {B : Nat} {W : World} {b : Addr} {cap n : Nat} {e : TypeId} {l : List α} (h : (Res.row (some b) cap e k n (l.flatMap f)).holds B W) {i : Nat} {x : α} (hx : l[i]? = some x) : Cells W (b.add (i * k)) (f x) := ((row_sl h).2 b rfl).elem f k hf hx
theorem NodesOk.part {l : List NodeD} (h : NodesOk l) (i j : Nat) : NodesOk ((l.drop i).take j) := fun x hx => h x (List.mem_of_mem_drop (List.mem_of_mem_take hx))

set_option maxHeartbeats 16000000 in
theorem exprTrees_walk (s : ByteArray) (w : World) (hT : U8 w) :
  Calls Tryz.prog 7 #[.string s] w fun e w' => e = .returned (.bool true) ∧ Below w.heap.size w w' := by
 have HM := Lib.hid (Mem.start w)
 have HT := Lib.hid hT
 have HB := Lib.hid (fun W h => xParse_any s W h)
 unfold NPost at HB
 have hok := parseF_ok s false
 obtain ⟨⟨l, er⟩, hr⟩ : ∃ x, parseF s false = x := ⟨_, rfl⟩
 simp only [hr] at HB hok
 by_cases h0 : er = 0
 case neg =>
  have q1 : (er != 0) = true := by simpa using h0
  clear hT hr hok
  go_enter Tryz.func7, Tryz.ntmps7
  go_wp2_with (first | (go_at_call 11; (with_reducible refine (xknown_any _ (U8.below HT.out HM.out.below)).mono ?_); rintro e W1 ⟨rfl, hb⟩; replace HM := Lib.hid (HM.out.next hb); clear hb) | (go_at_call 13; (with_reducible refine (HB.out _ (U8.below HT.out HM.out.below)).mono ?_); rintro e W2 ⟨p, oc, rfl, hM2⟩; have HM1 := Lib.hid (HM.out.comp2 hM2); clear HM hM2; (try clear W1); rename World => W1; have HM := HM1; clear HM1; simp only [List.cons_append, List.nil_append] at HM) | ((with_reducible refine igd ?_); (with_reducible refine skip_op ?_ ?_); (exact rfl)) | ((with_reducible refine iload ?_); first | refine ldb1 HM.out 0 rfl rfl rfl ?_) | ((with_reducible refine ibuildSlice ?_); refine bs0 rfl HM.out ?_; intro g1 W1 HM1; replace HM := Lib.hid HM1; clear HM1))
  go_ret
  exact ⟨rfl, HM.out.below⟩
 subst h0
 obtain ⟨x, -, -, hc⟩ := parse_ok hr
 obtain ⟨a', n, st, hW⟩ := whole_of hc
 have hlen : l.length = a'.length + 1 := by rw [hW.eq, List.length_append]; rfl
 have hpos : 0 < l.length := by omega
 have hl300 := hW.len
 obtain ⟨A, hA⟩ : ∃ A, a'.length = A := ⟨_, rfl⟩
 obtain ⟨P, hP⟩ : ∃ P, st.map (·.at_) = P := ⟨_, rfl⟩
 have hPl : P.length = st.length := by rw [← hP, List.length_map]
 have HPa := Lib.hid (fun (W : World) (p : Option Addr) (c : Nat) (h : Sl W p (l.flatMap NodeD.cs)) (hc : l.length ≤ c) => (show Calls Tryz.prog 20 #[.slice p l.length c, .int .i64 ((l.length : Int) - 1)] W (PartsPost (P, 0) W) from by
  have h1 := parts_any p c l ((l.length : Int) - 1) W h hc (by omega)
  rw [show (l.length : Int) - 1 = (a'.length : Int) by omega, hW.val, hP] at h1
  rw [show (l.length : Int) - 1 = (a'.length : Int) by omega]
  exact h1))
 unfold PartsPost at HPa
 have HNn := Lib.hid (show l[A]? = some n by rw [hW.eq, ← hA, List.getElem?_append_right (Nat.le_refl _), Nat.sub_self]; rfl)
 have qk : ((P.length : Int) != n.kids) = false := by rw [hW.kids, hPl]; simp
 obtain ⟨D, hfD, hD⟩ := hW.deep
 have hlast : A = fromP P P.length := by rw [← hA, hPl, ← hP]; exact last_at (foldA_inv hfD) (fun h => foldA_zero hfD h)
 have HLa := Lib.hid hlast
 have HlA := Lib.hid (show (l.length : Int) - 1 = (A : Int) by omega)
 have hAl : A < l.length := by omega
 have HLaw := Lib.hid (fun (i : Nat) (h : i < P.length) => (show ∃ pl : Nat, P[i]? = some pl ∧ fromP P i ≤ pl ∧ pl < A ∧ ∃ q, (l.drop (fromP P i)).take (pl + 1 - fromP P i) = q ∧ q ≠ [] ∧ (checkC q false = 0 ∨ checkC q true = 0 ∨ ∃ q' m, q = q' ++ [m] ∧ m.op = 28) from by
  obtain ⟨t, ht⟩ : ∃ t, st[i]? = some t := ⟨_, List.getElem?_eq_getElem (by omega)⟩
  have h1 := part_law hW ht
  rw [hP, hA] at h1
  exact ⟨t.at_, by rw [← hP, List.getElem?_map, ht]; rfl, h1⟩))
 have hNo := hok.2
 have hP1 : P.length ≤ 1001 := by have h1 := (hNo n (List.mem_of_getElem? HNn.out)).kids.2; have h2 := hW.kids; omega
 clear hT hr hc hW hfD hD hPl hP hA hlen hlast hok
 go_enter Tryz.func7, Tryz.ntmps7
 go_wp2_with (first | (go_at_call 11; (with_reducible refine (xknown_any _ (U8.below HT.out HM.out.below)).mono ?_); rintro e W1 ⟨rfl, hb⟩; replace HM := Lib.hid (HM.out.next hb); clear hb) | (go_at_call 13; (with_reducible refine (HB.out _ (U8.below HT.out HM.out.below)).mono ?_); rintro e W2 ⟨p, oc, rfl, hM2⟩; have HM1 := Lib.hid (HM.out.comp2 hM2); clear HM hM2; (try clear W1); rename World => W1; have HM := HM1; clear HM1; simp only [List.cons_append, List.nil_append] at HM; obtain ⟨b3, rfl, -⟩ := (row_sl (HM.out.get (k := 0) rfl)).some_at NodeD.cs_len (by decide) hpos; have hcap := (row_cap (HM.out.get (k := 0) rfl)).1) | (go_at_call 20; (with_reducible refine (HPa.out _ _ _ (row_sl (HM.out.get (k := 0) rfl)) hcap).mono ?_); rintro e W2 ⟨q, dd, rfl, hM2⟩; have HM1 := Lib.hid (HM.out.comp2 hM2); clear HM hM2; (try clear W1); rename World => W1; have HM := HM1; clear HM1; simp only [List.cons_append, List.nil_append] at HM) | ((with_reducible refine iat 39 ?_); (refine ixa rfl rfl HlA.out hAl ?_)) | ((with_reducible refine iat 41 ?_); (refine ldxf (row_el NodeD.cs 8 NodeD.cs_len (HM.out.get (k := 1) rfl) HNn.out) rfl rfl rfl ?_)) | ((with_reducible refine igd ?_); (with_reducible refine skip_op ?_ ?_); (exact rfl)) | ((with_reducible refine iload ?_); first | refine ldb1 HM.out 0 rfl rfl rfl ?_ | refine ldb1 HM.out 1 rfl rfl rfl ?_) | ((with_reducible refine ibuildSlice ?_); refine bs0 rfl HM.out ?_; intro g1 W1 HM1; replace HM := Lib.hid HM1; clear HM1))
 go_loopw [8, 9] (fun fv iv wr => ∃ i : Nat, iv = .int .i64 i ∧ fv = .int .i64 (fromP P i : Nat) ∧ i ≤ P.length ∧ Hid (Mem w wr [.row q dd 3 1 P.length (intL P), .row (some b3) oc 36 8 l.length (l.flatMap NodeD.cs)])) (fun _ iv _ => P.length - (intOf iv).toNat)
 case atStart => exact ⟨0, rfl, rfl, Nat.zero_le _, HM⟩
 case round =>
  clear HM
  obtain ⟨i, rfl, rfl, hi, HM⟩ := hrel
  by_cases hlt : i < P.length
  ·obtain ⟨b2, rfl, -⟩ := (row_sl (HM.out.get (k := 0) rfl)).some_at intC_len (by decide) hlt
   obtain ⟨pl, hpi, hf1, hf2, Q, hQ, hne, hcs⟩ := HLaw.out i hlt
   have HPi := Lib.hid hpi
   have HFr := Lib.hid (show fromP P (i + 1) = pl + 1 by show P.getD i 0 + 1 = pl + 1; rw [List.getD_eq_getElem?_getD, hpi]; rfl)
   obtain ⟨fr, hfr0⟩ : ∃ fr, fromP P i = fr := ⟨_, rfl⟩
   rw [hfr0] at hf1 hQ ⊢
   have HQ := Lib.hid hQ
   have hfr : fr ≤ pl + 1 := by omega
   have hpl2 : pl + 1 ≤ l.length := by omega
   have HPl1 := Lib.hid (show (pl : Int) + 1 = ((pl + 1 : Nat) : Int) by omega)
   have HQl := Lib.hid (show pl + 1 - fr = Q.length by rw [← hQ, List.length_take, List.length_drop]; omega)
   have hQpos : 0 < Q.length := by cases Q with | nil => exact absurd rfl hne | cons a r => exact Nat.succ_pos _
   have hQ300 : Q.length ≤ 300 := by rw [← HQl.out]; omega
   have hQo : NodesOk Q := by rw [← hQ]; exact hNo.part _ _
   have e1 : decide ((pl : Int) < (fr : Int)) = false := decide_eq_false (by omega)
   have e1n : decide (pl < fr) = false := decide_eq_false (by omega)
   have e2 : decide ((l.length : Int) - 1 ≤ (pl : Int)) = false := decide_eq_false (by have := HlA.out; omega)
   have e3 : decide ((i : Int) < P.length) = true := decide_eq_true (by omega)
   obtain ⟨v1, hv1⟩ : ∃ v, checkC Q false = v := ⟨_, rfl⟩
   obtain ⟨v2, hv2⟩ : ∃ v, checkC Q true = v := ⟨_, rfl⟩
   have HC1 := Lib.hid (fun (p : Option Addr) (c : Nat) W h1 h2 => eCheck_any p c Q false W h1 (nodes_wf hQo) (by omega) h2)
   have HC2 := Lib.hid (fun (p : Option Addr) (c : Nat) W h1 h2 => eCheck_any p c Q true W h1 (nodes_wf hQo) (by omega) h2)
   rw [hv1] at HC1 hcs
   rw [hv2] at HC2 hcs
   clear hpi hQ hfr0 hv1 hv2 hQo
   by_cases h1 : v1 = 0
   ·have q2 : (v1 != 0) = false := by simpa using h1
    clear hcs h1
    go_wp2_with (first | ((with_reducible refine iat 52 ?_); (refine ixa rfl rfl rfl hlt ?_)) | ((with_reducible refine iat 53 ?_); (refine ldx0 (v := .int .i64 (pl : Int)) (row_el intC 1 intC_len (HM.out.get (k := 0) rfl) HPi.out) rfl rfl ?_)) | ((with_reducible refine iat 59 ?_); (refine ixa rfl rfl rfl hlt ?_)) | ((with_reducible refine iat 60 ?_); (refine ldx0 (v := .int .i64 (pl : Int)) (row_el intC 1 intC_len (HM.out.get (k := 0) rfl) HPi.out) rfl rfl ?_)) | ((with_reducible refine iat 70 ?_); (refine ixa rfl rfl rfl hlt ?_)) | ((with_reducible refine iat 71 ?_); (refine ldx0 (v := .int .i64 (pl : Int)) (row_el intC 1 intC_len (HM.out.get (k := 1) rfl) HPi.out) rfl rfl ?_)) | ((with_reducible refine iat 73 ?_); (refine slb rfl rfl rfl rfl HPl1.out hfr (by omega) ?_; intro q5 hq5; have HSL := Lib.hid (hq5 ▸ sl_mid NodeD.cs 8 NodeD.cs_len (HM.out.get (k := 2) (r := .row (some b3) oc 36 8 l.length (l.flatMap NodeD.cs)) rfl) hfr hpl2 HQ.out); clear hq5)) | ((with_reducible refine iat 65 ?_); (refine bs0 rfl HM.out ?_; intro g65 W1 HM1; replace HM := Lib.hid HM1; clear HM1)) | ((with_reducible refine iat 74 ?_); (refine apN (l := []) (la := Q) rfl HM.out 0 rfl rfl rfl rfl rfl HQl.out HSL.out (by decide) (by omega) (by decide) ?_; intro p74 c74 W2 HM1; clear HSL; clear HM; (try clear W1); rename World => W1; have HM := Lib.hid HM1; clear HM1; simp only [List.set, List.nil_append] at HM; obtain ⟨b74, rfl, -⟩ := (row_sl (HM.out.get (k := 0) rfl)).some_at NodeD.cs_len (by decide) hQpos)) | (go_at_call 15; first | ((with_reducible refine (HC1.out _ _ _ (row_sl (HM.out.get (k := 0) rfl)) (U8.below HT.out HM.out.below)).mono ?_); rintro e W1 ⟨rfl, hb⟩; replace HM := Lib.hid (HM.out.next hb); clear hb) | ((with_reducible refine (HC2.out _ _ _ (row_sl (HM.out.get (k := 0) rfl)) (U8.below HT.out HM.out.below)).mono ?_); rintro e W1 ⟨rfl, hb⟩; replace HM := Lib.hid (HM.out.next hb); clear hb)) | ((with_reducible refine iat 97 ?_); (refine ixa rfl rfl rfl hlt ?_)) | ((with_reducible refine iat 98 ?_); (refine ldx0 (v := .int .i64 (pl : Int)) (row_el intC 1 intC_len (HM.out.get (k := 1) rfl) HPi.out) rfl rfl ?_)) | ((with_reducible refine igd ?_); (with_reducible refine skip_op ?_ ?_); (exact rfl)) | ((with_reducible refine iload ?_); first | refine ldb1 HM.out 0 rfl rfl rfl ?_ | refine ldb1 HM.out 1 rfl rfl rfl ?_ | refine ldb1 HM.out 2 rfl rfl rfl ?_) | ((with_reducible refine ibuildSlice ?_); refine bs0 rfl HM.out ?_; intro g1 W1 HM1; replace HM := Lib.hid HM1; clear HM1))
    go_roundw
    case rel => exact ⟨i + 1, by go_num, by rw [HFr.out]; go_num, by omega, Lib.hid (HM.out.sub (.cons _ (.refl _)))⟩
    case measure => simp [intOf]; omega
   by_cases h2 : v2 = 0
   ·have q2 : (v1 != 0) = true := by simpa using h1
    have q3 : (v2 != 0) = false := by simpa using h2
    clear hcs h1 h2
    go_wp2_with (first | ((with_reducible refine iat 52 ?_); (refine ixa rfl rfl rfl hlt ?_)) | ((with_reducible refine iat 53 ?_); (refine ldx0 (v := .int .i64 (pl : Int)) (row_el intC 1 intC_len (HM.out.get (k := 0) rfl) HPi.out) rfl rfl ?_)) | ((with_reducible refine iat 59 ?_); (refine ixa rfl rfl rfl hlt ?_)) | ((with_reducible refine iat 60 ?_); (refine ldx0 (v := .int .i64 (pl : Int)) (row_el intC 1 intC_len (HM.out.get (k := 0) rfl) HPi.out) rfl rfl ?_)) | ((with_reducible refine iat 70 ?_); (refine ixa rfl rfl rfl hlt ?_)) | ((with_reducible refine iat 71 ?_); (refine ldx0 (v := .int .i64 (pl : Int)) (row_el intC 1 intC_len (HM.out.get (k := 1) rfl) HPi.out) rfl rfl ?_)) | ((with_reducible refine iat 73 ?_); (refine slb rfl rfl rfl rfl HPl1.out hfr (by omega) ?_; intro q5 hq5; have HSL := Lib.hid (hq5 ▸ sl_mid NodeD.cs 8 NodeD.cs_len (HM.out.get (k := 2) (r := .row (some b3) oc 36 8 l.length (l.flatMap NodeD.cs)) rfl) hfr hpl2 HQ.out); clear hq5)) | ((with_reducible refine iat 65 ?_); (refine bs0 rfl HM.out ?_; intro g65 W1 HM1; replace HM := Lib.hid HM1; clear HM1)) | ((with_reducible refine iat 74 ?_); (refine apN (l := []) (la := Q) rfl HM.out 0 rfl rfl rfl rfl rfl HQl.out HSL.out (by decide) (by omega) (by decide) ?_; intro p74 c74 W2 HM1; clear HSL; clear HM; (try clear W1); rename World => W1; have HM := Lib.hid HM1; clear HM1; simp only [List.set, List.nil_append] at HM; obtain ⟨b74, rfl, -⟩ := (row_sl (HM.out.get (k := 0) rfl)).some_at NodeD.cs_len (by decide) hQpos)) | (go_at_call 15; first | ((with_reducible refine (HC1.out _ _ _ (row_sl (HM.out.get (k := 0) rfl)) (U8.below HT.out HM.out.below)).mono ?_); rintro e W1 ⟨rfl, hb⟩; replace HM := Lib.hid (HM.out.next hb); clear hb) | ((with_reducible refine (HC2.out _ _ _ (row_sl (HM.out.get (k := 0) rfl)) (U8.below HT.out HM.out.below)).mono ?_); rintro e W1 ⟨rfl, hb⟩; replace HM := Lib.hid (HM.out.next hb); clear hb)) | ((with_reducible refine iat 97 ?_); (refine ixa rfl rfl rfl hlt ?_)) | ((with_reducible refine iat 98 ?_); (refine ldx0 (v := .int .i64 (pl : Int)) (row_el intC 1 intC_len (HM.out.get (k := 1) rfl) HPi.out) rfl rfl ?_)) | ((with_reducible refine igd ?_); (with_reducible refine skip_op ?_ ?_); (exact rfl)) | ((with_reducible refine iload ?_); first | refine ldb1 HM.out 0 rfl rfl rfl ?_ | refine ldb1 HM.out 1 rfl rfl rfl ?_ | refine ldb1 HM.out 2 rfl rfl rfl ?_) | ((with_reducible refine ibuildSlice ?_); refine bs0 rfl HM.out ?_; intro g1 W1 HM1; replace HM := Lib.hid HM1; clear HM1))
    go_roundw
    case rel => exact ⟨i + 1, by go_num, by rw [HFr.out]; go_num, by omega, Lib.hid (HM.out.sub (.cons _ (.refl _)))⟩
    case measure => simp [intOf]; omega
   ·have q2 : (v1 != 0) = true := by simpa using h1
    have q3 : (v2 != 0) = true := by simpa using h2
    obtain ⟨Q', m, hQm, hop⟩ : ∃ q' m, Q = q' ++ [m] ∧ m.op = 28 := by
     rcases hcs with h | h | h
     ·exact absurd h h1
     ·exact absurd h h2
     ·exact h
    have HQm := Lib.hid (show Q[Q'.length]? = some m by rw [hQm, List.getElem?_append_right (Nat.le_refl _), Nat.sub_self]; rfl)
    have hql : Q.length = Q'.length + 1 := by rw [hQm, List.length_append]; rfl
    have HQm1 := Lib.hid (show (Q.length : Int) - 1 = (Q'.length : Int) by omega)
    have HQlt := Lib.hid (show Q'.length < Q.length by omega)
    have q4 : (m.op != 28) = false := by rw [hop]; rfl
    clear hcs h1 h2 hop hQm hql
    go_wp2_with (first | ((with_reducible refine iat 52 ?_); (refine ixa rfl rfl rfl hlt ?_)) | ((with_reducible refine iat 53 ?_); (refine ldx0 (v := .int .i64 (pl : Int)) (row_el intC 1 intC_len (HM.out.get (k := 0) rfl) HPi.out) rfl rfl ?_)) | ((with_reducible refine iat 59 ?_); (refine ixa rfl rfl rfl hlt ?_)) | ((with_reducible refine iat 60 ?_); (refine ldx0 (v := .int .i64 (pl : Int)) (row_el intC 1 intC_len (HM.out.get (k := 0) rfl) HPi.out) rfl rfl ?_)) | ((with_reducible refine iat 70 ?_); (refine ixa rfl rfl rfl hlt ?_)) | ((with_reducible refine iat 71 ?_); (refine ldx0 (v := .int .i64 (pl : Int)) (row_el intC 1 intC_len (HM.out.get (k := 1) rfl) HPi.out) rfl rfl ?_)) | ((with_reducible refine iat 73 ?_); (refine slb rfl rfl rfl rfl HPl1.out hfr (by omega) ?_; intro q5 hq5; have HSL := Lib.hid (hq5 ▸ sl_mid NodeD.cs 8 NodeD.cs_len (HM.out.get (k := 2) (r := .row (some b3) oc 36 8 l.length (l.flatMap NodeD.cs)) rfl) hfr hpl2 HQ.out); clear hq5)) | ((with_reducible refine iat 65 ?_); (refine bs0 rfl HM.out ?_; intro g65 W1 HM1; replace HM := Lib.hid HM1; clear HM1)) | ((with_reducible refine iat 74 ?_); (refine apN (l := []) (la := Q) rfl HM.out 0 rfl rfl rfl rfl rfl HQl.out HSL.out (by decide) (by omega) (by decide) ?_; intro p74 c74 W2 HM1; clear HSL; clear HM; (try clear W1); rename World => W1; have HM := Lib.hid HM1; clear HM1; simp only [List.set, List.nil_append] at HM; obtain ⟨b74, rfl, -⟩ := (row_sl (HM.out.get (k := 0) rfl)).some_at NodeD.cs_len (by decide) hQpos)) | (go_at_call 15; first | ((with_reducible refine (HC1.out _ _ _ (row_sl (HM.out.get (k := 0) rfl)) (U8.below HT.out HM.out.below)).mono ?_); rintro e W1 ⟨rfl, hb⟩; replace HM := Lib.hid (HM.out.next hb); clear hb) | ((with_reducible refine (HC2.out _ _ _ (row_sl (HM.out.get (k := 0) rfl)) (U8.below HT.out HM.out.below)).mono ?_); rintro e W1 ⟨rfl, hb⟩; replace HM := Lib.hid (HM.out.next hb); clear hb)) | ((with_reducible refine iat 97 ?_); (refine ixa rfl rfl rfl hlt ?_)) | ((with_reducible refine iat 98 ?_); (refine ldx0 (v := .int .i64 (pl : Int)) (row_el intC 1 intC_len (HM.out.get (k := 1) rfl) HPi.out) rfl rfl ?_)) | ((with_reducible refine iat 90 ?_); (refine ixa rfl rfl HQm1.out HQlt.out ?_)) | ((with_reducible refine iat 92 ?_); (refine ldx0 (row_el NodeD.cs 8 NodeD.cs_len (HM.out.get (k := 0) rfl) HQm.out) rfl rfl ?_)) | ((with_reducible refine igd ?_); (with_reducible refine skip_op ?_ ?_); (exact rfl)) | ((with_reducible refine iload ?_); first | refine ldb1 HM.out 0 rfl rfl rfl ?_ | refine ldb1 HM.out 1 rfl rfl rfl ?_ | refine ldb1 HM.out 2 rfl rfl rfl ?_) | ((with_reducible refine ibuildSlice ?_); refine bs0 rfl HM.out ?_; intro g1 W1 HM1; replace HM := Lib.hid HM1; clear HM1))
    go_roundw
    case rel => exact ⟨i + 1, by go_num, by rw [HFr.out]; go_num, by omega, Lib.hid (HM.out.sub (.cons _ (.refl _)))⟩
    case measure => simp [intOf]; omega
  ·obtain rfl : i = P.length := by omega
   have e3 : decide ((P.length : Int) < P.length) = false := decide_eq_false (by omega)
   have qe : ((fromP P P.length : Int) == (l.length : Int) - 1) = true := by rw [← HLa.out, HlA.out]; simp
   go_wp2_with (first | ((with_reducible refine igd ?_); (with_reducible refine skip_op ?_ ?_); (exact rfl)) | ((with_reducible refine iload ?_); first | refine ldb1 HM.out 0 rfl rfl rfl ?_) | ((with_reducible refine ibuildSlice ?_); refine bs0 rfl HM.out ?_; intro g1 W1 HM1; replace HM := Lib.hid HM1; clear HM1))
   first | go_ret | go_ret2
   exact ⟨by first | rfl | (rw [qe]; rfl), HM.out.below⟩
end Go.Proofs.YtkackccmhghphaaGreatDoor
