/- A slice of two values; Same, Equal, And, Or, Not, Less of the program. (short) -/
import Derived.Test.YtgobdcmoelcckaaGreatDoorValH
namespace Go.Proofs.YtgobdcmoelcckaaGreatDoor
open Go.RowKit
set_option linter.unusedVariables false
set_option linter.unusedSimpArgs false
set_option maxRecDepth 100000

theorem lit2v (x0 x1 x2 x3 x4 x5 x6 x7 x8 x9 y0 y1 y2 y3 y4 y5 y6 y7 y8 y9 : Value) : Instr.fill (fun i => some (i * 10, 10)) ((Array.range (2 * 10)).map ((Value.agg #[.int .i64 0, .bool false, .bool false, .int .u64 0, .int .u64 0, .int .i64 0, .string ⟨#[]⟩, .int .i64 0, .slice none 0 0, .slice none 0 0]).cells[· % (Value.agg #[.int .i64 0, .bool false, .bool false, .int .u64 0, .int .u64 0, .int .i64 0, .string ⟨#[]⟩, .int .i64 0, .slice none 0 0, .slice none 0 0]).cells.size]!)) [(0, .agg #[x0, x1, x2, x3, x4, x5, x6, x7, x8, x9]), (1, .agg #[y0, y1, y2, y3, y4, y5, y6, y7, y8, y9])] = some ([x0, x1, x2, x3, x4, x5, x6, x7, x8, x9, y0, y1, y2, y3, y4, y5, y6, y7, y8, y9].toArray) := by
  simp [Instr.fill, Array.range, Value.cells]
  apply Array.ext'
  simp [List.ofFn_succ]
section
variable {P : Program} {ops : Array Oper} {Q : Exit → Act → World → Prop} {a : Act} {W W' w0 : World} {rest : List Oper} {L : List Res}
variable {dst : Option Tmp} {ty0 : TypeId} {pos : String} {after : Array Edge} {gd : Option (Nat × Bool)}
theorem bs2V {t e : TypeId} {bytes : Nat} [hR : RowT P t e 10 bytes (Value.agg #[.int .i64 0, .bool false, .bool false, .int .u64 0, .int .u64 0, .int .i64 0, .string ⟨#[]⟩, .int .i64 0, .slice none 0 0, .slice none 0 0])] {x y : Operand} {x0 x1 x2 x3 x4 x5 x6 x7 x8 x9 y0 y1 y2 y3 y4 y5 y6 y7 y8 y9 : Value} (HM : Hid (Mem w0 W L)) (hw : Region.wanted ⟨dst, .buildSlice t 2 #[(0, x), (1, y)], ty0, pos, after, gd⟩ (yielded ops a.tmps) = true)
    (hx : a.eval x = .agg #[x0, x1, x2, x3, x4, x5, x6, x7, x8, x9]) (hy : a.eval y = .agg #[y0, y1, y2, y3, y4, y5, y6, y7, y8, y9])
    (h : ∀ g W', Hid (Mem w0 W' (.box g e [x0, x1, x2, x3, x4, x5, x6, x7, x8, x9, y0, y1, y2, y3, y4, y5, y6, y7, y8, y9] :: L)) → wpList P ops Q (⟨dst, .move (.const (.slice (some ⟨g, 0, none⟩) 2 2)), ty0, pos, after, gd⟩ :: rest) a W') : wpList P ops Q (⟨dst, .buildSlice t 2 #[(0, x), (1, y)], ty0, pos, after, gd⟩ :: rest) a W := by
  refine bsb (cs := [x0, x1, x2, x3, x4, x5, x6, x7, x8, x9, y0, y1, y2, y3, y4, y5, y6, y7, y8, y9]) hw HM.out (by omega) (by omega) ?_ fun g W' m => h g W' (Lib.hid m)
  have hp1 : (Array.map (fun x : Nat × Operand => (x.1, a.eval x.2)) #[(0, x), (1, y)]).toList = [(0, a.eval x), (1, a.eval y)] := by simp
  show Instr.fill _ _ (Array.map (fun x : Nat × Operand => (x.1, a.eval x.2)) #[(0, x), (1, y)]).toList = _
  rw [hp1, hx, hy]
  exact lit2v ..
end
/-- What a box of two values is to a callee. -/
theorem two_at {B : Nat} {W : World} {g : Nat} {t : TypeId} {x y : VD} {cx cy : List Value} (hb : (Res.box g t (cx ++ cy)).holds B W) (hx : x.at W cx) (hy : y.at W cy) : Sl W (some ⟨g, 0, none⟩) (cx ++ cy) ∧ VD.ats W [x, y] (cx ++ cy) := by
  refine ⟨⟨(fun e => by cases e), fun a e => ?_⟩, ?_⟩
  · cases e
    exact box_cells hb 0
  · simp only [VD.ats]
    exact ⟨cx, cy, rfl, hx, cy, [], by simp, hy, rfl⟩
theorem chk2 (x y : VD) : chkL [x, y] = if x.check = 0 then y.check else x.check := by
  simp only [chkL]
  by_cases h : x.check = 0
  · rw [if_pos h, if_pos h]
    by_cases h2 : y.check = 0
    · rw [if_pos h2, h2]
    · rw [if_neg h2]
  · rw [if_neg h, if_neg h]

set_option maxHeartbeats 8000000 in
theorem vSame_any (x y : VD) (cx cy : List Value) (w : World) (hx : x.at w cx) (hy : y.at w cy) (hxw : x.wf 1048576) (hyw : y.wf 1048576) (hu : U8 w) : Calls Tryz.prog 17 #[.agg cx.toArray, .agg cy.toArray] w fun e w' => e = .returned (.bool (decide (chkL [x, y] = 0) && VD.same x y)) ∧ RowKit.Below w.heap.size w w' := by
  have HM := Lib.hid (Mem.start w)
  have HX := Lib.hid hx
  have HY := Lib.hid hy
  have HXw := Lib.hid hxw
  have HYw := Lib.hid hyw
  have HU := Lib.hid hu
  obtain ⟨u, hu⟩ : ∃ u, chkL [x, y] = u := ⟨_, rfl⟩
  have HCk := Lib.hid (show ∀ W g t, RowKit.Below w.heap.size w W → (Res.box g t (cx ++ cy)).holds w.heap.size W → Calls Tryz.prog 34 #[.slice (some ⟨g, 0, none⟩) 2 2] W fun e w' => e = .returned (.int .i64 u) ∧ RowKit.Below W.heap.size W w' from fun W g t hb hbox => by
    rw [← hu]
    obtain ⟨h1, h2⟩ := two_at hbox (VD.at.below hb HX.out) (VD.at.below hb HY.out)
    exact vchecks_any _ _ [x, y] _ W h1 h2 (by simp only [VD.wfL]; exact ⟨HXw.out, HYw.out, trivial⟩) (by simp) (U8.below HU.out hb))
  obtain ⟨r, hr⟩ : ∃ r, VD.same x y = r := ⟨_, rfl⟩
  have HAl := Lib.hid (show ∀ W, RowKit.Below w.heap.size w W → Calls Tryz.prog 45 #[.agg cx.toArray, .agg cy.toArray] W fun e w' => e = .returned (.bool r) ∧ RowKit.Below W.heap.size W w' from fun W hb => by
    rw [← hr]; exact valike_any _ x y (Nat.le_refl _) _ _ W (VD.at.below hb HX.out) (VD.at.below hb HY.out) HXw.out HYw.out)
  rw [hu, hr]
  clear hu hr
  obtain ⟨k1, y1, ⟨ng1, hi1, lo1, sc1⟩, t1, d1, l1, ns1⟩ := x
  obtain ⟨k2, y2, ⟨ng2, hi2, lo2, sc2⟩, t2, d2, l2, ns2⟩ := y
  simp only [VD.at, vcs] at hx hy
  obtain ⟨lp1, np1, lc1, nc1, ls1, rfl, -⟩ := hx
  obtain ⟨lp2, np2, lc2, nc2, ls2, rfl, -⟩ := hy
  simp only [List.cons_append, List.nil_append] at HCk
  by_cases h0 : u = 0
  · subst h0
    go_enter Tryz.func17, Tryz.ntmps17
    go_wp2_with (first | ((with_reducible refine skip_op ?_ ?_); exact rfl) | refine mP ?_ | (refine mL ?_; clear HM; intro g1 W1 HM) | ((with_reducible refine iat 2 ?_); refine mB ?_; clear HM; intro g2 W1 HM) | ((with_reducible refine iat 3 ?_); refine mB ?_; clear HM; intro g3 W1 HM) | (refine bs2V HM rfl rfl rfl ?_; clear HM; intro g7 W1 HM) | (go_at_call 34; (with_reducible refine cB HM (HCk.out _ _ _ HM.out.below (HM.out.get (k := 0) rfl)) ?_); clear HM; intro W1 HM) | (go_at_call 45; (with_reducible refine cB HM (HAl.out _ HM.out.below) ?_); clear HM; intro W1 HM))
    go_ret
    exact ⟨by simp, HM.out.below⟩
  · have q : (u == 0) = false := by simp [h0]
    go_enter Tryz.func17, Tryz.ntmps17
    go_wp2_with (first | ((with_reducible refine skip_op ?_ ?_); exact rfl) | refine mP ?_ | (refine mL ?_; clear HM; intro g1 W1 HM) | ((with_reducible refine iat 2 ?_); refine mB ?_; clear HM; intro g2 W1 HM) | ((with_reducible refine iat 3 ?_); refine mB ?_; clear HM; intro g3 W1 HM) | (refine bs2V HM rfl rfl rfl ?_; clear HM; intro g7 W1 HM) | (go_at_call 34; (with_reducible refine cB HM (HCk.out _ _ _ HM.out.below (HM.out.get (k := 0) rfl)) ?_); clear HM; intro W1 HM) | (go_at_call 45; (with_reducible refine cB HM (HAl.out _ HM.out.below) ?_); clear HM; intro W1 HM))
    go_ret
    exact ⟨by simp [h0], HM.out.below⟩
end Go.Proofs.YtgobdcmoelcckaaGreatDoor
