/- mark's read on the document that the laws' fixed fact asks for. (short) -/
import Derived.Test.YtanncakdlflopaaGreatDoorMarkGH
namespace Go.Proofs.YtanncakdlflopaaGreatDoor
open Go.RowKit
set_option linter.unusedVariables false
set_option linter.unusedSimpArgs false
set_option maxRecDepth 100000

theorem lit2E (a b c d a' b' c' d' : Value) : Instr.fill (fun i => some (i * 4, 4)) ((Array.range (2 * 4)).map ((Value.agg #[.int .i64 0, .string ⟨#[]⟩, .slice none 0 0, .string ⟨#[]⟩]).cells[· % (Value.agg #[.int .i64 0, .string ⟨#[]⟩, .slice none 0 0, .string ⟨#[]⟩]).cells.size]!)) [(0, .agg #[a, b, c, d]), (1, .agg #[a', b', c', d'])] = some ([a, b, c, d, a', b', c', d'].toArray) := by
  simp [Instr.fill, Array.range, Value.cells]
  apply Array.ext'
  simp [List.ofFn_succ]
section
variable {P : Program} {ops : Array Oper} {Q : Exit → Act → World → Prop} {a : Act} {W W' w0 : World} {rest : List Oper} {L : List Res}
variable {dst : Option Tmp} {ty0 : TypeId} {pos : String} {after : Array Edge} {gd : Option (Nat × Bool)}
/-- A literal of two events. -/
theorem bs2E {t e : TypeId} {bytes : Nat} [hR : RowT P t e 4 bytes (.agg #[.int .i64 0, .string ⟨#[]⟩, .slice none 0 0, .string ⟨#[]⟩])] {x y : Operand} {p q r s p' q' r' s' : Value} (hw : Region.wanted ⟨dst, .buildSlice t 2 #[(0, x), (1, y)], ty0, pos, after, gd⟩ (yielded ops a.tmps) = true) (HM : Mem w0 W L)
    (hx : a.eval x = .agg #[p, q, r, s]) (hy : a.eval y = .agg #[p', q', r', s'])
    (h : ∀ g W', Mem w0 W' (.box g e [p, q, r, s, p', q', r', s'] :: L) → wpList P ops Q (⟨dst, .move (.const (.slice (some ⟨g, 0, none⟩) 2 2)), ty0, pos, after, gd⟩ :: rest) a W') : wpList P ops Q (⟨dst, .buildSlice t 2 #[(0, x), (1, y)], ty0, pos, after, gd⟩ :: rest) a W := by
  refine bsb (cs := [p, q, r, s, p', q', r', s']) hw HM (by omega) (by omega) ?_ h
  have hp1 : (Array.map (fun x : Nat × Operand => (x.1, a.eval x.2)) #[(0, x), (1, y)]).toList = [(0, a.eval x), (1, a.eval y)] := by simp
  show Instr.fill _ _ (Array.map (fun x : Nat × Operand => (x.1, a.eval x.2)) #[(0, x), (1, y)]).toList = _
  rw [hp1, hx, hy]
  exact lit2E ..
end
theorem kin (W : World) : Calls Tryz.prog 69 #[.int .u8 120] W fun e w' => e = .returned (.bool true) ∧ W = w' := by
  have := minside_any 120 W
  rw [show insB 120 = true from insB_t (by omega)] at this
  exact this

set_option maxHeartbeats 16000000 in
theorem kread (w0 W : World) (R : Nat) (hT : U8 w0) (hE : ErrsAt w0) (h : Mem w0 W [.box R 85 [.string kS, .int .i64 0, .slice none 0 0, .bool false, .bool false]]) :
    Calls Tryz.prog 42 #[.pointer (some ⟨R, 0, none⟩)] W fun e w' => e = .returned (.bool true) ∧ ∃ p cap pa ca, Mem w0 w' [.box R 85 [.string kS, .int .i64 10, .slice p 2 cap, .bool false, .bool false], .row p cap 57 4 2 [.int .i64 1, .string ⟨#[97]⟩, .slice pa 1 ca, .string ⟨#[]⟩, .int .i64 2, .string ⟨#[97]⟩, .slice none 0 0, .string ⟨#[]⟩], .row pa ca 44 2 1 [.string ⟨#[120]⟩, .string ⟨#[49]⟩]] := by
  have HM := Lib.hid h
  have HT := Lib.hid hT
  have HE := Lib.hid hE
  have hk0 : ((0 : Int) == (kS.size : Int)) = false := by decide +kernel
  have hk1 : ((10 : Int) == (kS.size : Int)) = true := by decide +kernel
  have hb3 : kS.data.toList[3]? = some 120 := by decide
  clear h hT hE
  go_enter Tryz.func42, Tryz.ntmps42
  go_wp2_with fail
  refine wp_jumps 8 ?_
  go_wp2_with (first | ((with_reducible refine skip_op ?_ ?_); exact rfl) | refine mP ?_ | (refine mS ?_; clear HM; intro W1 HM) | (refine mL ?_; clear HM; intro g1 W1 HM) | (refine hal (dst := some 3) HM rfl ?_; clear HM; intro g3 W1 HM) | (refine hal HM rfl ?_; clear HM; intro g1 W1 HM))
  have HM1 := Lib.hid ((HM.out.row0 57 4).perm ((List.Perm.cons _ (List.Perm.swap _ _ _)).trans ((List.Perm.swap _ _ _).trans (List.Perm.cons _ (List.Perm.swap _ _ _)))))
  clear HM
  have HM := HM1
  clear HM1
  refine (knot ⟨#[60, 63, 120, 109, 108]⟩ 0 0 rfl (by decide) (by decide +kernel) HM.out).mono ?_
  rintro e W2 ⟨rfl, hM⟩
  clear HM
  (try clear W1)
  have HM := Lib.hid hM
  clear hM
  go_wp2_with fail
  go_step3
  rename_i hK
  refine hK _ _ ?_
  clear hK
  go_wp2_with fail
  refine wp_region_mem (by kernel_rfl) (by kernel_rfl) HM.out ?_; intro hNE; (repeat (any_goals (first | ((with_reducible refine qgd ?_); (with_reducible refine skip_q ?_ ?_ ?_); (exact rfl); (rotate_left; (exact (hNE.elim fun p => ⟨p.W, p, rfl⟩)))) | refine mQ ?_ | go_big_quiet_step (fail) | quiet_step (fail)))); clear hNE; refine wpQuiet_nil ?_; intro W1 HM1; replace HM := Lib.hid HM1; clear HM1
  go_wp2_with fail
  refine (knot ⟨#[60, 33, 45, 45]⟩ 0 0 rfl (by decide) (by decide +kernel) HM.out).mono ?_
  rintro e W2 ⟨rfl, hM⟩
  clear HM
  (try clear W1)
  have HM := Lib.hid hM
  clear hM
  go_wp2_with fail
  refine (knot ⟨#[60, 47]⟩ 0 0 rfl (by decide) (by decide +kernel) HM.out).mono ?_
  rintro e W2 ⟨rfl, hM⟩
  clear HM
  (try clear W1)
  have HM := Lib.hid hM
  clear hM
  go_wp2_with fail
  refine (ktake ⟨#[60]⟩ 0 1 0 1 rfl rfl (by decide) (by decide +kernel) (by decide) HM.out).mono ?_
  rintro e W2 ⟨rfl, hM⟩
  clear HM
  (try clear W1)
  have HM := Lib.hid hM
  clear hM
  go_wp2_with fail
  go_step3
  show jumpQ _ _ _ (7 + 1) (.goto _) _ _
  refine ⟨_, rfl, ?_⟩
  go_wp2_with (first | ((with_reducible refine skip_op ?_ ?_); exact rfl) | refine mP ?_ | (refine mS ?_; clear HM; intro W1 HM) | (refine mL ?_; clear HM; intro g1 W1 HM) | (refine hal HM rfl ?_; clear HM; intro g1 W1 HM))
  refine (kword 1 2 1 2 ⟨#[97]⟩ true rfl rfl (by decide) (by decide +kernel) (by decide +kernel) (by decide +kernel) HM.out).mono ?_
  rintro e W2 ⟨rfl, hM⟩
  clear HM
  (try clear W1)
  have HM := Lib.hid hM
  clear hM
  go_wp2_with (first | ((with_reducible refine skip_op ?_ ?_); exact rfl) | refine mP ?_ | (refine mS ?_; clear HM; intro W1 HM) | (refine mL ?_; clear HM; intro g1 W1 HM) | (refine hal HM rfl ?_; clear HM; intro g1 W1 HM))
  go_step3
  show jumpQ _ _ _ (6 + 1) (.goto _) _ _
  refine ⟨_, rfl, ?_⟩
  go_wp2_with (first | ((with_reducible refine skip_op ?_ ?_); exact rfl) | refine mP ?_ | (refine mS ?_; clear HM; intro W1 HM) | (refine mL ?_; clear HM; intro g1 W1 HM) | (refine hal HM rfl ?_; clear HM; intro g1 W1 HM))
  refine wp_region_pre [0, 1, 2] [(true, 3), (true, 4), (true, 5), (true, 6), (true, 7), (true, 8), (true, 9), (true, 10), (true, 11), (true, 12), (true, 13), (true, 14), (true, 15), (true, 16), (true, 17), (true, 18), (true, 19), (true, 20), (true, 21), (true, 22), (true, 23), (false, 24), (true, 25)] (by kernel_rfl) (by kernel_rfl) rfl (by kernel_rfl) (fun _ _ _ _ _ h => h) HM.out ?_
  intro W1 HM1; replace HM := Lib.hid HM1; clear HM1
  simp only [wpPre, List.getElem?_cons_succ, List.getElem?_cons_zero]
  go_wp2_with (first | (go_at_call 64; refine (kblanks 2 3 2 3 true rfl rfl (by decide) (by decide +kernel) (by decide) HM.out).mono ?_; rintro e W2 ⟨rfl, hM⟩; clear HM; (try clear W1); rename World => W1; have HM := Lib.hid hM; clear hM))
  refine ⟨trivial, ?_⟩
  (try dsimp only)
  go_wp2_with (first | (go_at_call 64; refine (kblanks 2 3 2 3 true rfl rfl (by decide) (by decide +kernel) (by decide) HM.out).mono ?_; rintro e W2 ⟨rfl, hM⟩; clear HM; (try clear W1); rename World => W1; have HM := Lib.hid hM; clear hM))
  refine ⟨trivial, ?_⟩
  (try dsimp only)
  go_wp2_with (first | (go_at_call 64; refine (kblanks 2 3 2 3 true rfl rfl (by decide) (by decide +kernel) (by decide) HM.out).mono ?_; rintro e W2 ⟨rfl, hM⟩; clear HM; (try clear W1); rename World => W1; have HM := Lib.hid hM; clear hM))
  refine ⟨trivial, ?_⟩
  (try dsimp only)
  refine pre_end (HM.out.sub (.cons_cons _ (List.nil_sublist _))) ?_
  intro hNE
  have HS0 := Lib.hid (HM.out.sub (.cons_cons _ (List.nil_sublist _)))
  simp only [wpSteps, List.getElem?_cons_succ, List.getElem?_cons_zero]
  (repeat (first | ((with_reducible refine wpQuiet_nil ?_); (try dsimp only)) | ((with_reducible refine qgd ?_); (with_reducible refine skip_q ?_ ?_ ?_); (exact rfl); (rotate_left; (exact (hNE.elim fun p => ⟨p.W, p, rfl⟩)))) | refine mQ ?_ | ((with_reducible refine qload ?_); first | (refine qdb1 HS0.out 0 rfl rfl rfl ?_) | (refine qdbW HS0.out 0 rfl rfl rfl ?_) | (refine qdbS HS0.out 0 rfl rfl rfl ?_; simp only [List.take, List.drop])) | ((with_reducible refine qat 90 ?_); (refine qsix rfl rfl (i := 3) rfl hb3 ?_)) | go_big_quiet_step (fail) | quiet_step (fail)))
  go_wp2_with (first | ((with_reducible refine igd ?_); (with_reducible refine skip_op ?_ ?_); (exact rfl)) | (go_at_call 69; with_reducible refine cQ (kin _) ?_))
  refine ⟨⟨⟨_, HM.out.sub (by repeat (first | exact List.nil_sublist _ | with_reducible refine List.Sublist.cons_cons _ ?_ | refine List.Sublist.cons _ ?_))⟩, rfl⟩, ?_⟩
  (try dsimp only)
  (repeat (first | ((with_reducible refine wpQuiet_nil ?_); (try dsimp only)) | ((with_reducible refine qgd ?_); (with_reducible refine skip_q ?_ ?_ ?_); (exact rfl); (rotate_left; (exact (hNE.elim fun p => ⟨p.W, p, rfl⟩)))) | refine mQ ?_ | ((with_reducible refine qload ?_); first | (refine qdb1 HS0.out 0 rfl rfl rfl ?_) | (refine qdbW HS0.out 0 rfl rfl rfl ?_) | (refine qdbS HS0.out 0 rfl rfl rfl ?_; simp only [List.take, List.drop])) | ((with_reducible refine qat 90 ?_); (refine qsix rfl rfl (i := 3) rfl hb3 ?_)) | go_big_quiet_step (fail) | quiet_step (fail)))
  clear HS0 hNE
  go_wp2_with fail
  go_step3
  show jumpQ _ _ _ (5 + 1) (.goto _) _ _
  refine ⟨_, rfl, ?_⟩
  go_wp2_with (first | ((with_reducible refine skip_op ?_ ?_); exact rfl) | refine mP ?_ | (refine mS ?_; clear HM; intro W1 HM) | (refine mL ?_; clear HM; intro g1 W1 HM) | (refine hal HM rfl ?_; clear HM; intro g1 W1 HM))
  refine (kattr _ _ _ _ _ _ _ HT.out HE.out HM.out).mono ?_
  rintro e W2 ⟨rfl, hM⟩
  clear HM
  (try clear W1)
  have HM := Lib.hid hM
  clear hM
  go_wp2_with (first | ((with_reducible refine skip_op ?_ ?_); exact rfl) | refine mP ?_ | (refine mS ?_; clear HM; intro W1 HM) | (refine mL ?_; clear HM; intro g1 W1 HM) | (refine hal (dst := some 10) HM rfl ?_; clear HM; intro g10 W1 HM) | (refine hal HM rfl ?_; clear HM; intro g1 W1 HM))
  refine (madd_first _ _ _ _ _ _ _ _ _ _ _ (HM.out.sub (.cons _ (.refl _)))).mono ?_
  rintro e W2 ⟨rfl, pa, ca, hM⟩
  clear HM
  (try clear W1)
  have HM := Lib.hid hM
  clear hM
  go_wp2_with fail
  go_step3
  show jumpQ _ _ _ (4 + 1) (.goto _) _ _
  refine ⟨_, rfl, ?_⟩
  go_wp2_with (first | ((with_reducible refine skip_op ?_ ?_); exact rfl) | refine mP ?_ | (refine mS ?_; clear HM; intro W1 HM) | (refine mL ?_; clear HM; intro g1 W1 HM) | (refine hal HM rfl ?_; clear HM; intro g1 W1 HM))
  refine wp_region_pre [0, 1, 2] [(true, 3), (true, 4), (true, 5), (true, 6), (true, 7), (true, 8), (true, 9), (true, 10), (true, 11), (true, 12), (true, 13), (true, 14), (true, 15), (true, 16), (true, 17), (true, 18), (true, 19), (true, 20), (true, 21), (true, 22), (true, 23), (false, 24), (true, 25)] (by kernel_rfl) (by kernel_rfl) rfl (by kernel_rfl) (fun _ _ _ _ _ h => h) HM.out ?_
  intro W1 HM1; replace HM := Lib.hid HM1; clear HM1
  simp only [wpPre, List.getElem?_cons_succ, List.getElem?_cons_zero]
  go_wp2_with (first | (go_at_call 64; refine (kblanks 8 8 8 8 false rfl rfl (by decide) (by decide +kernel) (by decide) HM.out).mono ?_; rintro e W2 ⟨rfl, hM⟩; clear HM; (try clear W1); rename World => W1; have HM := Lib.hid hM; clear hM))
  refine ⟨trivial, ?_⟩
  (try dsimp only)
  go_wp2_with (first | (go_at_call 64; refine (kblanks 8 8 8 8 false rfl rfl (by decide) (by decide +kernel) (by decide) HM.out).mono ?_; rintro e W2 ⟨rfl, hM⟩; clear HM; (try clear W1); rename World => W1; have HM := Lib.hid hM; clear hM))
  refine ⟨trivial, ?_⟩
  (try dsimp only)
  go_wp2_with (first | (go_at_call 64; refine (kblanks 8 8 8 8 false rfl rfl (by decide) (by decide +kernel) (by decide) HM.out).mono ?_; rintro e W2 ⟨rfl, hM⟩; clear HM; (try clear W1); rename World => W1; have HM := Lib.hid hM; clear hM))
  refine ⟨trivial, ?_⟩
  (try dsimp only)
  refine pre_end (HM.out.sub (.cons_cons _ (List.nil_sublist _))) ?_
  intro hNE
  have HS0 := Lib.hid (HM.out.sub (.cons_cons _ (List.nil_sublist _)))
  simp only [wpSteps, List.getElem?_cons_succ, List.getElem?_cons_zero]
  (repeat (first | ((with_reducible refine wpQuiet_nil ?_); (try dsimp only)) | ((with_reducible refine qgd ?_); (with_reducible refine skip_q ?_ ?_ ?_); (exact rfl); (rotate_left; (exact (hNE.elim fun p => ⟨p.W, p, rfl⟩)))) | refine mQ ?_ | ((with_reducible refine qload ?_); first | (refine qdb1 HS0.out 0 rfl rfl rfl ?_) | (refine qdbW HS0.out 0 rfl rfl rfl ?_) | (refine qdbS HS0.out 0 rfl rfl rfl ?_; simp only [List.take, List.drop])) | go_big_quiet_step (fail) | quiet_step (fail)))
  go_wp2_with (first | ((with_reducible refine igd ?_); (with_reducible refine skip_op ?_ ?_); (exact rfl)) | fail)
  refine ⟨⟨⟨_, HM.out.sub (by repeat (first | exact List.nil_sublist _ | with_reducible refine List.Sublist.cons_cons _ ?_ | refine List.Sublist.cons _ ?_))⟩, rfl⟩, ?_⟩
  (try dsimp only)
  (repeat (first | ((with_reducible refine wpQuiet_nil ?_); (try dsimp only)) | ((with_reducible refine qgd ?_); (with_reducible refine skip_q ?_ ?_ ?_); (exact rfl); (rotate_left; (exact (hNE.elim fun p => ⟨p.W, p, rfl⟩)))) | refine mQ ?_ | ((with_reducible refine qload ?_); first | (refine qdb1 HS0.out 0 rfl rfl rfl ?_) | (refine qdbW HS0.out 0 rfl rfl rfl ?_) | (refine qdbS HS0.out 0 rfl rfl rfl ?_; simp only [List.take, List.drop])) | go_big_quiet_step (fail) | quiet_step (fail)))
  clear HS0 hNE
  go_wp2_with fail
  refine (knot ⟨#[62]⟩ 8 8 rfl (by decide) (by decide +kernel) HM.out).mono ?_
  rintro e W2 ⟨rfl, hM⟩
  clear HM
  (try clear W1)
  have HM := Lib.hid hM
  clear hM
  go_wp2_with fail
  refine (ktake ⟨#[47, 62]⟩ 8 10 8 10 rfl rfl (by decide) (by decide +kernel) (by decide) HM.out).mono ?_
  rintro e W2 ⟨rfl, hM⟩
  clear HM
  (try clear W1)
  have HM := Lib.hid hM
  clear hM
  go_wp2_with fail
  refine wp_region_mem3 13 [(0, 0), (0, 1), (0, 2), (0, 3), (0, 4), (0, 5), (0, 6), (0, 7), (0, 8), (2, 9), (2, 10), (1, 11), (1, 12), (3, 13)] (by kernel_rfl) (by kernel_rfl) rfl (by kernel_rfl) (fun _ _ _ _ _ h => h) HM.out _ (.cons_cons _ (.cons_cons _ (.cons_cons _ (.cons _ (List.nil_sublist _))))) ?_
  intro hNE W1 HM1; replace HM := Lib.hid HM1; clear HM1
  have HS0 := Lib.hid (HM.out.sub (.cons_cons _ (.cons_cons _ (.cons_cons _ (.cons _ (List.nil_sublist _))))))
  simp only [wpSteps3, List.getElem?_cons_succ, List.getElem?_cons_zero]
  (repeat (first | ((with_reducible refine wpQuiet_nil ?_); (try dsimp only)) | refine mQ ?_ | go_big_quiet_step (fail) | quiet_step (fail)))
  go_wp2_with (first | (refine bs2E rfl HM.out rfl rfl ?_; intro g1 W1 HM1; replace HM := Lib.hid HM1; clear HM1) | (refine mL ?_; clear HM; intro g1 W1 HM))
  refine ⟨⟨⟨_, HM.out.sub (by repeat (first | exact List.nil_sublist _ | with_reducible refine List.Sublist.cons_cons _ ?_ | refine List.Sublist.cons _ ?_))⟩, rfl⟩, ?_⟩
  (try dsimp only)
  go_wp2_with (first | (refine apb rfl HM.out 4 0 rfl rfl rfl rfl rfl rfl (by omega) (by omega) (by omega) ?_; intro p1 cap1 W1 HM1; replace HM := Lib.hid HM1; clear HM1; simp only [List.set] at HM))
  refine ⟨⟨⟨_, HM.out.sub (by repeat (first | exact List.nil_sublist _ | with_reducible refine List.Sublist.cons_cons _ ?_ | refine List.Sublist.cons _ ?_))⟩, rfl⟩, ?_⟩
  (try dsimp only)
  (repeat (first | ((with_reducible refine wpQuiet_nil ?_); (try dsimp only)) | refine mQ ?_ | go_big_quiet_step (fail) | quiet_step (fail)))
  go_wp2_with (first | (refine mS ?_; clear HM; intro W1 HM))
  refine ⟨trivial, ?_⟩
  (try dsimp only)
  clear HS0 hNE
  go_wp2_with fail
  go_step3
  show jumpQ _ _ _ (3 + 1) (.goto _) _ _
  refine ⟨_, rfl, ?_⟩
  go_wp2_with (first | ((with_reducible refine skip_op ?_ ?_); exact rfl) | refine mP ?_ | (refine mS ?_; clear HM; intro W1 HM) | (refine mL ?_; clear HM; intro g1 W1 HM) | (refine hal HM rfl ?_; clear HM; intro g1 W1 HM))
  simp only [Nat.zero_add, Nat.zero_mul, List.take_zero, List.nil_append] at HM
  refine wp_region_mem (by kernel_rfl) (by kernel_rfl) HM.out ?_; intro hNE; (repeat (any_goals (first | ((with_reducible refine qgd ?_); (with_reducible refine skip_q ?_ ?_ ?_); (exact rfl); (rotate_left; (exact (hNE.elim fun p => ⟨p.W, p, rfl⟩)))) | refine mQ ?_ | go_big_quiet_step (fail) | quiet_step (fail)))); clear hNE; refine wpQuiet_nil ?_; intro W1 HM1; replace HM := Lib.hid HM1; clear HM1
  go_wp2_with fail
  simp only [jumpQ]
  go_ret
  exact ⟨rfl, p1, cap1, pa, ca, (HM.out.sub (.cons _ (.cons_cons _ (.cons _ (.refl _))))).perm (List.Perm.cons _ (List.Perm.swap _ _ _))⟩
end Go.Proofs.YtanncakdlflopaaGreatDoor
