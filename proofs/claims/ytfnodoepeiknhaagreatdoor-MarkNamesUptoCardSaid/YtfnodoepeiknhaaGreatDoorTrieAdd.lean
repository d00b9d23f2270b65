/- The trie of strings.NewReplacer for keys of two bytes: add. (short) -/
import Derived.Test.YtfnodoepeiknhaaGreatDoorReplGen
import Derived.Test.YtfnodoepeiknhaaGreatDoorTypes
import Derived.Test.YtfnodoepeiknhaaGreatDoorSepA
import Derived.Test.YtfnodoepeiknhaaGreatDoorSepIdx
namespace Go.Proofs.YtfnodoepeiknhaaGreatDoor
open Go.RowKit
set_option linter.unusedVariables false
set_option linter.unusedSimpArgs false
set_option maxRecDepth 100000

instance : ArrT Tryz.prog 121 5 256 := ⟨by kernel_rfl, by kernel_rfl⟩
/-- A node's five cells. -/
abbrev trN (v : ByteArray) (pr : Int) (pf : ByteArray) (nx : Option Addr) (tb : Value) : List Value := [.string v, .int .i64 pr, .string pf, .pointer nx, tb]

set_option maxHeartbeats 4000000 in
theorem add_leaf (n : Nat) (v val pf : ByteArray) (pr : Int) (nx : Option Addr) (tb rp : Value) (w0 W : World) (L : List Res) (h : Mem w0 W (.box n 175 (trN v 0 pf nx tb) :: L)) :
    Calls Tryz.prog 124 #[.pointer (some ⟨n, 0, none⟩), .string ⟨#[]⟩, .string val, .int .i64 pr, rp] W fun e W' => e = .returned (.tuple #[]) ∧ Mem w0 W' (.box n 175 (trN val pr pf nx tb) :: L) := by
  have HM := Lib.hid h
  clear h
  go_enter Tryz.func124, Tryz.ntmps124
  go_wp2_with (first | ((with_reducible refine skip_op ?_ ?_); exact rfl) | refine mP ?_ | (refine mS ?_; clear HM; intro W1 HM) | (refine hal HM rfl ?_; clear HM; intro g1 W1 HM) | (refine mB ?_; clear HM; intro g1 W1 HM))
  refine bodyPost_ret (results_none rfl _ _ _) rfl ?_
  exact ⟨rfl, HM.out⟩

set_option maxHeartbeats 4000000 in
theorem add_new (n : Nat) (v key val : ByteArray) (hk : (key.toList == []) = false) (pv pr : Int) (rp : Value) (w0 W : World) (L : List Res) (h : Mem w0 W (.box n 175 (trN v pv ⟨#[]⟩ none (.slice none 0 0)) :: L)) :
    Calls Tryz.prog 124 #[.pointer (some ⟨n, 0, none⟩), .string key, .string val, .int .i64 pr, rp] W fun e W' => e = .returned (.tuple #[]) ∧ ∃ m, Mem w0 W' (.box m 175 (trN val pr ⟨#[]⟩ none (.slice none 0 0)) :: .box n 175 (trN v pv key (some ⟨m, 0, none⟩) (.slice none 0 0)) :: L) := by
  have HM := Lib.hid h
  clear h
  go_enter Tryz.func124, Tryz.ntmps124
  go_wp2_with (first | ((with_reducible refine skip_op ?_ ?_); exact rfl) | refine mP ?_ | (refine mS ?_; clear HM; intro W1 HM) | (refine hal (dst := some 230) HM rfl ?_; clear HM; intro g230 W1 HM) | (refine hal HM rfl ?_; clear HM; intro g1 W1 HM) | (refine mB ?_; clear HM; intro g1 W1 HM) | (go_at_call 124; (with_reducible refine (add_leaf _ _ _ _ _ _ _ _ _ _ _ HM.out).mono ?_); rintro e W2 ⟨rfl, hM2⟩; clear HM; (try clear W1); rename World => W1; have HM := Lib.hid hM2; clear hM2))
  go_end0
  exact ⟨rfl, _, HM.out⟩

theorem flt_true (a : Addr) (w : World) : (binOp .eql 172 (.pointer (some a)) (.pointer none)).run Tryz.prog w = .ok (.bool false) w := by kernel_rfl

theorem nl_ne : ((⟨#[10]⟩ : ByteArray).toList == []) = false := by first | decide +kernel | simp [ByteArray.toList, ByteArray.toList.loop]

/-- The root: cells 0 to 5, and the mapping behind. -/
abbrev rtC (T : Nat) (M : List Value) : List Value := .string ⟨#[]⟩ :: .int .i64 0 :: .string ⟨#[]⟩ :: .pointer none :: .slice (some ⟨T, 0, none⟩) 2 2 :: .int .i64 2 :: M

theorem map13 {B : Nat} {W : World} {R T : Nat} {M : List Value} (h : (Res.box R 177 (rtC T M)).holds B W) {i : Nat} {v : Value} (hm : M[i]? = some v) : W.cell? ⟨R, 6 + i, none⟩ = some v := by
  rw [cell_of_row _ _ _ _ _ _ h.2]
  have : (rtC T M)[6 + i]? = some v := by rw [Nat.add_comm]; exact hm
  simpa using this

set_option maxHeartbeats 4000000 in
theorem add_first (R T : Nat) (M : List Value) (val : ByteArray) (hm : M[13]? = some (.int .u8 1)) (pr : Int) (c0 : Value) (w0 W : World) (L : List Res) (h : Mem w0 W (.row (some ⟨T, 0, none⟩) 2 172 1 2 [c0, .pointer none] :: .box R 177 (rtC T M) :: L)) :
    Calls Tryz.prog 124 #[.pointer (some ⟨R, 0, none⟩), .string ⟨#[13, 10]⟩, .string val, .int .i64 pr, .pointer (some ⟨R, 0, none⟩)] W fun e W' => e = .returned (.tuple #[]) ∧ ∃ n m, Mem w0 W' (.box m 175 (trN val pr ⟨#[]⟩ none (.slice none 0 0)) :: .box n 175 (trN ⟨#[]⟩ 0 ⟨#[10]⟩ (some ⟨m, 0, none⟩) (.slice none 0 0)) :: .row (some ⟨T, 0, none⟩) 2 172 1 2 [c0, .pointer (some ⟨n, 0, none⟩)] :: .box R 177 (rtC T M) :: L) := by
  have HM := Lib.hid h
  have HMp := Lib.hid hm
  clear h hm
  go_enter Tryz.func124, Tryz.ntmps124
  go_wp2_with (first | ((with_reducible refine skip_op ?_ ?_); exact rfl) | refine mP ?_ | (refine mS ?_; clear HM; intro W1 HM) | (refine hal (dst := some 230) HM rfl ?_; clear HM; intro g230 W1 HM) | (refine hal HM rfl ?_; clear HM; intro g1 W1 HM) | (refine mB ?_; clear HM; intro g1 W1 HM))
  refine wp_region_mem (by kernel_rfl) (by kernel_rfl) HM.out ?_; intro hNE; (repeat (any_goals (first | ((with_reducible refine qgd ?_); (with_reducible refine skip_q ?_ ?_ ?_); (exact rfl); (rotate_left; (exact (hNE.elim fun p => ⟨p.W, p, rfl⟩)))) | refine mQ ?_ | ((with_reducible refine qat 195 ?_); (refine qiaa (i := 13) rfl rfl rfl (by decide) ?_)) | ((with_reducible refine qat 196 ?_); (refine qd1 (v := .int .u8 1) rfl (fun W ⟨q, hq⟩ => hq ▸ map13 (q.mem.get (k := 1) rfl) HMp.out) ?_)) | go_big_quiet_step (fail) | quiet_step (fail)))); clear hNE; refine wpQuiet_nil ?_; intro W1 HM1; replace HM := Lib.hid HM1; clear HM1
  go_wp2_with (first | ((with_reducible refine iat 202 ?_); (refine ixk (i := 1) rfl rfl rfl (by decide) ?_)) | ((with_reducible refine iat 203 ?_); (refine ldx1 (v := .pointer none) (row_cell (HM.out.get (k := 0) rfl) rfl) rfl ?_)) | ((with_reducible refine iat 211 ?_); (refine ixk (i := 1) rfl rfl rfl (by decide) ?_)) | ((with_reducible refine istore ?_); refine strw (b := ⟨T, 0, none⟩) (v := .pointer (some ⟨g210, 0, none⟩)) (i := 1) rfl HM.out 1 rfl rfl rfl rfl (Nat.lt_succ_self 1) ?_; intro W1 HM1; replace HM := Lib.hid HM1; clear HM1; simp only [List.set] at HM) | ((with_reducible refine skip_op ?_ ?_); exact rfl) | refine mP ?_ | (refine mS ?_; clear HM; intro W1 HM) | (refine hal (dst := some 210) HM rfl ?_; clear HM; intro g210 W1 HM) | (refine hal HM rfl ?_; clear HM; intro g1 W1 HM) | (refine mB ?_; clear HM; intro g1 W1 HM))
  refine wp_region_steps2 [(true, 0), (true, 1), (true, 2), (true, 3), (true, 4), (true, 5), (true, 6), (true, 7), (true, 8), (true, 9), (true, 10), (true, 11), (false, 12)] (by kernel_rfl) (by kernel_rfl) rfl (by kernel_rfl) (fun _ _ _ _ _ h => h) HM.out _ (.cons _ (.cons_cons _ (.cons_cons _ (List.nil_sublist _)))) ?_
  intro hNE W1 HM1; replace HM := Lib.hid HM1; clear HM1
  have HS0 := Lib.hid (HM.out.sub (.cons _ (.cons_cons _ (.cons_cons _ (List.nil_sublist _)))))
  simp only [wpSteps, List.getElem?_cons_succ, List.getElem?_cons_zero]
  (repeat (first | ((with_reducible refine wpQuiet_nil ?_); (try dsimp only)) | refine mQ ?_ | ((with_reducible refine qat 217 ?_); (refine qixk (i := 1) rfl rfl rfl (by decide) ?_)) | ((with_reducible refine qat 218 ?_); (refine qd1 (v := .pointer (some ⟨g210, 0, none⟩)) rfl (fun W ⟨q, hq⟩ => hq ▸ row_cell (q.mem.get (k := 0) rfl) rfl) ?_)) | go_big_quiet_step (fail) | quiet_step (fail)))
  go_wp2_with (first | (go_at_call 124; (refine (add_new g210 ⟨#[]⟩ ⟨#[10]⟩ val nl_ne 0 pr (.pointer (some ⟨R, 0, none⟩)) w0 _ _ HM.out).mono ?_); rintro e W2 ⟨rfl, m, hM2⟩; clear HM; (try clear W1); rename World => W1; have HM := Lib.hid hM2; clear hM2))
  refine ⟨⟨⟨_, HM.out.sub (by repeat (first | exact List.nil_sublist _ | with_reducible refine List.Sublist.cons_cons _ ?_ | refine List.Sublist.cons _ ?_))⟩, rfl⟩, ?_⟩
  (try dsimp only)
  clear HS0 hNE
  go_wp2_with fail
  go_end0
  exact ⟨rfl, _, _, HM.out⟩

set_option maxHeartbeats 4000000 in
theorem add_second (R T n : Nat) (M : List Value) (v val pf : ByteArray) (nx : Option Addr) (tb : Value) (hm : M[13]? = some (.int .u8 1)) (pr : Int) (c0 : Value) (w0 W : World) (L : List Res) (h : Mem w0 W (.box n 175 (trN v 0 pf nx tb) :: .row (some ⟨T, 0, none⟩) 2 172 1 2 [c0, .pointer (some ⟨n, 0, none⟩)] :: .box R 177 (rtC T M) :: L)) :
    Calls Tryz.prog 124 #[.pointer (some ⟨R, 0, none⟩), .string ⟨#[13]⟩, .string val, .int .i64 pr, .pointer (some ⟨R, 0, none⟩)] W fun e W' => e = .returned (.tuple #[]) ∧ Mem w0 W' (.box n 175 (trN val pr pf nx tb) :: .row (some ⟨T, 0, none⟩) 2 172 1 2 [c0, .pointer (some ⟨n, 0, none⟩)] :: .box R 177 (rtC T M) :: L) := by
  have HM := Lib.hid h
  have HMp := Lib.hid hm
  have hne := fun W => flt_true ⟨n, 0, none⟩ W
  clear h hm
  go_enter Tryz.func124, Tryz.ntmps124
  go_wp2_with (first | ((with_reducible refine skip_op ?_ ?_); exact rfl) | refine mP ?_ | (refine mS ?_; clear HM; intro W1 HM) | (refine hal (dst := some 230) HM rfl ?_; clear HM; intro g230 W1 HM) | (refine hal HM rfl ?_; clear HM; intro g1 W1 HM) | (refine mB ?_; clear HM; intro g1 W1 HM))
  refine wp_region_mem (by kernel_rfl) (by kernel_rfl) HM.out ?_; intro hNE; (repeat (any_goals (first | ((with_reducible refine qgd ?_); (with_reducible refine skip_q ?_ ?_ ?_); (exact rfl); (rotate_left; (exact (hNE.elim fun p => ⟨p.W, p, rfl⟩)))) | refine mQ ?_ | ((with_reducible refine qat 195 ?_); (refine qiaa (i := 13) rfl rfl rfl (by decide) ?_)) | ((with_reducible refine qat 196 ?_); (refine qd1 (v := .int .u8 1) rfl (fun W ⟨q, hq⟩ => hq ▸ map13 (q.mem.get (k := 2) rfl) HMp.out) ?_)) | go_big_quiet_step (fail) | quiet_step (fail)))); clear hNE; refine wpQuiet_nil ?_; intro W1 HM1; replace HM := Lib.hid HM1; clear HM1
  go_wp2_with (first | ((with_reducible refine iat 202 ?_); (refine ixk (i := 1) rfl rfl rfl (by decide) ?_)) | ((with_reducible refine iat 203 ?_); (refine ldx1 (v := .pointer (some ⟨n, 0, none⟩)) (row_cell (HM.out.get (k := 1) rfl) rfl) rfl ?_)) | ((with_reducible refine skip_op ?_ ?_); exact rfl) | refine mP ?_ | (refine mS ?_; clear HM; intro W1 HM) | (refine hal (dst := some 210) HM rfl ?_; clear HM; intro g210 W1 HM) | (refine hal HM rfl ?_; clear HM; intro g1 W1 HM) | (refine mB ?_; clear HM; intro g1 W1 HM))
  refine wp_region_steps2 [(true, 0), (true, 1), (true, 2), (true, 3), (true, 4), (true, 5), (true, 6), (true, 7), (true, 8), (true, 9), (true, 10), (true, 11), (false, 12)] (by kernel_rfl) (by kernel_rfl) rfl (by kernel_rfl) (fun _ _ _ _ _ h => h) HM.out _ (.cons _ (.cons_cons _ (.cons_cons _ (List.nil_sublist _)))) ?_
  intro hNE W1 HM1; replace HM := Lib.hid HM1; clear HM1
  have HS0 := Lib.hid (HM.out.sub (.cons _ (.cons_cons _ (.cons_cons _ (List.nil_sublist _)))))
  simp only [wpSteps, List.getElem?_cons_succ, List.getElem?_cons_zero]
  (repeat (first | ((with_reducible refine wpQuiet_nil ?_); (try dsimp only)) | refine mQ ?_ | ((with_reducible refine qat 217 ?_); (refine qixk (i := 1) rfl rfl rfl (by decide) ?_)) | ((with_reducible refine qat 218 ?_); (refine qd1 (v := .pointer (some ⟨n, 0, none⟩)) rfl (fun W ⟨q, hq⟩ => hq ▸ row_cell (q.mem.get (k := 0) rfl) rfl) ?_)) | go_big_quiet_step (fail) | quiet_step (fail)))
  go_wp2_with (first | (go_at_call 124; (refine (add_leaf n v val pf pr nx tb (.pointer (some ⟨R, 0, none⟩)) w0 _ _ HM.out).mono ?_); rintro e W2 ⟨rfl, hM2⟩; clear HM; (try clear W1); rename World => W1; have HM := Lib.hid hM2; clear hM2))
  refine ⟨⟨⟨_, HM.out.sub (by repeat (first | exact List.nil_sublist _ | with_reducible refine List.Sublist.cons_cons _ ?_ | refine List.Sublist.cons _ ?_))⟩, rfl⟩, ?_⟩
  (try dsimp only)
  clear HS0 hNE
  go_wp2_with fail
  go_end0
  exact ⟨rfl, HM.out⟩
end Go.Proofs.YtfnodoepeiknhaaGreatDoor
