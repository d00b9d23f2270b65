/- CheckTests: for every input the law returns true, and each argument reads behind the call as it read before; the listed variables hold what the program lays. -/
import Derived.Test.YtpjcjgikfplgnaaDoorCards
import Derived.Test.YtpjcjgikfplgnaaDoorTie
import Derived.WalkKit
import Derived.ProofKit
import Derived.OpenShut
import Derived.ShutString
import Derived.ChangeOld
import Derived.Below
import Derived.LaidMore
import Derived.Deep.DeepHandedRow
import Derived.Deep.DeepWitnessRowRef
import Derived.Lib.LaidTab
import Derived.Stop.LaidErr
import Derived.Carry
import Derived.Lay
import Derived.Test.YtpjcjgikfplgnaaDoorCharsLaid
import Derived.Test.YtpjcjgikfplgnaaDoorCheckOpen
import Derived.Test.YtpjcjgikfplgnaaDoorCheckLawT
namespace Go.Proofs.YtpjcjgikfplgnaaDoor.checkTests
open Go.ChangeShapes Go.WideShapes Go.ChangeAt Go.RowKit
open Go.ChangeMaps (open_string shut_string)
set_option linter.unusedVariables false

theorem own : ownKnob Tryd.prog.godebug = none := by kernel_rfl
theorem laidOut : laidOutB Tryd.prog = true := by kernel_rfl

/-- The heap that the door's own run leaves meets the list. -/
theorem laid_met (os : Os) : laidMet Tryd.prog Rows.checkTestsUptoRow.laid ((((World.laidAll Tryd.prog os Rows.checkTestsUptoRow.laid))).forCall (fun _ _ => 0) ⟨#[], #[.slice none 0 0, .agg #[.int .i64 0, .int .i64 0], .slice none 0 0], []⟩).memory :=
  laidMet_of_run' 8 (by kernel_rfl) (by kernel_rfl)
theorem reads (os : Os) {H : Type} (enc : TypeId × Value → H) : ∃ places, DataW.whole enc Tryd.prog ((((World.laidAll Tryd.prog os Rows.checkTestsUptoRow.laid))).forCall (fun _ _ => 0) ⟨#[], #[.slice none 0 0, .agg #[.int .i64 0, .int .i64 0], .slice none 0 0], []⟩).memory Tryd.f5.params.toList Rows.checkTestsSpec.vars false #[(.slice none 0 0 : Value), (.agg #[.int .i64 0, .int .i64 0] : Value), (.slice none 0 0 : Value)].toList 8 = some ([.nil, .agg [.lit (.int .i64 0), .lit (.int .i64 0)], .nil], [], places) :=
  ⟨[], by kernel_rfl⟩

set_option maxRecDepth 100000 in
theorem contract (H : Type) (enc : TypeId × Value → H) (W : World) (base : Nat) (args : Array Value) (ds gs : List (DataW H)) (before : List MemPlace)
    (hval : ∀ (j : Nat) t v, Tryd.f5.params[j]? = some t → args[j]? = some v → Value.okWide Tryd.prog W .any base t v)
    (hW : DataW.Whole enc Tryd.prog Tryd.f5.params.toList Rows.checkTestsSpec.vars false W args.toList ds gs before) (hL : laidMetH Tryd.prog Rows.checkTestsUptoRow.laid W)
    (hsh : W.ShapedOpen Tryd.prog)
    (hcond : Rows.uptoSmall H (ds ++ gs) = true)
    (hsz : (DataW.weightsEach Tryd.prog (Tryd.f5.params.toList ++ (Rows.OpenSpec.upto Rows.checkTestsSpec).bare.plain.varTypes Tryd.prog) (ds ++ gs)).all (· ≤ reachBytes) = true)
    : Calls Tryd.prog 5 args W fun e W' => ∃ v, e = .returned v ∧ Rows.checkTestsSpec.post enc Tryd.prog Tryd.f5 false true false false W args v W' := by
  have hW' := hW
  obtain ⟨p, q, hA0, hV, rfl, hfz, hnd⟩ := hW
  have hA : DataW.TrodAll enc Tryd.prog W 0 (fun _ => true) true Tryd.f5.params.toList args.toList ds p := hA0
  rw [Tryd.params5] at hA hval
  obtain ⟨v0, vs0, d0, ds0, p0, q0, hargs, rfl, rfl, h0, r0⟩ := trodAll_cons hA
  obtain ⟨v1, vs1, d1, ds1, p1, q1, rfl, rfl, rfl, h1, r1⟩ := trodAll_cons r0
  obtain ⟨v2, vs2, d2, ds2, p2, q2, rfl, rfl, rfl, h2, r2⟩ := trodAll_cons r1
  obtain ⟨rfl, rfl, rfl⟩ := trodAll_nil r2
  obtain rfl : args = #[v0, v1, v2] := by cases args; simp_all
  obtain ⟨rfl, rfl⟩ := trodVars_none hV
  have hbk := of_decide_eq_true hcond
  simp only [Rows.uptoBulkAll, List.cons_append, List.nil_append] at hbk
  obtain ⟨n0, c0, l0, rfl, S0, f0, z0⟩ := open_nodes (hval 0 31 v0 rfl rfl) h0 (by omega)
  obtain ⟨k1, o1, rfl⟩ := open_type (hval 1 25 v1 rfl rfl) h1
  obtain ⟨n2, c2, l2, rfl, S2, z2⟩ := open_syms (hval 2 32 v2 rfl rfl) h2 (by omega)
  have hL2 : laidMet Tryd.prog Rows.checkTestsUptoRow.laid W := by rw [← MakeChecks.laidMetH_plain _ _ _ (by kernel_rfl)]; exact hL
  have hT := u8_laid hL2
  refine (checkTests_walk n0 c0 l0 k1 o1 n2 c2 l2 W S0 f0 z0 S2 z2 hT).mono fun e W' ⟨he, bel⟩ => ?_
  subst he
  exact ⟨_, rfl, _, _, _, [], _, [], hW', trodAll_mk1 (shut_bool Tryd.underlying4 _), (trodAll_cons_mk (Below.trod laidOut (by kernel_rfl) (of_decide_eq_true (by kernel_rfl)) h0 bel (fun x hx => hW'.lt x (by simp [hx]))) (trodAll_cons_mk (Below.trod laidOut (by kernel_rfl) (of_decide_eq_true (by kernel_rfl)) h1 bel (fun x hx => hW'.lt x (by simp [hx]))) (trodAll_cons_mk (Below.trod laidOut (by kernel_rfl) (of_decide_eq_true (by kernel_rfl)) h2 bel (fun x hx => hW'.lt x (by simp [hx]))) trodAll_mk0))), rfl, bel.frame _, fun h => by cases h⟩

set_option maxRecDepth 100000 in
theorem lifted (os : Os) (started : os.Started) (H : Type) (enc : TypeId × Value → H) (F : Stop.Interp) :
    ReturnsInHanded {} Tryd.checked os 5 .any ((Rows.OpenSpec.upto Rows.checkTestsSpec).preRow enc Tryd.prog Tryd.f5 Rows.checkTestsUptoRow.domain false Rows.checkTestsUptoRow.laid) (((Rows.OpenSpec.upto Rows.checkTestsSpec).at F).post enc Tryd.prog Tryd.f5 false true false false) := by
  obtain ⟨places, hx⟩ := reads os enc
  refine returnsInHanded_of_row (C := Tryd.checked) (s := Rows.OpenSpec.upto Rows.checkTestsSpec) own started (by kernel_rfl) Tryd.func5
    (witness_row_atRef (enc := enc) (C := Tryd.checked) false ((World.laidAll Tryd.prog os Rows.checkTestsUptoRow.laid)) #[.slice none 0 0, .agg #[.int .i64 0, .int .i64 0], .slice none 0 0] (World.laidAll_os _ _ _) (by kernel_rfl) (by kernel_rfl) (by kernel_rfl)
      (OpenSpec.preRow_of_cond 8 hx (by kernel_rfl) (fun k hk => by cases hk; kernel_rfl) (by kernel_rfl) (laid_met os))) ?_
  intro W base args ds gs before hval hW hdom hcond hsz hL hsh hx2
  exact contract H enc W base args ds gs before hval hW hL hsh (hcond _ rfl) hsz

theorem said : Rows.CheckTestsUptoSaid :=
  OpenClaim.holds_of_cond 5 Tryd.f5 rfl rfl rfl rfl rfl rfl rfl ⟨rfl, rfl, rfl, rfl, rfl⟩ rfl rfl rfl rfl rfl (by kernel_rfl) Tryd.func5 (by kernel_rfl)
    (of_decide_eq_true (by kernel_rfl)) (by unfold Func.isWrapper; rw [if_neg (of_decide_eq_false (by kernel_rfl))]; exact ⟨rfl, rfl⟩)
    (fun os started H enc _ F => by rw [OpenClaim.pre_eq_preRow]; exact lifted os started H enc F)

theorem plain (f : FuncId) (fn : Func) (hf : Tryd.pinned.checked.prog.funcNamed "tariff/tarifflaw13.CheckTests" = some f) (hfn : Tryd.pinned.checked.prog.funcs[f]? = some fn) :
    false = Tryd.pinned.checked.prog.looks [] ∧ ∀ (j : Nat) t, fn.params[j]? = some t → Tryd.pinned.checked.prog.wantsStandIn t = false := by
  obtain rfl : f = 5 := Option.some.inj ((show Tryd.prog.funcNamed "tariff/tarifflaw13.CheckTests" = some 5 by kernel_rfl).symm.trans hf) |>.symm
  obtain rfl : fn = Tryd.f5 := (Option.some.inj (Tryd.func5.symm.trans hfn)).symm
  refine ⟨by kernel_rfl, fun j t ht => ?_⟩
  rw [Tryd.params5] at ht
  have hm : t ∈ [31, 25, 32] := by simpa using Array.mem_of_getElem? ht
  have hall : ([31, 25, 32].all fun u => !Tryd.prog.wantsStandIn u) = true := by kernel_rfl
  exact (show Tryd.prog.wantsStandIn t = false by simpa using List.all_eq_true.1 hall t hm)

/-- THE CARD. -/
theorem card : Rows.CheckTestsUptoCardSaid :=
  Claim7.holds_tied_plain_at .later [] _ _ _ _ said (fun _ h => by cases h) (by kernel_rfl) (fun _ h => by cases h) checkTestsUpto_row_tie rfl ⟨rfl, rfl⟩ (by kernel_rfl) rfl plain (by kernel_rfl)
#print axioms card
end Go.Proofs.YtpjcjgikfplgnaaDoor.checkTests
