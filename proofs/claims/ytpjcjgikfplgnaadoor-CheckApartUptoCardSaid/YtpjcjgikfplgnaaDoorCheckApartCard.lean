/- CheckApart: for every input the law returns true, and each argument reads behind the call as it read before; the listed variables hold what the program lays. -/
import Derived.Test.YtpjcjgikfplgnaaDoorCards
import Derived.Test.YtpjcjgikfplgnaaDoorTie
import Derived.WalkKit
import Derived.ProofKit
import Derived.OpenShut
import Derived.ShutString
import Derived.ChangeOld
import Derived.Below
import Derived.LaidMore
import Derived.Deep.DeepHandedRow
import Derived.Deep.DeepWitnessRowRef
import Derived.Lib.LaidTab
import Derived.Stop.LaidErr
import Derived.Carry
import Derived.Lay
import Derived.Test.YtpjcjgikfplgnaaDoorCharsLaid
import Derived.Test.YtpjcjgikfplgnaaDoorCheckOpen
import Derived.Test.YtpjcjgikfplgnaaDoorCheckApart
namespace Go.Proofs.YtpjcjgikfplgnaaDoor.checkApart
open Go.ChangeShapes Go.WideShapes Go.ChangeAt Go.RowKit
open Go.ChangeMaps (open_string shut_string)
set_option linter.unusedVariables false

theorem own : ownKnob Tryd.prog.godebug = none := by kernel_rfl
theorem laidOut : laidOutB Tryd.prog = true := by kernel_rfl

/-- The heap that the door's own run leaves meets the list. -/
theorem laid_met (os : Os) : laidMet Tryd.prog Rows.checkApartUptoRow.laid ((((World.laidAll Tryd.prog os Rows.checkApartUptoRow.laid))).forCall (fun _ _ => 0) ⟨#[], #[.slice none 0 0, .slice none 0 0, .string ⟨#[]⟩], []⟩).memory :=
  laidMet_of_run' 8 (by kernel_rfl) (by kernel_rfl)
theorem reads (os : Os) {H : Type} (enc : TypeId × Value → H) : ∃ places, DataW.whole enc Tryd.prog ((((World.laidAll Tryd.prog os Rows.checkApartUptoRow.laid))).forCall (fun _ _ => 0) ⟨#[], #[.slice none 0 0, .slice none 0 0, .string ⟨#[]⟩], []⟩).memory Tryd.f6.params.toList Rows.checkApartSpec.vars false #[(.slice none 0 0 : Value), (.slice none 0 0 : Value), (.string ⟨#[]⟩ : Value)].toList 8 = some ([.nil, .nil, .lit (.string [])], [], places) :=
  ⟨[], by kernel_rfl⟩

set_option maxRecDepth 100000 in
theorem contract (H : Type) (enc : TypeId × Value → H) (W : World) (base : Nat) (args : Array Value) (ds gs : List (DataW H)) (before : List MemPlace)
    (hval : ∀ (j : Nat) t v, Tryd.f6.params[j]? = some t → args[j]? = some v → Value.okWide Tryd.prog W .any base t v)
    (hW : DataW.Whole enc Tryd.prog Tryd.f6.params.toList Rows.checkApartSpec.vars false W args.toList ds gs before) (hL : laidMetH Tryd.prog Rows.checkApartUptoRow.laid W)
    (hsh : W.ShapedOpen Tryd.prog)
    (hcond : Rows.uptoSmall H (ds ++ gs) = true)
    (hsz : (DataW.weightsEach Tryd.prog (Tryd.f6.params.toList ++ (Rows.OpenSpec.upto Rows.checkApartSpec).bare.plain.varTypes Tryd.prog) (ds ++ gs)).all (· ≤ reachBytes) = true)
    : Calls Tryd.prog 6 args W fun e W' => ∃ v, e = .returned v ∧ Rows.checkApartSpec.post enc Tryd.prog Tryd.f6 false true false false W args v W' := by
  have hW' := hW
  obtain ⟨p, q, hA0, hV, rfl, hfz, hnd⟩ := hW
  have hA : DataW.TrodAll enc Tryd.prog W 0 (fun _ => true) true Tryd.f6.params.toList args.toList ds p := hA0
  rw [Tryd.params6] at hA hval
  obtain ⟨v0, vs0, d0, ds0, p0, q0, hargs, rfl, rfl, h0, r0⟩ := trodAll_cons hA
  obtain ⟨v1, vs1, d1, ds1, p1, q1, rfl, rfl, rfl, h1, r1⟩ := trodAll_cons r0
  obtain ⟨v2, vs2, d2, ds2, p2, q2, rfl, rfl, rfl, h2, r2⟩ := trodAll_cons r1
  obtain ⟨rfl, rfl, rfl⟩ := trodAll_nil r2
  obtain rfl : args = #[v0, v1, v2] := by cases args; simp_all
  obtain ⟨rfl, rfl⟩ := trodVars_none hV
  have hbk := of_decide_eq_true hcond
  simp only [Rows.uptoBulkAll, List.cons_append, List.nil_append] at hbk
  obtain ⟨n0, c0, l0, rfl, S0, f0, z0⟩ := open_nodes (hval 0 31 v0 rfl rfl) h0 (by omega)
  obtain ⟨n1, c1, l1, rfl, S1, z1⟩ := open_syms (hval 1 32 v1 rfl rfl) h1 (by omega)
  obtain ⟨a2, rfl, rfl, rfl, ws2⟩ := open_string Tryd.underlying9 (hval 2 9 v2 rfl rfl) h2
  have hL2 : laidMet Tryd.prog Rows.checkApartUptoRow.laid W := by rw [← MakeChecks.laidMetH_plain _ _ _ (by kernel_rfl)]; exact hL
  have hT := u8_laid hL2
  refine (checkApart_walk n0 c0 l0 n1 c1 l1 a2 W S0 f0 z0 S1 z1 hT).mono fun e W' ⟨he, bel⟩ => ?_
  subst he
  exact ⟨_, rfl, _, _, _, [], _, [], hW', trodAll_mk1 (shut_bool Tryd.underlying4 _), (trodAll_cons_mk (Below.trod laidOut (by kernel_rfl) (of_decide_eq_true (by kernel_rfl)) h0 bel (fun x hx => hW'.lt x (by simp [hx]))) (trodAll_cons_mk (Below.trod laidOut (by kernel_rfl) (of_decide_eq_true (by kernel_rfl)) h1 bel (fun x hx => hW'.lt x (by simp [hx]))) (trodAll_cons_mk (shut_string Tryd.underlying9 ws2) trodAll_mk0))), rfl, bel.frame _, fun h => by cases h⟩

set_option maxRecDepth 100000 in
theorem lifted (os : Os) (started : os.Started) (H : Type) (enc : TypeId × Value → H) (F : Stop.Interp) :
    ReturnsInHanded {} Tryd.checked os 6 .any ((Rows.OpenSpec.upto Rows.checkApartSpec).preRow enc Tryd.prog Tryd.f6 Rows.checkApartUptoRow.domain false Rows.checkApartUptoRow.laid) (((Rows.OpenSpec.upto Rows.checkApartSpec).at F).post enc Tryd.prog Tryd.f6 false true false false) := by
  obtain ⟨places, hx⟩ := reads os enc
  refine returnsInHanded_of_row (C := Tryd.checked) (s := Rows.OpenSpec.upto Rows.checkApartSpec) own started (by kernel_rfl) Tryd.func6
    (witness_row_atRef (enc := enc) (C := Tryd.checked) false ((World.laidAll Tryd.prog os Rows.checkApartUptoRow.laid)) #[.slice none 0 0, .slice none 0 0, .string ⟨#[]⟩] (World.laidAll_os _ _ _) (by kernel_rfl) (by kernel_rfl) (by kernel_rfl)
      (OpenSpec.preRow_of_cond 8 hx (by kernel_rfl) (fun k hk => by cases hk; kernel_rfl) (by kernel_rfl) (laid_met os))) ?_
  intro W base args ds gs before hval hW hdom hcond hsz hL hsh hx2
  exact contract H enc W base args ds gs before hval hW hL hsh (hcond _ rfl) hsz

theorem said : Rows.CheckApartUptoSaid :=
  OpenClaim.holds_of_cond 6 Tryd.f6 rfl rfl rfl rfl rfl rfl rfl ⟨rfl, rfl, rfl, rfl, rfl⟩ rfl rfl rfl rfl rfl (by kernel_rfl) Tryd.func6 (by kernel_rfl)
    (of_decide_eq_true (by kernel_rfl)) (by unfold Func.isWrapper; rw [if_neg (of_decide_eq_false (by kernel_rfl))]; exact ⟨rfl, rfl⟩)
    (fun os started H enc _ F => by rw [OpenClaim.pre_eq_preRow]; exact lifted os started H enc F)

theorem plain (f : FuncId) (fn : Func) (hf : Tryd.pinned.checked.prog.funcNamed "tariff/tarifflaw13.CheckApart" = some f) (hfn : Tryd.pinned.checked.prog.funcs[f]? = some fn) :
    false = Tryd.pinned.checked.prog.looks [] ∧ ∀ (j : Nat) t, fn.params[j]? = some t → Tryd.pinned.checked.prog.wantsStandIn t = false := by
  obtain rfl : f = 6 := Option.some.inj ((show Tryd.prog.funcNamed "tariff/tarifflaw13.CheckApart" = some 6 by kernel_rfl).symm.trans hf) |>.symm
  obtain rfl : fn = Tryd.f6 := (Option.some.inj (Tryd.func6.symm.trans hfn)).symm
  refine ⟨by kernel_rfl, fun j t ht => ?_⟩
  rw [Tryd.params6] at ht
  have hm : t ∈ [31, 32, 9] := by simpa using Array.mem_of_getElem? ht
  have hall : ([31, 32, 9].all fun u => !Tryd.prog.wantsStandIn u) = true := by kernel_rfl
  exact (show Tryd.prog.wantsStandIn t = false by simpa using List.all_eq_true.1 hall t hm)

/-- THE CARD. -/
theorem card : Rows.CheckApartUptoCardSaid :=
  Claim7.holds_tied_plain_at .later [] _ _ _ _ said (fun _ h => by cases h) (by kernel_rfl) (fun _ h => by cases h) checkApartUpto_row_tie rfl ⟨rfl, rfl⟩ (by kernel_rfl) rfl plain (by kernel_rfl)
#print axioms card
end Go.Proofs.YtpjcjgikfplgnaaDoor.checkApart
