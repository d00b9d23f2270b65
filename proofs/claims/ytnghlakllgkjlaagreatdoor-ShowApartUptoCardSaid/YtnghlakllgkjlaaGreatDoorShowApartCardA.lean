/- (The walk lifted.) ShowApart: for every input the law returns true, and each argument reads behind the call as it read before; the listed variables hold what the program lays. -/
import Derived.Test.YtnghlakllgkjlaaGreatDoorCards
import Derived.Test.YtnghlakllgkjlaaGreatDoorTie
import Derived.WalkKit
import Derived.ProofKit
import Derived.OpenShut
import Derived.ShutString
import Derived.ChangeOld
import Derived.Below
import Derived.LaidMore
import Derived.Deep.DeepHandedRow
import Derived.Deep.DeepWitnessRowRef
import Derived.Lib.LaidTab
import Derived.Stop.LaidErr
import Derived.Carry
import Derived.Lay
import Derived.Test.YtnghlakllgkjlaaGreatDoorLexLaid
import Derived.Test.YtnghlakllgkjlaaGreatDoorDateLaid
import Derived.Test.YtnghlakllgkjlaaGreatDoorNodeOpen
import Derived.Test.YtnghlakllgkjlaaGreatDoorShowZ
namespace Go.Proofs.YtnghlakllgkjlaaGreatDoor.showApart
open Go.ChangeShapes Go.WideShapes Go.ChangeAt Go.RowKit
open Go.ChangeMaps (open_string shut_string)
set_option linter.unusedVariables false
theorem own:ownKnob Tryz.prog.godebug=none:=by kernel_rfl
theorem laidOut:laidOutB Tryz.prog=true:=by kernel_rfl
theorem laid_met (os:Os):laidMet Tryz.prog Rows.showApartUptoRow.laid (((World.laidAll Tryz.prog os Rows.showApartUptoRow.laid)).forCall (fun _ _=>0) ⟨#[],#[.slice none 0 0,.bool false],[]⟩).memory:=
 laidMet_of_run' 8 (by kernel_rfl) (by kernel_rfl)
theorem reads (os:Os) {H:Type} (enc:TypeId × Value→H):∃ places,DataW.whole enc Tryz.prog (((World.laidAll Tryz.prog os Rows.showApartUptoRow.laid)).forCall (fun _ _=>0) ⟨#[],#[.slice none 0 0,.bool false],[]⟩).memory Tryz.f6.params.toList Rows.showApartSpec.vars false #[(.slice none 0 0:Value),(.bool false:Value)].toList 8=some ([.nil,.lit (.bool false)],[],places):=
 ⟨[],by kernel_rfl⟩
set_option maxRecDepth 100000 in
theorem contract (H:Type) (enc:TypeId × Value→H) (W:World) (base:Nat) (args:Array Value) (ds gs:List (DataW H)) (before:List MemPlace)
  (hval:∀ (j:Nat) t v,Tryz.f6.params[j]? = some t→args[j]? = some v→Value.okWide Tryz.prog W .any base t v)
  (hW:DataW.Whole enc Tryz.prog Tryz.f6.params.toList Rows.showApartSpec.vars false W args.toList ds gs before) (hL:laidMetH Tryz.prog Rows.showApartUptoRow.laid W)
  (hsh:W.ShapedOpen Tryz.prog)
  (hcond:Rows.uptoSmall H (ds++gs)=true)
  (hsz:(DataW.weightsEach Tryz.prog (Tryz.f6.params.toList++(Rows.OpenSpec.upto Rows.showApartSpec).bare.plain.varTypes Tryz.prog) (ds++gs)).all (·≤reachBytes)=true)
  : Calls Tryz.prog 6 args W fun e W'=>∃ v,e = .returned v∧Rows.showApartSpec.post enc Tryz.prog Tryz.f6 false true false false W args v W':=by
 have hW':=hW
 obtain ⟨p,q,hA0,hV,rfl,hfz,hnd⟩:=hW
 have hA:DataW.TrodAll enc Tryz.prog W 0 (fun _=>true) true Tryz.f6.params.toList args.toList ds p:=hA0
 rw [Tryz.params6] at hA hval
 obtain ⟨v0,vs0,d0,ds0,p0,q0,hargs,rfl,rfl,h0,r0⟩:=trodAll_cons hA
 obtain ⟨v1,vs1,d1,ds1,p1,q1,rfl,rfl,rfl,h1,r1⟩:=trodAll_cons r0
 obtain ⟨rfl,rfl,rfl⟩:=trodAll_nil r1
 obtain rfl:args=#[v0,v1]:=by cases args;simp_all
 obtain ⟨rfl,rfl⟩:=trodVars_none hV
 have hbk:=of_decide_eq_true hcond
 simp only [Rows.uptoBulkAll,List.cons_append,List.nil_append] at hbk
 obtain ⟨n0,c0,l0,rfl,S0,f0,z0⟩:=open_nodes (hval 0 42 v0 rfl rfl) h0 (by omega)
 obtain ⟨a1,rfl,rfl,rfl⟩:=open_bool Tryz.underlying4 (hval 1 4 v1 rfl rfl) h1
 have hL2:laidMet Tryz.prog Rows.showApartUptoRow.laid W:=by rw [← MakeChecks.laidMetH_plain _ _ _ (by kernel_rfl)];exact hL
 have hT:=u8_in hL2 (.tail _ (.tail _ (.tail _ (.tail _ (.tail _ (.tail _ (.head _))))))) (.tail _ (.tail _ (.tail _ (.head _))))
 have hP:=tab_laid_more hL2
 refine (showApart_walk n0 c0 l0 a1 W S0 f0 z0 hT hP).mono fun e W' ⟨he,bel⟩=>?_
 subst he
 exact ⟨_,rfl,_,_,_,[],_,[],hW',trodAll_mk1 (shut_bool Tryz.underlying4 _),(trodAll_cons_mk (Below.trod laidOut (by kernel_rfl) (of_decide_eq_true (by kernel_rfl)) h0 bel (fun x hx=>hW'.lt x (by simp [hx]))) (trodAll_cons_mk (shut_bool Tryz.underlying4 _) trodAll_mk0)),rfl,bel.frame _,fun h=>by cases h⟩
set_option maxRecDepth 100000 in
theorem lifted (os:Os) (started:os.Started) (H:Type) (enc:TypeId × Value→H) (F:Stop.Interp) :
  ReturnsInHanded {} Tryz.checked os 6 .any ((Rows.OpenSpec.upto Rows.showApartSpec).preRow enc Tryz.prog Tryz.f6 Rows.showApartUptoRow.domain false Rows.showApartUptoRow.laid) (((Rows.OpenSpec.upto Rows.showApartSpec).at F).post enc Tryz.prog Tryz.f6 false true false false):=by
 obtain ⟨places,hx⟩:=reads os enc
 refine returnsInHanded_of_row (C:=Tryz.checked) (s:=Rows.OpenSpec.upto Rows.showApartSpec) own started (by kernel_rfl) Tryz.func6
  (witness_row_atRef (enc:=enc) (C:=Tryz.checked) false (World.laidAll Tryz.prog os Rows.showApartUptoRow.laid) #[.slice none 0 0,.bool false] (World.laidAll_os _ _ _) (by kernel_rfl) (by kernel_rfl) (by kernel_rfl)
   (OpenSpec.preRow_of_cond 8 hx (by kernel_rfl) (fun k hk=>by cases hk;kernel_rfl) (by kernel_rfl) (laid_met os))) ?_
 intro W base args ds gs before hval hW hdom hcond hsz hL hsh hx2
 exact contract H enc W base args ds gs before hval hW hL hsh (hcond _ rfl) hsz
end Go.Proofs.YtnghlakllgkjlaaGreatDoor.showApart
