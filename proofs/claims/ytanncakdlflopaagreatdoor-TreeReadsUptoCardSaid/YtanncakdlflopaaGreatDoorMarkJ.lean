/- mark.Read on the fixed document, and the law's known. (short) -/
import Derived.Test.YtanncakdlflopaaGreatDoorMarkI
import Derived.OwnWalk
namespace Go.Proofs.YtanncakdlflopaaGreatDoor
open Go.RowKit
set_option linter.unusedVariables false
set_option linter.unusedSimpArgs false
set_option maxRecDepth 100000

section
variable {P : Program} {ops : Array Oper} {K : Act → Prop} {a : Act} {w0 : World} {rest : List Oper} {L : List Res}
variable {dst : Option Tmp} {ty0 : TypeId} {pos : String} {after : Array Edge} {gd : Option (Nat × Bool)}
theorem qdxW {ty : TypeId} {n : Nat} [hA : AggT P ty n] {x : Operand} {p : Addr} {vs : List Value} (hv : Cells w0 p vs) (hx : a.eval x = .pointer (some p)) (hn : vs.length = n)
    (h : wpQuiet P ops (fun W => ∃ p : MemW w0 L, W = p.W) K (⟨dst, .move (.const (.agg vs.toArray)), ty0, pos, after, gd⟩ :: rest) a) : wpQuiet P ops (fun W => ∃ p : MemW w0 L, W = p.W) K (⟨dst, .load ty x, ty0, pos, after, gd⟩ :: rest) a :=
  qdA hx hn (fun W ⟨q, hq⟩ => by subst hq; exact q.mem.olds hv) h
end
theorem kRead (W : World) (hT : U8 W) (hE : ErrsAt W) :
    Calls Tryz.prog 22 #[.string kS] W fun e w' => ∃ g cap ga ca, e = .returned (.tuple #[.slice (some ⟨g, 0, none⟩) 2 cap, .int .i64 0, .int .i64 0]) ∧ Mem W w' [.row (some ⟨g, 0, none⟩) cap 57 4 2 [.int .i64 1, .string ⟨#[97]⟩, .slice (some ⟨ga, 0, none⟩) 1 ca, .string ⟨#[]⟩, .int .i64 2, .string ⟨#[97]⟩, .slice none 0 0, .string ⟨#[]⟩], .row (some ⟨ga, 0, none⟩) ca 44 2 1 [.string ⟨#[120]⟩, .string ⟨#[49]⟩]] := by
  have HM := Lib.hid (Mem.start W)
  have HT := Lib.hid hT
  have HE := Lib.hid hE
  have hk0 : decide ((300000 : Int) < (kS.size : Int)) = false := by decide +kernel
  have HV := Lib.hid (valid_any kS)
  have hV : textB kS = true := by decide +kernel
  rw [hV] at HV
  clear hT hE hV
  go_enter Tryz.func22, Tryz.ntmps22
  go_wp2_with (first | (go_at_call 41; (with_reducible refine cB HM (HV.out _ (by decide +kernel) (HT.out.below HM.out.below)) ?_); clear HM; intro W1 HM) | refine mP ?_ | ((with_reducible refine iat 14 ?_); refine mB ?_; clear HM; intro g14 W1 HM))
  refine (kread _ _ _ HT.out HE.out HM.out).mono ?_
  rintro e W2 ⟨rfl, p, cap, pa, ca, hM⟩
  obtain ⟨g, rfl⟩ := row_some (hM.get (k := 1) rfl) (by omega)
  obtain ⟨ga, rfl⟩ := row_some (hM.get (k := 2) rfl) (by omega)
  clear HM
  have HM := Lib.hid hM
  clear hM
  go_wp2_with (first | refine mP ?_ | (refine mB ?_; clear HM; intro g1 W1 HM))
  go_ret3
  exact ⟨g, cap, ga, ca, rfl, HM.out.sub (.cons _ (.refl _))⟩

theorem rsame1 (W : World) (p q : Addr) (c c' : Nat) (hp : Cells W p [.string ⟨#[120]⟩, .string ⟨#[49]⟩]) (hq : Cells W q [.string ⟨#[120]⟩, .string ⟨#[49]⟩]) :
    Calls Tryz.prog 25 #[.slice (some p) 1 c, .slice (some q) 1 c'] W fun e w' => e = .returned (.bool true) ∧ RowKit.Below W.heap.size W w' := by
  have HM := Lib.hid (Mem.start W)
  have HP := Lib.hid hp
  have HQ := Lib.hid hq
  clear hp hq
  go_enter Tryz.func25, Tryz.ntmps25
  go_wp2_with fail
  go_loopw [5] (fun iv wr => ∃ i : Nat, i ≤ 1 ∧ iv = .int .i64 i ∧ Hid (Mem W wr [])) (fun iv _ => 1 - (intOf iv).toNat)
  case atStart => exact ⟨0, by omega, rfl, HM⟩
  case round =>
    clear HM
    obtain ⟨i, hi, rfl, HM⟩ := hrel
    rcases (by omega : i = 0 ∨ i = 1) with rfl | rfl
    · go_wp2_with fail
      refine wp_region_mem (by kernel_rfl) (by kernel_rfl) HM.out ?_; intro hNE; (repeat (any_goals (first | ((with_reducible refine qgd ?_); (with_reducible refine skip_q ?_ ?_ ?_); (exact rfl); (rotate_left; (exact (hNE.elim fun p => ⟨p.W, p, rfl⟩)))) | refine mQ ?_ | (refine qixa (i := 0) rfl rfl rfl (by decide) ?_) | (refine qdxW HP.out rfl rfl ?_) | (refine qdxW HQ.out rfl rfl ?_) | go_big_quiet_step (fail) | quiet_step (fail)))); clear hNE; refine wpQuiet_nil ?_; intro W1 HM1; replace HM := Lib.hid HM1; clear HM1
      go_wp2
      go_roundw
      case rel => exact ⟨1, by omega, rfl, HM⟩
      case measure => simp [intOf]
    · go_wp2
      go_ret
      exact ⟨rfl, HM.out.below⟩

end Go.Proofs.YtanncakdlflopaaGreatDoor
