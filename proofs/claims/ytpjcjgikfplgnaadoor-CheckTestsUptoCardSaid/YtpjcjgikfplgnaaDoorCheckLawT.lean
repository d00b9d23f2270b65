/- CheckTests: the laws' walks. (fast) -/
import Derived.Test.YtpjcjgikfplgnaaDoorCheckKnown
import Derived.Test.YtpjcjgikfplgnaaDoorRefTopT
namespace Go.Proofs.YtpjcjgikfplgnaaDoor
open Go.RowKit
set_option linter.unusedVariables false
set_option linter.unusedSimpArgs false
set_option maxRecDepth 100000

set_option maxHeartbeats 4000000 in
theorem checkTests_walk (p : Option Addr) (c : Nat) (ns : List NodeD) (fk fo : Int) (q : Option Addr) (c2 : Nat) (l : List SymD) (w : World) (hN : Sl w p (ns.flatMap NodeD.cs)) (hwf : ∀ (i : Nat) (n : NodeD), ns[i]? = some n → n.wf) (hl : ns.length ≤ 1048576) (hL : Sl w q (l.flatMap SymD.cs)) (hl2 : l.length ≤ 1048576) (hT : U8 w) :
    Calls Tryd.prog 5 #[.slice p ns.length c, .agg #[.int .i64 fk, .int .i64 fo], .slice q l.length c2] w fun e w' => e = .returned (.bool true) ∧ Below w.heap.size w w' := by
  have HM := Lib.hid (Mem.start w)
  have HN := Lib.hid hN
  have HL := Lib.hid hL
  have HT := Lib.hid hT
  obtain ⟨r, hr⟩ : ∃ r, testsF ns ⟨fk, fo⟩ l = r := ⟨_, rfl⟩
  have HDt := Lib.hid (fun W (h1 : Sl W p (ns.flatMap NodeD.cs)) (h2 : Sl W q (l.flatMap SymD.cs)) => hr ▸ rDocTests_any p c ns fk fo q c2 l W h1 hwf (by omega) h2 (by omega))
  have HTs := Lib.hid (fun W (h1 : Sl W p (ns.flatMap NodeD.cs)) (h2 : Sl W q (l.flatMap SymD.cs)) (h3 : U8 W) => hr ▸ cTests_any p c ns fk fo q c2 l W h1 hwf (by omega) h2 (by omega) h3)
  clear hN hL hT hwf hr
  go_enter Tryd.func5, Tryd.ntmps5
  go_wp2_with (first | ((with_reducible refine igd ?_); (with_reducible refine skip_op ?_ ?_); (exact rfl)) | ((with_reducible refine iload ?_); first | refine ldbW HM.out 0 rfl rfl rfl ?_ | (refine ldbS HM.out 0 rfl rfl rfl ?_; simp only [List.take, List.drop])) | ((with_reducible refine ibox (d := some 4) ?_); refine bxA rfl HM.out rfl ?_; intro g4 W1 HM1; replace HM := Lib.hid HM1; clear HM1))
  refine wp_region_steps2 [(false, 0), (true, 1), (true, 2), (true, 3), (true, 4), (true, 6), (true, 7), (true, 8), (false, 5), (false, 9), (true, 10), (true, 11), (true, 12)] (by kernel_rfl) (by kernel_rfl) rfl (by kernel_rfl) (fun _ _ _ _ _ h => h) HM.out _ (.cons_cons _ .slnil) ?_
  intro hNE W1 HM1; replace HM := Lib.hid HM1; clear HM1
  have HS0 := Lib.hid (HM.out.sub (.cons_cons _ .slnil))
  simp only [wpSteps, List.getElem?_cons_succ, List.getElem?_cons_zero]
  go_wp2_with (first | (go_at_call 7; (with_reducible refine (known_any _ (U8.below HT.out HM.out.below)).mono ?_); rintro e W1 ⟨rfl, hb⟩; replace HM := Lib.hid (HM.out.next hb); clear hb))
  refine ⟨⟨⟨_, HM.out.sub (by repeat (first | exact List.nil_sublist _ | with_reducible refine List.Sublist.cons_cons _ ?_ | refine List.Sublist.cons _ ?_))⟩, rfl⟩, ?_⟩
  (try dsimp only)
  (repeat (first | ((with_reducible refine qgd ?_); (with_reducible refine skip_q ?_ ?_ ?_); (exact rfl); (rotate_left; (exact (hNE.elim fun p => ⟨p.W, p, rfl⟩)))) | ((with_reducible refine wpQuiet_nil ?_); (try dsimp only)) | ((with_reducible refine qload ?_); first | (refine qdbW HS0.out 0 rfl rfl rfl ?_) | (refine qdbS HS0.out 0 rfl rfl rfl ?_; simp only [List.take, List.drop])) | go_big_quiet_step (fail) | quiet_step (fail)))
  go_wp2_with (first | ((with_reducible refine igd ?_); (with_reducible refine skip_op ?_ ?_); (exact rfl)) | (go_at_call 13; (with_reducible refine (HTs.out _ (HM.out.sl HN.out) (HM.out.sl HL.out) (U8.below HT.out HM.out.below)).mono ?_); rintro e W1 ⟨rfl, hb⟩; replace HM := Lib.hid (HM.out.next hb); clear hb))
  refine ⟨⟨⟨_, HM.out.sub (by repeat (first | exact List.nil_sublist _ | with_reducible refine List.Sublist.cons_cons _ ?_ | refine List.Sublist.cons _ ?_))⟩, rfl⟩, ?_⟩
  (try dsimp only)
  go_wp2_with (first | ((with_reducible refine igd ?_); (with_reducible refine skip_op ?_ ?_); (exact rfl)) | (go_at_call 14; (with_reducible refine (HDt.out _ (HM.out.sl HN.out) (HM.out.sl HL.out)).mono ?_); rintro e W1 ⟨rfl, hb⟩; replace HM := Lib.hid (HM.out.next hb); clear hb))
  refine ⟨⟨⟨_, HM.out.sub (by repeat (first | exact List.nil_sublist _ | with_reducible refine List.Sublist.cons_cons _ ?_ | refine List.Sublist.cons _ ?_))⟩, rfl⟩, ?_⟩
  (try dsimp only)
  (repeat (first | ((with_reducible refine qgd ?_); (with_reducible refine skip_q ?_ ?_ ?_); (exact rfl); (rotate_left; (exact (hNE.elim fun p => ⟨p.W, p, rfl⟩)))) | ((with_reducible refine wpQuiet_nil ?_); (try dsimp only)) | go_big_quiet_step (fail) | quiet_step (fail)))
  clear HS0 hNE
  go_wp2_with fail
  go_ret
  exact ⟨rfl, HM.out.below⟩
end Go.Proofs.YtpjcjgikfplgnaaDoor
