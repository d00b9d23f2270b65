/- mark's reader puts a first attribute to an open. (short) -/
import Derived.Test.YtfnodoepeiknhaaGreatDoorMarkG
namespace Go.Proofs.YtfnodoepeiknhaaGreatDoor
open Go.RowKit
set_option linter.unusedVariables false
set_option linter.unusedSimpArgs false
set_option maxRecDepth 100000

set_option maxHeartbeats 4000000 in
theorem madd_first (w0 W : World) (R O : Nat) (T : List Res) (S an av nm : ByteArray) (i : Int) (ov : Value) (h : Mem w0 W (.box R 72 [.string S, .int .i64 i, ov, .bool false, .bool false] :: .box O 36 [.int .i64 1, .string nm, .slice none 0 0, .string ⟨#[]⟩] :: T)) :
    Calls Tryz.prog 69 #[.pointer (some ⟨R, 0, none⟩), .pointer (some ⟨O, 0, none⟩), .agg #[.string an, .string av]] W fun e w' => e = .returned (.tuple #[]) ∧ ∃ p cap, Mem w0 w' (.box R 72 [.string S, .int .i64 i, ov, .bool false, .bool false] :: .box O 36 [.int .i64 1, .string nm, .slice p 1 cap, .string ⟨#[]⟩] :: .row p cap 38 2 1 [.string an, .string av] :: T) := by
  have HM := Lib.hid (h.row0 38 2)
  clear h
  go_enter Tryz.func69, Tryz.ntmps69
  go_wp2_with (first | ((with_reducible refine skip_op ?_ ?_); exact rfl) | refine mP ?_ | (refine mS ?_; clear HM; intro W1 HM) | (refine mL ?_; clear HM; intro g1 W1 HM) | ((with_reducible refine iat 5 ?_); refine mB ?_; clear HM; intro g5 W1 HM) | (refine hal HM rfl ?_; clear HM; intro g1 W1 HM))
  go_loopw [13] (fun iv wr => iv = .int .i64 0 ∧ Hid (Mem w0 wr (.box g5 38 [.string an, .string av] :: .row none 0 38 2 0 [] :: .box R 72 [.string S, .int .i64 i, ov, .bool false, .bool false] :: .box O 36 [.int .i64 1, .string nm, .slice none 0 0, .string ⟨#[]⟩] :: T))) (fun _ _ => 0)
  case atStart => exact ⟨rfl, HM⟩
  case round =>
    clear HM
    obtain ⟨rfl, HM⟩ := hrel
    go_wp2_with fail
    refine wp_region_mem3 10 [(0, 0), (0, 1), (0, 2), (0, 3), (0, 4), (0, 5), (2, 6), (2, 7), (1, 8), (1, 9), (3, 10)] (by kernel_rfl) (by kernel_rfl) rfl (by kernel_rfl) (fun _ _ _ _ _ h => h) HM.out _ (.cons_cons _ (.cons _ (.cons_cons _ (.cons_cons _ (List.nil_sublist _))))) ?_
    intro hNE W1 HM1; replace HM := Lib.hid HM1; clear HM1
    have HS0 := Lib.hid (HM.out.sub (.cons_cons _ (.cons _ (.cons_cons _ (.cons_cons _ (List.nil_sublist _))))))
    simp only [wpSteps3, List.getElem?_cons_succ, List.getElem?_cons_zero]
    (repeat (first | ((with_reducible refine wpQuiet_nil ?_); (try dsimp only)) | refine mQ ?_ | go_big_quiet_step (fail) | quiet_step (fail)))
    go_wp2_with (first | (refine mL ?_; clear HM; intro g1 W1 HM))
    refine ⟨⟨⟨_, HM.out.sub (by repeat (first | exact List.nil_sublist _ | with_reducible refine List.Sublist.cons_cons _ ?_ | refine List.Sublist.cons _ ?_))⟩, rfl⟩, ?_⟩
    (try dsimp only)
    go_wp2_with (first | (refine apb rfl HM.out 2 0 rfl rfl rfl rfl rfl rfl (by omega) (by omega) (by omega) ?_; intro p1 cap1 W1 HM1; replace HM := Lib.hid HM1; clear HM1; simp only [List.set] at HM))
    refine ⟨⟨⟨_, HM.out.sub (by repeat (first | exact List.nil_sublist _ | with_reducible refine List.Sublist.cons_cons _ ?_ | refine List.Sublist.cons _ ?_))⟩, rfl⟩, ?_⟩
    (try dsimp only)
    (repeat (first | ((with_reducible refine wpQuiet_nil ?_); (try dsimp only)) | refine mQ ?_ | go_big_quiet_step (fail) | quiet_step (fail)))
    go_wp2_with (first | (refine mS ?_; clear HM; intro W1 HM))
    refine ⟨trivial, ?_⟩
    (try dsimp only)
    clear HS0 hNE
    go_wp2_with (first | ((with_reducible refine skip_op ?_ ?_); exact rfl) | refine mP ?_ | (refine mS ?_; clear HM; intro W1 HM) | (refine mL ?_; clear HM; intro g1 W1 HM) | (refine hal HM rfl ?_; clear HM; intro g1 W1 HM) | (refine mB ?_; clear HM; intro g1 W1 HM))
    go_end0
    exact ⟨rfl, p1, cap1, (HM.out.sub (.cons _ (.cons _ (.refl _)))).perm ((List.Perm.swap _ _ _).trans (List.Perm.cons _ (List.Perm.swap _ _ _)))⟩
end Go.Proofs.YtfnodoepeiknhaaGreatDoor
