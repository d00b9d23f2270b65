/- strings.Cut at one byte. (short) -/
import Derived.Test.YtfnodoepeiknhaaGreatDoorShelf
import Derived.Test.YtfnodoepeiknhaaGreatDoorEscPlain
import Derived.Test.YtfnodoepeiknhaaGreatDoorTypes
import Derived.Test.YtfnodoepeiknhaaGreatDoorTrieLook
namespace Go.Proofs.YtfnodoepeiknhaaGreatDoor
open Go.RowKit
set_option linter.unusedVariables false
set_option linter.unusedSimpArgs false
set_option maxRecDepth 100000

theorem idx_cut (c : UInt8) : ∀ l : List UInt8, Lib.indexByte l c = match cutL c l with | some p => (p.1.length : Int) | none => -1
  | [] => rfl
  | x :: r => by
    unfold Lib.indexByte cutL
    by_cases h : x = c
    · rw [if_pos h, if_pos (by simp [h])]; rfl
    · rw [if_neg h, if_neg (by simp [h]), idx_cut c r]
      cases cutL c r with
      | none => rfl
      | some p =>
        have : ((p.1.length : Int) == -1) = false := by rw [beq_eq_false_iff_ne]; omega
        simp only [this, Option.map_some]
        simp
def cutV (c : UInt8) (s : ByteArray) : Value := match cutL c s.data.toList with
  | some p => .tuple #[.string ⟨p.1.toArray⟩, .string ⟨p.2.toArray⟩, .bool true]
  | none => .tuple #[.string s, .string ⟨#[]⟩, .bool false]
theorem cutV_none {c : UInt8} {s : ByteArray} (h : cutL c s.data.toList = none) : cutV c s = .tuple #[.string s, .string ⟨#[]⟩, .bool false] := by unfold cutV; rw [h]
theorem cutV_some {c : UInt8} {s : ByteArray} {p : List UInt8 × List UInt8} (h : cutL c s.data.toList = some p) : cutV c s = .tuple #[.string ⟨p.1.toArray⟩, .string ⟨p.2.toArray⟩, .bool true] := by unfold cutV; rw [h]

set_option maxHeartbeats 4000000 in
theorem cut0_any (s : ByteArray) (c : UInt8) (w : World) (hs : s.size ≤ 1099511627776) :
    Calls Tryz.prog 53 #[.string s, .string ⟨#[c]⟩] w fun e w' => e = .returned (cutV c s) ∧ Below w.heap.size w w' := by
  have HI := Lib.hid (fun W => Tryz.stringslite_Index_one s c W)
  cases hc : cutL c s.data.toList with
  | none =>
    have hi : Lib.indexByte s.data.toList c = -1 := by rw [idx_cut, hc]
    rw [hi] at HI
    have HV := Lib.hid (cutV_none hc)
    clear hc hi
    go_enter Tryz.func53, Tryz.ntmps53
    go_wp2_with (first | (go_at_call 81; (refine (HI.out _).mono ?_); rintro e w2 ⟨rfl, rfl⟩))
    go_ret3
    exact ⟨congrArg Ending.returned HV.out.symm, Below.refl _ _⟩
  | some p =>
    have hi : Lib.indexByte s.data.toList c = (p.1.length : Int) := by rw [idx_cut, hc]
    obtain ⟨he, hn⟩ := cutL_some (m := p.1) (t := p.2) hc
    have hsz : p.1.length + 1 ≤ s.size := by
      have := congrArg List.length he
      simp at this
      omega
    have h1 : s.extract 0 p.1.length = ⟨p.1.toArray⟩ := ba_eq (by rw [Lib.extract_data, he]; simp)
    have h2 : s.extract (p.1.length + 1) s.size = ⟨p.2.toArray⟩ := ba_eq (by
      rw [Lib.extract_data, List.take_of_length_le (by simp)]
      rw [he, List.drop_append]
      simp)
    rw [hi] at HI
    have H1 := Lib.hid h1
    have H2 := Lib.hid h2
    have HV := Lib.hid (cutV_some hc)
    have HM := Lib.hid (Mem.start w)
    have hge : decide (0 ≤ (p.1.length : Int)) = true := decide_eq_true (by omega)
    generalize p.1.length = n at *
    clear hc hi he hn h1 h2
    go_enter Tryz.func53, Tryz.ntmps53
    go_wp2_with (first | (go_at_call 81; (refine (HI.out _).mono ?_); rintro e w2 ⟨rfl, rfl⟩))
    refine wp_region_mem (by kernel_rfl) (by kernel_rfl) HM.out ?_; intro hNE; (repeat (any_goals (first | ((with_reducible refine qgd ?_); (with_reducible refine skip_q ?_ ?_ ?_); (exact rfl); (rotate_left; (exact (hNE.elim fun p => ⟨p.W, p, rfl⟩)))) | refine mQ ?_ | ((with_reducible refine qat 15 ?_); (refine qsslh rfl rfl (j := n) rfl (by omega) ?_; rw [H1.out])) | ((with_reducible refine qat 21 ?_); (refine qsslf rfl rfl (i := n + 1) rfl hsz ?_; rw [H2.out])) | go_big_quiet_step (fail) | quiet_step (fail)))); clear hNE; refine wpQuiet_nil ?_; intro W1 HM1; replace HM := Lib.hid HM1; clear HM1
    go_wp2_with fail
    go_ret3
    exact ⟨congrArg Ending.returned HV.out.symm, HM.out.below⟩

set_option maxHeartbeats 4000000 in
theorem cut_any (s : ByteArray) (c : UInt8) (w : World) (hs : s.size ≤ 1099511627776) :
    Calls Tryz.prog 29 #[.string s, .string ⟨#[c]⟩] w fun e w' => e = .returned (cutV c s) ∧ Below w.heap.size w w' := by
  have HC := Lib.hid (fun W => cut0_any s c W hs)
  cases hc : cutL c s.data.toList with
  | none =>
    have HV := Lib.hid (cutV_none hc)
    rw [cutV_none hc] at HC
    clear hc
    go_enter Tryz.func29, Tryz.ntmps29
    go_wp2_with (first | (go_at_call 53; (refine (HC.out _).mono ?_); rintro e w2 ⟨rfl, hb⟩))
    go_ret3
    exact ⟨congrArg Ending.returned HV.out.symm, hb⟩
  | some p =>
    have HV := Lib.hid (cutV_some hc)
    rw [cutV_some hc] at HC
    clear hc
    go_enter Tryz.func29, Tryz.ntmps29
    go_wp2_with (first | (go_at_call 53; (refine (HC.out _).mono ?_); rintro e w2 ⟨rfl, hb⟩))
    go_ret3
    exact ⟨congrArg Ending.returned HV.out.symm, hb⟩
end Go.Proofs.YtfnodoepeiknhaaGreatDoor
