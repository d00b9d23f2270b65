/- The parts that a generic Replacer's run uses: HasPrefix of one byte, the writer that appends. (short) -/
import Derived.Test.YtfnodoepeiknhaaGreatDoorTrieMake
import Derived.Test.YtfnodoepeiknhaaGreatDoorBld
import Derived.Test.YtfnodoepeiknhaaGreatDoorSepA
namespace Go.Proofs.YtfnodoepeiknhaaGreatDoor
open Go.RowKit
set_option linter.unusedVariables false
set_option linter.unusedSimpArgs false
set_option maxRecDepth 100000

set_option maxHeartbeats 4000000 in
theorem hp0_one (s : ByteArray) (c : UInt8) (r : Bool) (hs : 1 ≤ s.size) (hr : ((s.extract 0 1).toList == [c]) = r) (w : World) :
    Calls Tryz.prog 108 #[.string s, .string ⟨#[c]⟩] w fun e w' => e = .returned (.bool r) ∧ w' = w := by
  have q1 : decide ((1 : Int) ≤ s.size) = true := decide_eq_true (by omega)
  have HR := Lib.hid hr
  clear hr
  go_enter Tryz.func108, Tryz.ntmps108
  go_wp2_with fail
  go_ret
  exact ⟨by rw [← HR.out]; rfl, rfl⟩

set_option maxHeartbeats 4000000 in
theorem hp0_nil (s : ByteArray) (c : UInt8) (hs : s.size = 0) (w : World) :
    Calls Tryz.prog 108 #[.string s, .string ⟨#[c]⟩] w fun e w' => e = .returned (.bool false) ∧ w' = w := by
  have q1 : decide ((1 : Int) ≤ s.size) = false := decide_eq_false (by omega)
  clear hs
  go_enter Tryz.func108, Tryz.ntmps108
  go_wp2_with fail
  go_ret
  exact ⟨rfl, rfl⟩

theorem hp_of (s : ByteArray) (c : UInt8) (r : Bool) (w : World) (h : Calls Tryz.prog 108 #[.string s, .string ⟨#[c]⟩] w fun e w' => e = .returned (.bool r) ∧ w' = w) :
    Calls Tryz.prog 94 #[.string s, .string ⟨#[c]⟩] w fun e w' => e = .returned (.bool r) ∧ w' = w := by
  have H := Lib.hid h
  clear h
  go_enter Tryz.func94, Tryz.ntmps94
  go_wp2_with (first | (go_at_call 108; refine H.out.mono ?_; rintro e w' ⟨rfl, rfl⟩))
  go_ret
  exact ⟨rfl, rfl⟩

instance : RowT Tryz.prog 229 5 1 1 (.int .u8 0) := ⟨by kernel_rfl, by kernel_rfl, rfl, by decide⟩

set_option maxHeartbeats 4000000 in
theorem asw_any (b n cap : Nat) (p : Option Addr) (cs : List Value) (s : ByteArray) (w0 W : World) (L : List Res) (h : Mem w0 W (.box b 229 [.slice p n cap] :: .row p cap 5 1 n cs :: L)) (h47 : n + s.size ≤ 140737488355328) :
    Calls Tryz.prog 201 #[.pointer (some ⟨b, 0, none⟩), .string s] W fun e W' => e = .returned (.tuple #[.int .i64 s.size, .nilIface]) ∧ ∃ p' cap', Mem w0 W' (.box b 229 [.slice p' (n + s.size) cap'] :: .row p' cap' 5 1 (n + s.size) (cs ++ Lib.strCells s) :: L) := by
  have HM := Lib.hid h
  clear h
  go_enter Tryz.func201, Tryz.ntmps201
  go_wp2_with (first | ((with_reducible refine iat 11 ?_); (refine aps rfl (by kernel_rfl) HM.out 1 rfl rfl rfl h47 ?_; intro p1 cap1 W1 HM1; replace HM := Lib.hid HM1; clear HM1; simp only [List.set] at HM)) | refine mP ?_ | (refine mS ?_; clear HM; intro W1 HM))
  go_ret2
  exact ⟨rfl, _, _, HM.out⟩
end Go.Proofs.YtfnodoepeiknhaaGreatDoor
