/- mark's reader on the document that the laws' fixed fact asks for: its parts. (short) -/
import Derived.Test.YtfnodoepeiknhaaGreatDoorMarkC
import Derived.Test.YtfnodoepeiknhaaGreatDoorMarkD
import Derived.Test.YtfnodoepeiknhaaGreatDoorMarkE
import Derived.Test.YtfnodoepeiknhaaGreatDoorMarkF
import Derived.Test.YtfnodoepeiknhaaGreatDoorUnesc
namespace Go.Proofs.YtfnodoepeiknhaaGreatDoor
open Go.RowKit
set_option linter.unusedVariables false
set_option linter.unusedSimpArgs false
set_option maxRecDepth 100000

def kS : ByteArray := ⟨#[60, 97, 32, 120, 61, 39, 49, 39, 47, 62]⟩
section
variable {w0 W : World} {R : Nat} {T : List Res} {ov : Value} {lg dp : Bool}
theorem kword (i j : Nat) (a b : Int) (N : ByteArray) (nb : Bool) (ha : a = (i : Int)) (hb : b = (j : Int)) (hi : i ≤ kS.size) (h1 : spE insU kS.data.toList i = j) (h2 : kS.extract i j = N) (h3 : nameM N = nb) (h : Mem w0 W (.box R 72 [.string kS, .int .i64 a, ov, .bool lg, .bool dp] :: T)) :
    Calls Tryz.prog 67 #[.pointer (some ⟨R, 0, none⟩)] W fun e w' => e = .returned (.tuple #[.string N, .bool nb]) ∧ Mem w0 w' (.box R 72 [.string kS, .int .i64 b, ov, .bool lg, .bool dp] :: T) := by
  subst ha hb
  have := mword_any w0 W R T kS i ov lg dp h hi (by decide)
  rw [h1, h2, h3] at this
  exact this
theorem kblanks (i j : Nat) (a b : Int) (v : Bool) (ha : a = (i : Int)) (hb : b = (j : Int)) (hi : i ≤ kS.size) (h1 : spE blkB kS.data.toList i = j) (h2 : decide (j > i) = v) (h : Mem w0 W (.box R 72 [.string kS, .int .i64 a, ov, .bool lg, .bool dp] :: T)) :
    Calls Tryz.prog 63 #[.pointer (some ⟨R, 0, none⟩)] W fun e w' => e = .returned (.bool v) ∧ Mem w0 w' (.box R 72 [.string kS, .int .i64 b, ov, .bool lg, .bool dp] :: T) := by
  subst ha hb
  have := mblanks_any w0 W R T kS i ov lg dp h hi (by decide)
  rw [h1, h2] at this
  exact this
theorem ktake (t : ByteArray) (i j : Nat) (a b : Int) (ha : a = (i : Int)) (hb : b = (j : Int)) (hi : i ≤ kS.size) (h1 : Lib.hasPrefix (kS.data.toList.drop i) t.data.toList = true) (h2 : i + t.size = j) (h : Mem w0 W (.box R 72 [.string kS, .int .i64 a, ov, .bool lg, .bool dp] :: T)) :
    Calls Tryz.prog 62 #[.pointer (some ⟨R, 0, none⟩), .string t] W fun e w' => e = .returned (.bool true) ∧ Mem w0 w' (.box R 72 [.string kS, .int .i64 b, ov, .bool lg, .bool dp] :: T) := by
  subst ha hb
  have := mtake_yes w0 W R T kS t i ov lg dp h hi (by decide) h1
  rw [h2] at this
  exact this
theorem knot (t : ByteArray) (i : Nat) (a : Int) (ha : a = (i : Int)) (hi : i ≤ kS.size) (h1 : Lib.hasPrefix (kS.data.toList.drop i) t.data.toList = false) (h : Mem w0 W (.box R 72 [.string kS, .int .i64 a, ov, .bool lg, .bool dp] :: T)) :
    Calls Tryz.prog 62 #[.pointer (some ⟨R, 0, none⟩), .string t] W fun e w' => e = .returned (.bool false) ∧ Mem w0 w' (.box R 72 [.string kS, .int .i64 a, ov, .bool lg, .bool dp] :: T) := by
  subst ha
  exact mtake_no w0 W R T kS t i ov lg dp h hi (by decide) h1
theorem kuntil (c : UInt8) (i j : Nat) (a b : Int) (m t : List UInt8) (X : ByteArray) (ha : a = (i : Int)) (hb : b = (j : Int)) (hi : i ≤ kS.size) (h1 : cutL c (kS.data.toList.drop i) = some (m, t)) (h2 : i + (m.length + 1) = j) (h3 : kS.extract i (i + m.length) = X) (h : Mem w0 W (.box R 72 [.string kS, .int .i64 a, ov, .bool lg, .bool dp] :: T)) :
    Calls Tryz.prog 64 #[.pointer (some ⟨R, 0, none⟩), .string ⟨#[c]⟩] W fun e w' => e = .returned (.tuple #[.string X, .bool true]) ∧ Mem w0 w' (.box R 72 [.string kS, .int .i64 b, ov, .bool lg, .bool dp] :: T) := by
  subst ha hb
  have := muntil_at w0 W R T kS c i ov lg dp m t h hi (by decide) h1
  rw [h2, h3] at this
  exact this
end
theorem kunesc (W : World) (hT : U8 W) (hE : ErrsAt W) : Calls Tryz.prog 10 #[.string ⟨#[49]⟩, .bool true] W fun e w' => e = .returned (.tuple #[.string ⟨#[49]⟩, .int .i64 0]) ∧ Below W.heap.size W w' := by
  have := unescape_any ⟨#[49]⟩ true W hT hE (by decide)
  rw [show unescV true ⟨#[49]⟩ = .tuple #[.string ⟨#[49]⟩, .int .i64 0] from unescV_ok (cs := [49]) (by decide +kernel) (by decide +kernel)] at this
  exact this

set_option maxHeartbeats 4000000 in
theorem kattr (w0 W : World) (R : Nat) (T : List Res) (ov : Value) (lg dp : Bool) (hT : U8 w0) (hE : ErrsAt w0) (h : Mem w0 W (.box R 72 [.string kS, .int .i64 3, ov, .bool lg, .bool dp] :: T)) :
    Calls Tryz.prog 68 #[.pointer (some ⟨R, 0, none⟩)] W fun e w' => e = .returned (.tuple #[.agg #[.string ⟨#[120]⟩, .string ⟨#[49]⟩], .bool true]) ∧ Mem w0 w' (.box R 72 [.string kS, .int .i64 8, ov, .bool lg, .bool dp] :: T) := by
  have HM := Lib.hid h
  have HT := Lib.hid hT
  have HE := Lib.hid hE
  clear h hT hE
  go_enter Tryz.func68, Tryz.ntmps68
  go_wp2_with (first | (refine mS ?_; clear HM; intro W1 HM) | (refine hal (dst := some 2) HM rfl ?_; clear HM; intro g2 W1 HM))
  have HM1 := Lib.hid (HM.out.perm (List.Perm.swap _ _ _))
  clear HM
  have HM := HM1
  clear HM1
  refine (kword 3 4 3 4 ⟨#[120]⟩ true rfl rfl (by decide) (by decide +kernel) (by decide +kernel) (by decide +kernel) HM.out).mono ?_
  rintro e W2 ⟨rfl, hM⟩
  clear HM
  (try clear W1)
  have HM := Lib.hid hM
  clear hM
  go_wp2_with fail
  refine (kblanks 4 4 4 4 false rfl rfl (by decide) (by decide +kernel) (by decide) HM.out).mono ?_
  rintro e W2 ⟨rfl, hM⟩
  clear HM
  (try clear W1)
  have HM := Lib.hid hM
  clear hM
  go_wp2_with fail
  refine (ktake ⟨#[61]⟩ 4 5 4 5 rfl rfl (by decide) (by decide +kernel) (by decide) HM.out).mono ?_
  rintro e W2 ⟨rfl, hM⟩
  clear HM
  (try clear W1)
  have HM := Lib.hid hM
  clear hM
  go_wp2_with fail
  refine (kblanks 5 5 5 5 false rfl rfl (by decide) (by decide +kernel) (by decide) HM.out).mono ?_
  rintro e W2 ⟨rfl, hM⟩
  clear HM
  (try clear W1)
  have HM := Lib.hid hM
  clear hM
  go_wp2_with fail
  refine (knot ⟨#[34]⟩ 5 5 rfl (by decide) (by decide +kernel) HM.out).mono ?_
  rintro e W2 ⟨rfl, hM⟩
  clear HM
  (try clear W1)
  have HM := Lib.hid hM
  clear hM
  go_wp2_with fail
  refine (ktake ⟨#[39]⟩ 5 6 5 6 rfl rfl (by decide) (by decide +kernel) (by decide) HM.out).mono ?_
  rintro e W2 ⟨rfl, hM⟩
  clear HM
  (try clear W1)
  have HM := Lib.hid hM
  clear hM
  go_wp2_with fail
  refine (kuntil 39 6 8 6 8 [49] [47, 62] ⟨#[49]⟩ rfl rfl (by decide) (by decide +kernel) (by decide) (by decide +kernel) HM.out).mono ?_
  rintro e W2 ⟨rfl, hM⟩
  clear HM
  (try clear W1)
  have HM := Lib.hid hM
  clear hM
  go_wp2_with fail
  refine (kunesc _ (HT.out.below HM.out.below) (HE.out.below HM.out.below)).mono ?_
  rintro e W2 ⟨rfl, hb⟩
  have HM1 := Lib.hid (HM.out.next hb)
  clear HM hb
  have HM := HM1
  clear HM1
  go_wp2_with (first | (refine mS ?_; clear HM; intro W1 HM) | (refine hal HM rfl ?_; clear HM; intro g1 W1 HM))
  exact bodyPost_ret (res_box_tmp rfl HM.out 1 rfl rfl rfl rfl) rfl ⟨rfl, HM.out.sub (.cons_cons _ (.cons _ (.refl _)))⟩
end Go.Proofs.YtfnodoepeiknhaaGreatDoor
