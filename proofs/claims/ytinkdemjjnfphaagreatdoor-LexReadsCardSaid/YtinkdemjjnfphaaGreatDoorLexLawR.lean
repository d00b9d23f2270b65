/- LexReads: the law's walk. (fast) -/
import Derived.Test.YtinkdemjjnfphaaGreatDoorLexKnown
import Derived.Test.YtinkdemjjnfphaaGreatDoorLexChain
import Derived.Test.YtinkdemjjnfphaaGreatDoorRefLexRead
namespace Go.Proofs.YtinkdemjjnfphaaGreatDoor
open Go.RowKit
set_option linter.unusedVariables false
set_option linter.unusedSimpArgs false
set_option maxRecDepth 100000

set_option maxHeartbeats 4000000 in
theorem lexReads_walk (s : ByteArray) (w : World) (hT : U8 w) :
    Calls Tryz.prog 3 #[.string s] w fun e w' => e = .returned (.bool true) ∧ Below w.heap.size w w' := by
  have HM := Lib.hid (Mem.start w)
  have HT := Lib.hid hT
  have HA := Lib.hid (fun W => rlexRead_any s W)
  have HB := Lib.hid (fun W h => lexRead_any s W h)
  unfold LexPost at HA HB
  obtain ⟨⟨ts, er⟩, hr⟩ : ∃ x, lexF s = x := ⟨_, rfl⟩
  simp only [hr] at HA HB
  have HS := Lib.hid (fun (p q : Option Addr) (c d : Nat) W h1 h2 h3 => sameTok_any p q c d ts W h1 h2 h3)
  have q0 : (er == er) = true := by simp
  obtain ⟨n, hn⟩ : ∃ n, ts.length = n := ⟨_, rfl⟩
  obtain ⟨cs, hcs⟩ : ∃ cs, ts.flatMap TokD.cs = cs := ⟨_, rfl⟩
  simp only [hn, hcs] at HA HB HS
  have HN := Lib.hid (show n ≤ 4611686018427387904 by
    have h1 := lexF_small s
    rw [hr] at h1
    rw [← hn]
    exact Nat.le_trans h1 (by decide))
  clear hT hr hn hcs
  go_enter Tryz.func3, Tryz.ntmps3
  go_wp2_with (first | (go_at_call 5; (with_reducible refine (known_any _ (U8.below HT.out HM.out.below)).mono ?_); rintro e W1 ⟨rfl, hb⟩; replace HM := Lib.hid (HM.out.next hb); clear hb) | (go_at_call 6; (with_reducible refine (HA.out _).mono ?_); rintro e W2 ⟨p, oc, rfl, hM2⟩; have HM1 := Lib.hid (HM.out.comp2 hM2); clear HM hM2; (try clear W1); rename World => W1; have HM := HM1; clear HM1; simp only [List.cons_append, List.nil_append] at HM) | (go_at_call 7; (with_reducible refine (HB.out _ (U8.below HT.out HM.out.below)).mono ?_); rintro e W2 ⟨q, od, rfl, hM2⟩; have HM1 := Lib.hid (HM.out.comp2 hM2); clear HM hM2; (try clear W1); rename World => W1; have HM := HM1; clear HM1; simp only [List.cons_append, List.nil_append] at HM) | (go_at_call 8; (with_reducible refine (HS.out _ _ _ _ _ (row_sl (HM.out.get (k := 1) rfl)) (row_sl (HM.out.get (k := 0) rfl)) HN.out).mono ?_); rintro e W1 ⟨rfl, hb⟩; replace HM := Lib.hid (HM.out.next hb); clear hb))
  go_ret
  exact ⟨rfl, HM.out.below⟩
end Go.Proofs.YtinkdemjjnfphaaGreatDoor
