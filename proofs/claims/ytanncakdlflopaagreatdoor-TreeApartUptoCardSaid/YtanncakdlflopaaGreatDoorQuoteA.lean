/- Quotes over lists of bytes: what Quote lays, what Unquote reads, and that it reads what was laid. No program in sight. The walks over Quote, of the package and of the reference. -/
import Derived.Test.YtanncakdlflopaaGreatDoorReplA
import Derived.Test.YtanncakdlflopaaGreatDoorCharsA
import Derived.Test.YtanncakdlflopaaGreatDoorSepA
import Derived.Test.YtanncakdlflopaaGreatDoorReplGL
namespace Go.Proofs.YtanncakdlflopaaGreatDoor
set_option linter.unusedVariables false
set_option maxRecDepth 100000

theorem encL_ascii {c : Nat} (h : c < 128) : encL c = [UInt8.ofNat c] := by
 rcases encL_cases c (by omega) with ⟨_, e⟩ | ⟨h1, _⟩ | ⟨h1, _⟩ | ⟨h1, _⟩
 ·exact e
 ·omega
 ·omega
 ·omega
theorem encL_high {c : Nat} (h : (c < 55296 ∨ 57344 ≤ c) ∧ c ≤ 1114111) (hc : 128 ≤ c) : ∀ b ∈ encL c, 128 ≤ b.toNat := by
 rcases encL_cases c h with ⟨h1, e⟩ | ⟨h1, h2, e⟩ | ⟨h1, h2, e⟩ | ⟨h1, e⟩
 ·omega
 ·rw [e]; intro b hb
  simp only [List.mem_cons, List.not_mem_nil, or_false] at hb
  rcases hb with rfl | rfl <;> rw [byte_nat (by omega)] <;> omega
 ·rw [e]; intro b hb
  simp only [List.mem_cons, List.not_mem_nil, or_false] at hb
  rcases hb with rfl | rfl | rfl <;> rw [byte_nat (by omega)] <;> omega
 ·rw [e]; intro b hb
  simp only [List.mem_cons, List.not_mem_nil, or_false] at hb
  rcases hb with rfl | rfl | rfl | rfl <;> rw [byte_nat (by omega)] <;> omega
end Go.Proofs.YtanncakdlflopaaGreatDoor

namespace Go.Proofs.YtanncakdlflopaaGreatDoor
open Go.RowKit
set_option linter.unusedVariables false
set_option maxRecDepth 100000

set_option maxHeartbeats 2000000 in
/-- (*Replacer).Replace, its first call. -/
theorem replace_any (b g cap n : Nat) (d2 : Value) (l : List (UInt8 × List UInt8)) (s : ByteArray) (w : World) (n1 : 2 * l.length ≤ n) (n2 : n ≤ 2 * l.length) (hl : 2 ≤ l.length) (h8 : l.length ≤ 100) (hgb : g ≠ b)
  (hb : w.heap[b]? = some (.cells #[.int .u32 0, .int .i32 0, d2, .nilIface, .slice (some ⟨g, 0, none⟩) n cap] 163 (0, 0)))
  (ho : ∀ (j : Nat) (u : Value), (pairL l)[j]? = some u → w.cell? ⟨g, j, none⟩ = some u) (h1 : oneB l = false) (hk : keysOk l)
  (hs : s.size ≤ 1099511627776) (hm : ∀ x ∈ l, x.2.length ≤ 100) (hp1 : ∀ x ∈ l, 1 ≤ x.2.length) :
  Calls Tryz.prog 88 #[.pointer (some ⟨b, 0, none⟩), .string s] w fun e w' => e = .returned (.string ⟨(replL l s.data.toList).toArray⟩) ∧ Below b w w' := by
 have HD := Lib.hid (do_any b g cap n d2 l w n1 n2 hl h8 hgb hb ho h1 hk)
 have hmf : ∀ (fn : Fn) (first cap : Array Value) (w : World), (Instr.makeFunc fn first cap).run Tryz.prog w = .ok (.func fn first cap) w := fun _ _ _ _ => rfl
 have hbl := block_lt hb
 have HM := Lib.hid hm
 have HK := Lib.hid hk
 have HP1 := Lib.hid hp1
 clear hb ho h1 hk hm hp1
 go_enter Tryz.func88, Tryz.ntmps88
 go_wp2_with fail
 refine HD.out.mono ?_
 rintro e w1 ⟨R, rfl, hrep, hbel, hbR⟩
 have c3 : w1.cell? ⟨b, 3, none⟩ = some (.iface 191 (.pointer (some ⟨R, 0, none⟩))) := by rw [cell_of_row _ _ _ _ _ _ hbR]; rfl
 have HR := Lib.hid hrep
 have HBel := Lib.hid hbel
 clear hrep hbel hbR
 have hmeth := method_of
 go_wp2_with fail
 refine (run_any w.heap.size R l s _ HR.out HK.out hs h8 HM.out HP1.out).mono ?_
 rintro e w2 ⟨rfl, hb2⟩
 go_wp2
 go_ret
 exact ⟨rfl, HBel.out.trans (hb2.mono (by have := HBel.out.size; omega))⟩

end Go.Proofs.YtanncakdlflopaaGreatDoor
