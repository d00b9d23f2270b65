/- The walks over Quote, of the package and of the reference. -/
import Derived.Test.YtfnodoepeiknhaaGreatDoorReplLong
import Derived.Test.YtfnodoepeiknhaaGreatDoorQuotePlain
import Derived.Test.YtfnodoepeiknhaaGreatDoorCharsKnown
import Derived.Test.YtfnodoepeiknhaaGreatDoorCharsA
namespace Go.Proofs.YtfnodoepeiknhaaGreatDoor
open Go.RowKit
set_option linter.unusedVariables false
set_option maxRecDepth 100000

set_option maxHeartbeats 2000000 in
/-- (*Replacer).Replace, its first call. -/
theorem replace_any (b g cap n : Nat) (d2 : Value) (l : List (UInt8 × List UInt8)) (s : ByteArray) (w : World) (n1 : 2 * l.length ≤ n) (n2 : n ≤ 2 * l.length) (hl : 2 ≤ l.length) (h8 : l.length ≤ 100) (hgb : g ≠ b)
    (hb : w.heap[b]? = some (.cells #[.int .u32 0, .int .i32 0, d2, .nilIface, .slice (some ⟨g, 0, none⟩) n cap] 96 (0, 0)))
    (ho : ∀ (j : Nat) (u : Value), (pairL l)[j]? = some u → w.cell? ⟨g, j, none⟩ = some u) (h1 : oneB l = false) (hk : keysOk l)
    (hs : s.size ≤ 1099511627776) (hm : ∀ x ∈ l, x.2.length ≤ 100) (hp1 : ∀ x ∈ l, 1 ≤ x.2.length) :
    Calls Tryz.prog 27 #[.pointer (some ⟨b, 0, none⟩), .string s] w fun e w' => e = .returned (.string ⟨(replL l s.data.toList).toArray⟩) ∧ Below b w w' := by
  have HD := Lib.hid (do_any b g cap n d2 l w n1 n2 hl h8 hgb hb ho h1 hk)
  have hmf : ∀ (fn : Fn) (first cap : Array Value) (w : World), (Instr.makeFunc fn first cap).run Tryz.prog w = .ok (.func fn first cap) w := fun _ _ _ _ => rfl
  have hbl := block_lt hb
  have HM := Lib.hid hm
  have HK := Lib.hid hk
  have HP1 := Lib.hid hp1
  clear hb ho h1 hk hm hp1
  go_enter Tryz.func27, Tryz.ntmps27
  go_wp2_with fail
  refine HD.out.mono ?_
  rintro e w1 ⟨R, rfl, hrep, hbel, hbR⟩
  have c3 : w1.cell? ⟨b, 3, none⟩ = some (.iface 155 (.pointer (some ⟨R, 0, none⟩))) := by rw [cell_of_row _ _ _ _ _ _ hbR]; rfl
  have HR := Lib.hid hrep
  have HBel := Lib.hid hbel
  clear hrep hbel hbR
  have hmeth := method_of
  go_wp2_with fail
  refine (run_any w.heap.size R l s _ HR.out HK.out hs h8 HM.out HP1.out).mono ?_
  rintro e w2 ⟨rfl, hb2⟩
  go_wp2
  go_ret
  exact ⟨rfl, HBel.out.trans (hb2.mono (by have := HBel.out.size; omega))⟩

theorem quo_keys : keysOk quoL := by
  intro i j x y hij hx hy
  have hj : j < 5 := (List.getElem?_eq_some_iff.1 hy).1
  have hc : (i = 0 ∧ j = 1) ∨ (i = 0 ∧ j = 2) ∨ (i = 0 ∧ j = 3) ∨ (i = 0 ∧ j = 4) ∨ (i = 1 ∧ j = 2) ∨ (i = 1 ∧ j = 3) ∨ (i = 1 ∧ j = 4) ∨ (i = 2 ∧ j = 3) ∨ (i = 2 ∧ j = 4) ∨ (i = 3 ∧ j = 4) := by omega
  rcases hc with ⟨rfl, rfl⟩ | ⟨rfl, rfl⟩ | ⟨rfl, rfl⟩ | ⟨rfl, rfl⟩ | ⟨rfl, rfl⟩ | ⟨rfl, rfl⟩ | ⟨rfl, rfl⟩ | ⟨rfl, rfl⟩ | ⟨rfl, rfl⟩ | ⟨rfl, rfl⟩ <;> (simp [quoL] at hx hy; subst hx hy; decide)
theorem quo_len (l : List UInt8) : (replL quoL l).length ≤ 2 * l.length := replL_len (m := 2) (by omega) (by intro x hx; simp [quoL] at hx; rcases hx with rfl | rfl | rfl | rfl | rfl <;> simp) l

/-- What Quote answers. -/
def quoteV (s : ByteArray) : Value := match chars s.data.toList with
  | some _ => .tuple #[.string ⟨(quotedL s.data.toList).toArray⟩, .int .i64 0]
  | none => .tuple #[.string ⟨#[]⟩, .int .i64 2]
theorem quoteV_some {s : ByteArray} {cs : List Nat} (h : chars s.data.toList = some cs) : quoteV s = .tuple #[.string ⟨(quotedL s.data.toList).toArray⟩, .int .i64 0] := by unfold quoteV; rw [h]
theorem quoteV_none {s : ByteArray} (h : chars s.data.toList = none) : quoteV s = .tuple #[.string ⟨#[]⟩, .int .i64 2] := by unfold quoteV; rw [h]

end Go.Proofs.YtfnodoepeiknhaaGreatDoor
