/- The walk over strings.NewReplacer: the pairs are copied into a row of the call's own. -/
import Derived.Test.YtfnodoepeiknhaaGreatDoorProg
import Derived.WalkKit
import Derived.WalkSpells
import Derived.WalkLawsBesides
import Derived.Lib.Hide
namespace Go.Proofs.YtfnodoepeiknhaaGreatDoor
open Go.RowKit
set_option linter.unusedVariables false

theorem r_info : (Tryz.prog.info? 9).map (fun i => (i.zero, i.size, i.bytes)) = some (some (.string ⟨#[]⟩), 1, 16) := by kernel_rfl

/-- A Replacer as NewReplacer lays it: not yet built, its pairs in a row of its own. -/
def IsNew (w0 w : World) (b : Nat) (strs : List Value) : Prop :=
  w0.heap.size ≤ b ∧ ∃ v, w.heap[b]? = some (.cells #[.int .u32 0, .int .i32 0, .int .u32 0, .nilIface, v] 96 (0, 0)) ∧ w.ownsRow w0.heap.size 9 1 v strs.length strs

theorem own_shape {w : World} {B : Nat} {E : TypeId} {k : Nat} {v : Value} {n : Nat} {xs : List Value} (h : w.ownsRow B E k v n xs) (hn : 0 < n) : ∃ g cap, v = .slice (some ⟨g, 0, none⟩) n cap := by
  obtain ⟨_, ⟨_, h0⟩ | ⟨g, cap, cur, hv, _⟩⟩ := h
  · omega
  · exact ⟨g, cap, hv⟩

set_option maxRecDepth 100000 in
set_option maxHeartbeats 1000000 in
theorem new_any (bo : Nat) (n : Nat) (strs : List Value) (w : World) (hn : n = strs.length) (h2 : ((n : Int) % 2 == 1) = false) (h9 : n ≤ 1000) (hp : 0 < n)
    (hc : ∀ j u, strs[j]? = some u → w.cell? ((⟨bo, 0, none⟩ : Addr).add j) = some u) (h1 : ∀ u ∈ strs, u.oneCell' = true) :
    Calls Tryz.prog 26 #[.slice (some ⟨bo, 0, none⟩) n n] w fun e w' => ∃ b, e = .returned (.pointer (some ⟨b, 0, none⟩)) ∧ IsNew w w' b strs ∧ Below w.heap.size w w' := by
  obtain ⟨i0, hi, hz0, hz1, hz2⟩ := info_parts r_info
  have hown : w.ownsRow w.heap.size 9 1 (.slice none 0 0) 0 [] := ⟨rfl, Or.inl ⟨rfl, rfl⟩⟩
  have Hc := Lib.hid hc
  have K1 := Lib.hid (show strs.length = n * 1 by omega)
  have Hn := Lib.hid hn
  have K3 := Lib.hid (show 0 + n ≤ maxLen by unfold maxLen; omega)
  have K4 := Lib.hid (show (0 + n) * 16 ≤ 140737488355328 by omega)
  clear hc hn
  go_enter Tryz.func26, Tryz.ntmps26
  go_wp2_with (at_builtin; refine wpList_append_own _ rfl _ _ 80 rfl w.heap.size 9 i0 (.string ⟨#[]⟩) 1 16 Tryz.underlying80 hi hz0 hz1 hz2 rfl (by decide) _ 0 [] rfl hown ⟨bo, 0, none⟩ n n strs rfl K1.out Hc.out h1 K3.out K4.out (Nat.le_refl _) ?_; intro v' w1 hown1 hgrow hnil; clear hnil; rw [Nat.zero_add, List.nil_append] at hown1; obtain ⟨g, cap, hv⟩ := own_shape hown1 hp; rw [hv] at hown1 ⊢; clear hv)
  go_ret
  have hg : Below w.heap.size w w1 := (Below.refl _ w).grown (row := none) hgrow (Nat.le_refl _) (fun _ h => by cases h)
  refine ⟨w1.heap.size, rfl, ⟨hg.size, _, (MapKept.heap_alloc _ _).1, ?_⟩, hg.alloc hg.size _⟩
  rw [← Hn.out]
  exact hown1.alloc _

end Go.Proofs.YtfnodoepeiknhaaGreatDoor
