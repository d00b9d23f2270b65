/- The walk over tarifflaw05.MarkSpells. (short) -/
import Derived.Test.YtanncakdlflopaaGreatDoorMarkV
import Derived.Test.YtanncakdlflopaaGreatDoorMarkJ
namespace Go.Proofs.YtanncakdlflopaaGreatDoor
open Go.RowKit
set_option linter.unusedVariables false
set_option linter.unusedSimpArgs false
set_option maxRecDepth 100000

theorem evin_of {w0 W : World} {L : List Res} {p : Option Addr} {c : Nat} {ms : List EvM} (h : Mem w0 W L) (h1 : .row p c 57 4 ms.length (outC ms) ∈ L) (h2 : ∀ r ∈ outR ms, r ∈ L) (hl : ∀ e ∈ outD ms, e.l.length ≤ 4611686018427387904) : EvIn W p ms :=
  ⟨row_sl (h.holds _ h1), fun m hm => ⟨row_sl (h.holds _ (h2 _ (List.mem_map.2 ⟨m, hm, rfl⟩))), hl _ (List.mem_map.2 ⟨m, hm, rfl⟩)⟩⟩

theorem outC_one (ms : List EvM) : ∀ u ∈ outC ms, u.oneCell' = true := by
  intro u hu
  obtain ⟨x, -, hx⟩ := List.mem_flatMap.1 hu
  simp only [EvM.cs, List.mem_cons, List.not_mem_nil, or_false] at hx
  rcases hx with rfl | rfl | rfl | rfl <;> rfl

theorem outR_app (a b : List EvM) : outR (a ++ b) = outR a ++ outR b := by simp [outR]

theorem outC_app (a b : List EvM) : outC (a ++ b) = outC a ++ outC b := by simp [outC]

theorem outD_app (a b : List EvM) : outD (a ++ b) = outD a ++ outD b := by simp [outD]

/-- What spelled left beside the law's row, in an order of our own. -/
theorem law_join {w0 W1 W2 : World} {b r r2 : Res} {ms ms2 : List EvM} (h0 : Mem w0 W1 (b :: r :: outR ms)) (h : Mem W1 W2 (r2 :: outR ms2)) : Mem w0 W2 (r :: r2 :: (outR ms ++ outR ms2)) := by
  have h1 := h0.comp2 h
  refine Mem.sub (L := b :: r :: r2 :: (outR ms ++ outR ms2)) (h1.perm ?_) (.cons _ (.refl _))
  calc (r2 :: outR ms2) ++ (b :: r :: outR ms) = r2 :: (outR ms2 ++ (b :: r :: outR ms)) := rfl
    _ |>.Perm (r2 :: ((b :: r :: outR ms) ++ outR ms2)) := .cons _ List.perm_append_comm
    _ |>.Perm (b :: r :: r2 :: (outR ms ++ outR ms2)) := by
      simp only [List.cons_append]
      exact (List.Perm.swap _ _ _).trans (.cons _ (List.Perm.swap _ _ _))

theorem law_drop {w0 W : World} {r r2 : Res} {ms ms2 : List EvM} (h : Mem w0 W (r :: r2 :: (outR ms ++ outR ms2))) : Mem w0 W (r :: outR (ms ++ ms2)) := by
  rw [outR_app]
  exact h.sub (.cons_cons _ (.cons _ (.refl _)))

end Go.Proofs.YtanncakdlflopaaGreatDoor
