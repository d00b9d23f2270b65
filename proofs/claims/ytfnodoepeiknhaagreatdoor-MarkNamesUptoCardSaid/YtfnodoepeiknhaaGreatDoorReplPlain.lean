/- What a byteStringReplacer's Replace answers, over lists of bytes: no program in sight. -/
import Derived.WalkKit
namespace Go.Proofs.YtfnodoepeiknhaaGreatDoor

/-- The pair of a byte. -/
def pairOf (l : List (UInt8 × List UInt8)) (c : Nat) : Option (UInt8 × List UInt8) := l.find? (fun x => x.1.toNat == c)
def replC (l : List (UInt8 × List UInt8)) (c : UInt8) : List UInt8 := match pairOf l c.toNat with | some x => x.2 | none => [c]
def replL (l : List (UInt8 × List UInt8)) (s : List UInt8) : List UInt8 := s.flatMap (replC l)
def chgB (l : List (UInt8 × List UInt8)) (s : List UInt8) : Bool := s.any fun c => (pairOf l c.toNat).isSome

theorem replL_take {l : List (UInt8 × List UInt8)} {s : List UInt8} {k : Nat} {c : UInt8} (h : s[k]? = some c) : replL l (s.take (k + 1)) = replL l (s.take k) ++ replC l c := by
  unfold replL
  rw [List.take_add_one, h]
  simp

theorem chgB_take {l : List (UInt8 × List UInt8)} {s : List UInt8} {k : Nat} {c : UInt8} (h : s[k]? = some c) : chgB l (s.take (k + 1)) = (chgB l (s.take k) || (pairOf l c.toNat).isSome) := by
  unfold chgB
  rw [List.take_add_one, h]
  simp

theorem replL_same {l : List (UInt8 × List UInt8)} : ∀ {s : List UInt8}, chgB l s = false → replL l s = s
  | [], _ => rfl
  | c :: s, h => by
    unfold chgB at h
    rw [List.any_cons, Bool.or_eq_false_iff] at h
    have ih := replL_same (l := l) (s := s) h.2
    unfold replL at ih ⊢
    rw [List.flatMap_cons, ih]
    have : replC l c = [c] := by
      unfold replC
      cases hp : pairOf l c.toNat with
      | none => rfl
      | some x => rw [hp] at h; cases h.1
    rw [this]
    rfl

theorem replC_len {l : List (UInt8 × List UInt8)} {m : Nat} (hm : 1 ≤ m) (hl : ∀ x ∈ l, x.2.length ≤ m) (c : UInt8) : (replC l c).length ≤ m := by
  unfold replC pairOf
  split
  · rename_i x hx
    exact hl x (List.mem_of_find?_eq_some hx)
  · simpa using hm

theorem replL_len {l : List (UInt8 × List UInt8)} {m : Nat} (hm : 1 ≤ m) (hl : ∀ x ∈ l, x.2.length ≤ m) : ∀ (s : List UInt8), (replL l s).length ≤ m * s.length
  | [] => by simp [replL]
  | c :: s => by
    have h1 := replC_len hm hl c
    have h2 := replL_len hm hl s
    unfold replL at h2 ⊢
    rw [List.flatMap_cons, List.length_append, List.length_cons, Nat.mul_succ]
    omega

theorem replL_app {l : List (UInt8 × List UInt8)} (a b : List UInt8) : replL l (a ++ b) = replL l a ++ replL l b := by
  unfold replL
  rw [List.flatMap_append]
end Go.Proofs.YtfnodoepeiknhaaGreatDoor
