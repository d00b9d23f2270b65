/- A value's own form, by cases: plain. -/
import Derived.Test.YtgobdcmoelcckaaGreatDoorValPlain
namespace Go.Proofs.YtgobdcmoelcckaaGreatDoor
open Go.RowKit
set_option linter.unusedVariables false
set_option linter.unusedSimpArgs false
set_option maxRecDepth 100000

theorem depth_snoc {l : List VD} {i n z : Nat} {x : VD} (h : n = VD.depthL (l.take i)) (ht : l.take (i + 1) = l.take i ++ [x]) (hz : x.depth = z) : max n z = VD.depthL (l.take (i + 1)) := by
  rw [ht, VD.depthL_append, ← h, ← hz]; simp [VD.depthL]
theorem form_snoc {l : List VD} {i : Nat} {o u b : Bool} {x : VD} (h : b = (o && VD.formL (l.take i))) (ht : l.take (i + 1) = l.take i ++ [x]) (hz : x.form = u) : (b && u) = (o && VD.formL (l.take (i + 1))) := by
  rw [ht, VD.formL_append, h, ← hz]; simp [VD.formL, Bool.and_assoc]
/-- VD.own over a value's parts. -/
def ownB (a : Bool) (k : Int) (num : DcD) (t : ByteArray) (d : Int) (ll : Nat) (ns : List ByteArray) : Bool := a && (if k = 0 ∨ k = 1 ∨ k = 5 then true else if k = 2 then dcmB num.neg num.n num.sc else if k = 3 then decide (t.size ≤ 1000) && textB t else if k = 4 then decide (1 ≤ d) && decide (d ≤ 3652059) else if k = 6 then decide (ns.length = ll) && namesB ns else false)
theorem own_eq (v : VD) : v.own = ownB v.bare v.k v.num v.text v.day v.l.length v.ns := rfl
theorem dcd_w2 {ng : Bool} {hi lo : Nat} {sc : Int} (h1 : hi < 2 ^ 64) (h2 : lo < 2 ^ 64) : W2 (DcD.mk ng hi lo sc).n hi lo := ⟨rfl, h2, h1⟩
/-- What the switch makes of it: the cases. -/
inductive OwnC (o fd fv fn : Bool) (k : Int) (tz : Nat) (d : Int) (nl ll : Nat) : Bool → Prop where
  | c0 : 0 ≤ k → k ≤ 0 → o = true → OwnC o fd fv fn k tz d nl ll true
  | c1 : 1 ≤ k → k ≤ 1 → o = true → OwnC o fd fv fn k tz d nl ll true
  | c5 : 5 ≤ k → k ≤ 5 → o = true → OwnC o fd fv fn k tz d nl ll true
  | c2 : 2 ≤ k → k ≤ 2 → o = fd → OwnC o fd fv fn k tz d nl ll true
  | c3a : 3 ≤ k → k ≤ 3 → 1000 < tz → o = false → OwnC o fd fv fn k tz d nl ll true
  | c3b : 3 ≤ k → k ≤ 3 → tz ≤ 1000 → o = fv → OwnC o fd fv fn k tz d nl ll true
  | c4a : 4 ≤ k → k ≤ 4 → d < 1 → o = false → OwnC o fd fv fn k tz d nl ll true
  | c4b : 4 ≤ k → k ≤ 4 → 1 ≤ d → d ≤ 3652059 → o = true → OwnC o fd fv fn k tz d nl ll true
  | c4c : 4 ≤ k → k ≤ 4 → 1 ≤ d → 3652059 < d → o = false → OwnC o fd fv fn k tz d nl ll true
  | c6a : 6 ≤ k → k ≤ 6 → nl < ll → o = false → OwnC o fd fv fn k tz d nl ll true
  | c6b : 6 ≤ k → k ≤ 6 → ll < nl → o = false → OwnC o fd fv fn k tz d nl ll true
  | c6c : 6 ≤ k → k ≤ 6 → nl ≤ ll → ll ≤ nl → o = fn → OwnC o fd fv fn k tz d nl ll true
  | cl : k < 0 → o = false → OwnC o fd fv fn k tz d nl ll true
  | cg : 6 < k → o = false → OwnC o fd fv fn k tz d nl ll true
  | d0 : 0 ≤ k → k ≤ 0 → o = false → OwnC o fd fv fn k tz d nl ll false
  | d1 : 1 ≤ k → k ≤ 1 → o = false → OwnC o fd fv fn k tz d nl ll false
  | d2 : 2 ≤ k → k ≤ 2 → o = false → OwnC o fd fv fn k tz d nl ll false
  | d3 : 3 ≤ k → k ≤ 3 → o = false → OwnC o fd fv fn k tz d nl ll false
  | d4 : 4 ≤ k → k ≤ 4 → o = false → OwnC o fd fv fn k tz d nl ll false
  | d5 : 5 ≤ k → k ≤ 5 → o = false → OwnC o fd fv fn k tz d nl ll false
  | d6 : 6 ≤ k → k ≤ 6 → o = false → OwnC o fd fv fn k tz d nl ll false
  | dl : k < 0 → o = false → OwnC o fd fv fn k tz d nl ll false
  | dg : 6 < k → o = false → OwnC o fd fv fn k tz d nl ll false
theorem own_cases (a : Bool) (k : Int) (num : DcD) (t : ByteArray) (d : Int) (ll : Nat) (ns : List ByteArray) : OwnC (ownB a k num t d ll ns) (dcmB num.neg num.n num.sc) (textB t) (namesB ns) k t.size d ns.length ll a := by
  have h0 : k = 0 ∨ k = 1 ∨ k = 2 ∨ k = 3 ∨ k = 4 ∨ k = 5 ∨ k = 6 ∨ k < 0 ∨ 6 < k := by omega
  cases a with
  | false =>
    rcases h0 with rfl | rfl | rfl | rfl | rfl | rfl | rfl | h | h
    · exact .d0 (by decide) (by decide) rfl
    · exact .d1 (by decide) (by decide) rfl
    · exact .d2 (by decide) (by decide) rfl
    · exact .d3 (by decide) (by decide) rfl
    · exact .d4 (by decide) (by decide) rfl
    · exact .d5 (by decide) (by decide) rfl
    · exact .d6 (by decide) (by decide) rfl
    · exact .dl h rfl
    · exact .dg h rfl
  | true =>
    rcases h0 with rfl | rfl | rfl | rfl | rfl | rfl | rfl | h | h
    · exact .c0 (by decide) (by decide) rfl
    · exact .c1 (by decide) (by decide) rfl
    · exact .c2 (by decide) (by decide) (by simp [ownB])
    · rcases Nat.lt_or_ge 1000 t.size with h | h
      · exact .c3a (by decide) (by decide) h (by simp [ownB, show ¬ t.size ≤ 1000 by omega])
      · exact .c3b (by decide) (by decide) h (by simp [ownB, h])
    · rcases Int.lt_or_le d 1 with h | h
      · exact .c4a (by decide) (by decide) h (by simp [ownB]; omega)
      · rcases Int.lt_or_le 3652059 d with h' | h'
        · exact .c4c (by decide) (by decide) h h' (by simp [ownB]; omega)
        · exact .c4b (by decide) (by decide) h h' (by simp [ownB]; omega)
    · exact .c5 (by decide) (by decide) rfl
    · rcases Nat.lt_trichotomy ns.length ll with h | h | h
      · exact .c6a (by decide) (by decide) h (by simp [ownB, show ¬ ns.length = ll by omega])
      · exact .c6c (by decide) (by decide) (by omega) (by omega) (by simp [ownB, h])
      · exact .c6b (by decide) (by decide) h (by simp [ownB, show ¬ ns.length = ll by omega])
    · exact .cl h (by simp [ownB, show ¬ k = 0 by omega, show ¬ k = 1 by omega, show ¬ k = 2 by omega, show ¬ k = 3 by omega, show ¬ k = 4 by omega, show ¬ k = 5 by omega, show ¬ k = 6 by omega])
    · exact .cg h (by simp [ownB, show ¬ k = 0 by omega, show ¬ k = 1 by omega, show ¬ k = 2 by omega, show ¬ k = 3 by omega, show ¬ k = 4 by omega, show ¬ k = 5 by omega, show ¬ k = 6 by omega])
end Go.Proofs.YtgobdcmoelcckaaGreatDoor
