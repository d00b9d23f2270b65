/- The grammar of expressions over tokens that lie among others: it reads the same; in plain Lean. -/
import Derived.Test.YtkackccmhghphaaGreatDoorExprBal
namespace Go.Proofs.YtkackccmhghphaaGreatDoor
open Go.RowKit
set_option linter.unusedVariables false
set_option linter.unusedSimpArgs false

/-- The tokens T lie among U from d on, but for the places that they tell; behind them U ends, or a closing bracket stands, or a token that is no sign and no keyword. -/
structure TEmb (U : List TokD) (d : Nat) (T : List TokD) : Prop where
 at_ : ∀ (i : Nat) (t : TokD), T[i]? = some t → ∃ a, U[d + i]? = some { t with at_ := a }
 end_ : ∀ s, isT U (d + T.length) s = true → s = [] ∨ s = [41]
def noAt (t : TokD) : TokD := { t with at_ := 0 }
theorem scanL_no : ∀ (l : List TokD) (d : Int), scanL (l.map noAt) d = scanL l d
 | [], d => rfl
 | t :: r, d => by
  rw [List.map_cons]
  unfold scanL
  rw [scanL_no r (d + 1), scanL_no r (d - 1), scanL_no r d]
  rfl
section
variable {U T : List TokD} {d i j x : Nat}
theorem TEmb.sg (h : TEmb U d T) (hx : x = d + i) (hi : i < T.length) : sgT U x = sgT T i := by
 subst hx
 obtain ⟨t, ht⟩ : ∃ t, T[i]? = some t := ⟨_, List.getElem?_eq_getElem hi⟩
 obtain ⟨a, ha⟩ := h.at_ i t ht
 unfold sgT
 rw [ht, ha]
theorem TEmb.isl (h : TEmb U d T) {s : List UInt8} (hx : x = d + i) (hi : i < T.length) : isT U x s = isT T i s := by
 unfold isT
 rw [h.sg hx hi]
theorem TEmb.is (h : TEmb U d T) {s : List UInt8} (hx : x = d + i) (hi : i ≤ T.length) (hs : s ≠ [] ∧ s ≠ [41]) : isT U x s = isT T i s := by
 by_cases hlt : i < T.length
 ·exact h.isl hx hlt
 ·have hie : i = T.length := by omega
  have h0 : isT T i s = false := by
   cases hb : isT T i s with
   | false => rfl
   | true =>
    obtain ⟨t, ht, -⟩ := isT_tok hb hs.1
    exact absurd (List.getElem?_eq_some_iff.1 ht).1 hlt
  rw [h0]
  cases hb : isT U x s with
  | false => rfl
  | true =>
   subst hx hie
   rcases h.end_ s hb with e | e
   ·exact absurd e hs.1
   ·exact absurd e hs.2
theorem relL_mem {s : List UInt8} (h : relL s ≠ 0) : s ≠ [] ∧ s ≠ [41] := by
 have h1 := rel_nb h
 refine ⟨h1.1, fun e => ?_⟩
 rw [e] at h1
 cases h1.2.2
theorem TEmb.rel (h : TEmb U d T) (hx : x = d + i) (hi : i ≤ T.length) : relT U x = relT T i := by
 by_cases hlt : i < T.length
 ·unfold relT
  rw [h.sg hx hlt]
 ·have hie : i = T.length := by omega
  have h0 : relT T i = 0 := by
   unfold relT
   rw [sgT_none (by omega), ByteArray.toList_eq]
   rfl
  rw [h0]
  by_cases hr : relT U x = 0
  ·exact hr
  ·subst hx hie
   have h1 := relL_mem (s := (sgT U (d + T.length)).toList) hr
   rcases h.end_ _ isT_self with e | e
   ·exact absurd e h1.1
   ·exact absurd e h1.2
theorem TEmb.seg (h : TEmb U d T) (hij : i ≤ j) (hj : j ≤ T.length) : (seg U (d + i) (d + j)).map noAt = (Go.Proofs.YtkackccmhghphaaGreatDoor.seg T i j).map noAt := by
 unfold Go.Proofs.YtkackccmhghphaaGreatDoor.seg
 apply List.ext_getElem?
 intro k
 rw [List.getElem?_map, List.getElem?_map]
 by_cases hk : k < j - i
 ·rw [List.getElem?_take_of_lt (by omega), List.getElem?_take_of_lt hk, List.getElem?_drop, List.getElem?_drop]
  obtain ⟨t, ht⟩ : ∃ t, T[i + k]? = some t := ⟨_, List.getElem?_eq_getElem (by omega)⟩
  obtain ⟨a, ha⟩ := h.at_ _ t ht
  rw [Nat.add_assoc, ht, ha]
  rfl
 ·rw [List.getElem?_eq_none (by rw [List.length_take]; omega), List.getElem?_eq_none (by rw [List.length_take]; omega)]
theorem seg_drop (hij : i ≤ j) : T.drop i = Go.Proofs.YtkackccmhghphaaGreatDoor.seg T i j ++ T.drop j := by
 unfold Go.Proofs.YtkackccmhghphaaGreatDoor.seg
 rw [show T.drop j = (T.drop i).drop (j - i) by rw [List.drop_drop, show i + (j - i) = j by omega], List.take_append_drop]
theorem TEmb.ivl (h : TEmb U d T) (hx : x = d + i) (hd : Dec T i j) (hij : i ≤ j) (hj : j ≤ T.length) : ivl U x = Go.Proofs.YtkackccmhghphaaGreatDoor.ivl T i := by
 subst hx
 obtain ⟨b, hb⟩ := hd
 have h2 : scanL (Go.Proofs.YtkackccmhghphaaGreatDoor.seg U (d + i) (d + j)) 0 = .inl b := by rw [← scanL_no, h.seg hij hj, scanL_no, hb]
 rw [ivl_scan, ivl_scan, seg_drop (T := U) (i := d + i) (j := d + j) (by omega), seg_drop (T := T) hij, scanL_app, scanL_app, hb, h2]
 rfl
theorem TEmb.ivc (h : TEmb U d T) (hx : x = d + i) (hi : i ≤ T.length) (hd : isO T i = true → Dec T i j) (hij : i ≤ j) (hj : j ≤ T.length) : ((isT U x [91] || isT U x [40]) && Go.Proofs.YtkackccmhghphaaGreatDoor.ivl U x) = ((isT T i [91] || isT T i [40]) && Go.Proofs.YtkackccmhghphaaGreatDoor.ivl T i) := by
 rw [h.is hx hi (by decide), h.is hx hi (by decide)]
 cases ho : (isT T i [91] || isT T i [40]) with
 | false => rfl
 | true => rw [h.ivl hx (hd ho) hij hj]
theorem isT_end {s : List UInt8} (h : isT T i s = true) (hs : s ≠ []) : i < T.length := by
 obtain ⟨t, ht, -⟩ := isT_tok h hs
 exact (List.getElem?_eq_some_iff.1 ht).1
end
set_option maxHeartbeats 2000000 in
theorem G_emb {U T : List TokD} {d : Nat} (hK : KndOk T) (hE : TEmb U d T) : ∀ (f : Nat) (N : NT) (i : Nat) (l : List NodeD) (n j : Nat), i ≤ T.length → N.cOk → N ≠ .unary → G T f N i = .ok l n j → ∀ (g x : Nat), f ≤ g → x = d + i → G U g N x = .ok l n (d + j) := by
 intro f
 induction f with
 | zero => intro N i l n j _ _ _ h; cases h
 | succ f ih =>
  intro N i l n j hi hN hu h g x hg hx
  have hw := h
  cases g with
  | zero => omega
  | succ g =>
  have hg' : f ≤ g := by omega
  have ih' : ∀ {N : NT} {i : Nat} {l : List NodeD} {n j : Nat}, G T f N i = .ok l n j → i ≤ T.length → N.cOk → N ≠ .unary → ∀ (g x : Nat), f ≤ g → x = d + i → G U g N x = .ok l n (d + j) := fun h hi a b => ih _ _ _ _ _ hi a b h
  have gto : ∀ {N : NT} {i : Nat} {l : List NodeD} {n j : Nat}, i ≤ T.length → N ≠ .unary → G T f N i = .ok l n j → i + N.pg ≤ j ∧ j ≤ T.length := fun hi hN h => by
   have := G_ok h hi (fun e => absurd e hN)
   exact ⟨this.from_, this.to_⟩
  have next : ∀ {i y : Nat}, y = d + i → y + 1 = d + (i + 1) := fun h => by omega
  cases N with
  | expr =>
   simp only [G] at h ⊢
   rw [hE.is hx hi (by decide)]
   split at h
   ·rename_i h1
    rw [if_pos h1]
    obtain ⟨a, _, p, ha, h⟩ := bind_inv h
    have l1 := isT_end h1 (by decide)
    have t1 := gto l1 (by simp) ha
    rw [ih' ha l1 trivial (by simp) g _ hg' (next hx)]
    split at h
    ·rename_i h2
     obtain ⟨b, _, q, hb, h⟩ := bind_inv h
     have l2 := isT_end h2 (by decide)
     have t2 := gto l2 (by simp) hb
     show (if isT U (d + p) _ = true then _ else _) = _
     rw [hE.is rfl t1.2 (by decide), if_pos h2, ih' hb l2 trivial (by simp) g _ hg' (next rfl)]
     split at h
     ·rename_i h3
      obtain ⟨c, _, r, hc, h⟩ := bind_inv h
      have l3 := isT_end h3 (by decide)
      show (if isT U (d + q) _ = true then _ else _) = _
      rw [hE.is rfl t2.2 (by decide), if_pos h3, ih' hc l3 trivial (by simp) g _ hg' (next rfl)]
      cases h
      rfl
     ·cases h
    ·cases h
   ·rename_i h1
    rw [if_neg h1]
    exact ih' h hi trivial (by simp) g _ hg' hx
  | or =>
   simp only [G] at h ⊢
   obtain ⟨a, _, p, ha, h⟩ := bind_inv h
   rw [ih' ha hi trivial (by simp) g _ hg' hx]
   exact ih' h (gto hi (by simp) ha).2 trivial (by simp) g _ hg' rfl
  | and =>
   simp only [G] at h ⊢
   obtain ⟨a, _, p, ha, h⟩ := bind_inv h
   rw [ih' ha hi trivial (by simp) g _ hg' hx]
   exact ih' h (gto hi (by simp) ha).2 trivial (by simp) g _ hg' rfl
  | sum =>
   simp only [G] at h ⊢
   obtain ⟨a, _, p, ha, h⟩ := bind_inv h
   rw [ih' ha hi trivial (by simp) g _ hg' hx]
   exact ih' h (gto hi (by simp) ha).2 trivial (by simp) g _ hg' rfl
  | prod =>
   simp only [G] at h ⊢
   obtain ⟨a, _, p, ha, h⟩ := bind_inv h
   rw [ih' ha hi trivial (by simp) g _ hg' hx]
   exact ih' h (gto hi (by simp) ha).2 trivial (by simp) g _ hg' rfl
  | tests =>
   simp only [G] at h ⊢
   obtain ⟨a, _, p, ha, h⟩ := bind_inv h
   rw [ih' ha hi trivial (by simp) g _ hg' hx]
   exact ih' h (gto hi (by simp) ha).2 trivial (by simp) g _ hg' rfl
  | orL a =>
   simp only [G] at h ⊢
   rw [hE.is hx hi (by decide)]
   split at h
   ·rename_i h1
    obtain ⟨b, _, p, hb, h⟩ := bind_inv h
    have l1 := isT_end h1 (by decide)
    rw [if_pos h1, ih' hb l1 trivial (by simp) g _ hg' (next hx)]
    exact ih' h (gto l1 (by simp) hb).2 trivial (by simp) g _ hg' rfl
   ·rename_i h1; rw [if_neg h1]; cases h; rw [hx]
  | andL a =>
   simp only [G] at h ⊢
   rw [hE.is hx hi (by decide)]
   split at h
   ·rename_i h1
    obtain ⟨b, _, p, hb, h⟩ := bind_inv h
    have l1 := isT_end h1 (by decide)
    rw [if_pos h1, ih' hb l1 trivial (by simp) g _ hg' (next hx)]
    exact ih' h (gto l1 (by simp) hb).2 trivial (by simp) g _ hg' rfl
   ·rename_i h1; rw [if_neg h1]; cases h; rw [hx]
  | sumL a =>
   simp only [G] at h ⊢
   rw [hE.is hx hi (by decide), hE.is hx hi (by decide)]
   split at h
   ·rename_i h1
    obtain ⟨b, _, p, hb, h⟩ := bind_inv h
    have l1 := isT_end h1 (by decide)
    rw [if_pos h1, ih' hb l1 trivial (by simp) g _ hg' (next hx)]
    exact ih' h (gto l1 (by simp) hb).2 trivial (by simp) g _ hg' rfl
   ·rename_i h0
    rw [if_neg h0]
    split at h
    ·rename_i h1
     obtain ⟨b, _, p, hb, h⟩ := bind_inv h
     have l1 := isT_end h1 (by decide)
     rw [if_pos h1, ih' hb l1 trivial (by simp) g _ hg' (next hx)]
     exact ih' h (gto l1 (by simp) hb).2 trivial (by simp) g _ hg' rfl
    ·rename_i h1; rw [if_neg h1]; cases h; rw [hx]
  | prodL a =>
   simp only [G] at h ⊢
   rw [hE.is hx hi (by decide), hE.is hx hi (by decide)]
   split at h
   ·rename_i h1
    obtain ⟨b, _, p, hb, h⟩ := bind_inv h
    have l1 := isT_end h1 (by decide)
    rw [if_pos h1, ih' hb l1 trivial (by simp) g _ hg' (next hx)]
    exact ih' h (gto l1 (by simp) hb).2 trivial (by simp) g _ hg' rfl
   ·rename_i h0
    rw [if_neg h0]
    split at h
    ·rename_i h1
     obtain ⟨b, _, p, hb, h⟩ := bind_inv h
     have l1 := isT_end h1 (by decide)
     rw [if_pos h1, ih' hb l1 trivial (by simp) g _ hg' (next hx)]
     exact ih' h (gto l1 (by simp) hb).2 trivial (by simp) g _ hg' rfl
    ·rename_i h1; rw [if_neg h1]; cases h; rw [hx]
  | cmp =>
   simp only [G] at h ⊢
   obtain ⟨a, _, p, ha, h⟩ := bind_inv h
   have hp := (gto hi (by simp) ha).2
   rw [ih' ha hi trivial (by simp) g _ hg' hx]
   show (if relT U (d + p) ≠ 0 then (G U g .sum (d + p + 1)).bind (fun b _ k => .ok (a ++ b ++ [nOp (relT U (d + p)) 2]) 0 k) else _) = _
   rw [hE.rel rfl hp, hE.is rfl hp (by decide), hE.is rfl hp (by decide)]
   split at h
   ·rename_i h1
    obtain ⟨b, _, q, hb, h⟩ := bind_inv h
    have l1 := relT_lt h1
    rw [if_pos h1, ih' hb l1 trivial (by simp) g _ hg' (next rfl)]
    cases h
    rfl
   ·rename_i h0
    rw [if_neg h0]
    split at h
    ·rename_i h1
     obtain ⟨b, _, q, hb, h⟩ := bind_inv h
     have l1 := isT_end h1 (by decide)
     rw [if_pos h1, ih' hb l1 trivial (by simp) g _ hg' (next rfl)]
     split at h
     ·rename_i h2
      obtain ⟨c, _, r, hc, h⟩ := bind_inv h
      have l2 := isT_end h2 (by decide)
      show (if isT U (d + q) _ = true then _ else _) = _
      rw [hE.is rfl (gto l1 (by simp) hb).2 (by decide), if_pos h2, ih' hc l2 trivial (by simp) g _ hg' (next rfl)]
      cases h
      rfl
     ·cases h
    ·rename_i h0'
     rw [if_neg h0']
     split at h
     ·rename_i h1
      obtain ⟨b, _, q, hb, h⟩ := bind_inv h
      have l1 := isT_end h1 (by decide)
      rw [if_pos h1, ih' hb l1 trivial (by simp) g _ hg' (next rfl)]
      cases h
      rfl
     ·rename_i h1; rw [if_neg h1]; cases h; rfl
  | sgn =>
   simp only [G] at h ⊢
   rw [hE.is hx hi (by decide)]
   split at h
   ·rename_i h1
    obtain ⟨b, _, p, hb, h⟩ := bind_inv h
    have l1 := isT_end h1 (by decide)
    rw [if_pos h1, ih' hb l1 trivial (by simp) g _ hg' (next hx)]
    cases h
    rfl
   ·rename_i h1
    rw [if_neg h1]
    obtain ⟨a, _, p, ha, h⟩ := bind_inv h
    rw [ih' ha hi trivial (by simp) g _ hg' hx]
    exact ih' h (gto hi (by simp) ha).2 trivial (by simp) g _ hg' rfl
  | pathL a =>
   simp only [G] at h ⊢
   rw [hE.is hx hi (by decide)]
   split at h
   ·rename_i h1
    rw [if_pos h1]
    split at h
    ·rename_i t ht
     obtain ⟨b, hb⟩ := hE.at_ _ t ht
     rw [show x + 1 = d + (i + 1) by omega, hb]
     split at h
     ·rename_i h4
      show (if t.kind = 4 then G U g (.pathL (a ++ [nTx 24 1 t.text])) (x + 2) else _) = _
      rw [if_pos h4]
      exact ih' h (some_lt ht) trivial (by simp) g _ hg' (by omega)
     ·cases h
    ·cases h
   ·rename_i h1; rw [if_neg h1]; cases h; rw [hx]
  | sing =>
   simp only [G] at h ⊢
   split at h
   ·cases h
   ·rename_i t ht
    obtain ⟨b, hb⟩ := hE.at_ _ t ht
    have l0 := some_lt ht
    rw [hx, hb]
    simp only
    rw [hE.is rfl hi (by decide), hE.is rfl hi (by decide), hE.is rfl hi (by decide), hE.is rfl hi (by decide), hE.is rfl hi (by decide), hE.is rfl hi (by decide), hE.is (x := d + i + 1) (i := i + 1) rfl l0 (by decide)]
    split at h
    ·rename_i hk; rw [if_pos hk]; cases h; rfl
    ·rename_i hk
     rw [if_neg hk]
     clear hk
     split at h
     ·rename_i hk; rw [if_pos hk]; cases h; rfl
     ·rename_i hk
      rw [if_neg hk]
      clear hk
      split at h
      ·rename_i hk; rw [if_pos hk]; cases h; rfl
      ·rename_i hk
       rw [if_neg hk]
       clear hk
       split at h
       ·rename_i hk
        rw [if_pos hk]
        split at h
        ·rename_i h1
         rw [if_pos h1]
         obtain ⟨a, m, p, ha, h⟩ := bind_inv h
         have l1 := isT_end h1 (by decide)
         rw [ih' ha l1 (.inl rfl) (by simp) g _ hg' (by omega)]
         split at h
         ·cases h
         ·rename_i h8
          show (if 8 < m then _ else _) = _
          rw [if_neg h8]
          cases h
          rfl
        ·rename_i h1; rw [if_neg h1]; cases h; rfl
       ·rename_i hk
        rw [if_neg hk]
        clear hk
        split at h
        ·rename_i hk; rw [if_pos hk]; cases h; rfl
        ·rename_i hk
         rw [if_neg hk]
         clear hk
         split at h
         ·rename_i hk; rw [if_pos hk]; cases h; rfl
         ·rename_i hk
          rw [if_neg hk]
          clear hk
          split at h
          ·rename_i hk; rw [if_pos hk]; cases h; rfl
          ·rename_i hk
           rw [if_neg hk]
           clear hk
           split at h
           ·rename_i hk
            rw [if_pos hk]
            obtain ⟨a, m, p, ha, h⟩ := bind_inv h
            rw [ih' ha l0 trivial (by simp) g _ hg' (by omega)]
            split at h
            ·rename_i h2
             show (if isT U (d + p) _ = true then _ else _) = _
             rw [hE.isl rfl (isT_end h2 (by decide)), if_pos h2]
             cases h
             rfl
            ·cases h
           ·rename_i hk
            rw [if_neg hk]
            clear hk
            split at h
            ·rename_i hk
             rw [if_pos hk]
             obtain ⟨a, m, p, ha, h⟩ := bind_inv h
             rw [ih' ha l0 (.inr rfl) (by simp) g _ hg' (by omega)]
             cases h
             rfl
            ·rename_i hk
             rw [if_neg hk]
             clear hk
             split at h
             ·rename_i hk
              rw [if_pos hk]
              obtain ⟨a, m, p, ha, h⟩ := bind_inv h
              rw [ih' ha l0 trivial (by simp) g _ hg' (by omega)]
              cases h
              rfl
             ·cases h
  | list e =>
   have hlt : i < T.length := by
    have := G_ok hw hi (fun e => absurd e (by simp))
    have h1 := this.from_
    have h2 := this.to_
    simp only [NT.pg] at h1
    omega
   simp only [G] at h ⊢
   rw [hE.isl hx hlt]
   split at h
   ·rename_i h1; rw [if_pos h1]; cases h; rw [hx]; rfl
   ·rename_i h1
    rw [if_neg h1]
    exact ih' h hi hN (by simp) g _ hg' hx
  | listL e a m =>
   simp only [G] at h ⊢
   obtain ⟨b, _, p, hb, h⟩ := bind_inv h
   have hp := (gto hi (by simp) hb).2
   rw [ih' hb hi trivial (by simp) g _ hg' hx]
   show (if isT U (d + p) _ = true then _ else if isT U (d + p) _ = true then _ else _) = _
   rw [hE.is (s := [44]) rfl hp (by decide)]
   split at h
   ·rename_i h1
    rw [hE.isl rfl (isT_end h1 (by simp)), if_pos h1]
    cases h
    rfl
   ·rename_i h1
    split at h
    ·rename_i h2
     rw [hE.isl rfl (isT_end h2 (by simp)), if_neg h1, if_pos h2]
     exact ih' h (isT_end h2 (by simp)) hN (by simp) g _ hg' (next rfl)
    ·cases h
  | ctx =>
   simp only [G] at h ⊢
   rw [hE.is hx hi (by decide)]
   split at h
   ·rename_i h1; rw [if_pos h1]; cases h; rw [hx]; rfl
   ·rename_i h1
    rw [if_neg h1]
    exact ih' h hi trivial (by simp) g _ hg' hx
  | ctxL a ns =>
   simp only [G] at h ⊢
   split at h
   ·cases h
   ·rename_i t ht
    obtain ⟨c, hc⟩ := hE.at_ _ t ht
    have l0 := some_lt ht
    rw [hx, hc]
    simp only
    rw [hE.is (x := d + i + 1) (i := i + 1) rfl l0 (by decide)]
    split at h
    ·rename_i h4
     rw [if_pos h4]
     split at h
     ·cases h
     ·rename_i hn
      rw [if_neg hn]
      split at h
      ·rename_i h1
       rw [if_pos h1]
       obtain ⟨b, _, p, hb, h⟩ := bind_inv h
       have l1 := isT_end h1 (by decide)
       have hp := (gto l1 (by simp) hb).2
       rw [ih' hb l1 trivial (by simp) g _ hg' (by omega)]
       show (if isT U (d + p) _ = true then _ else if isT U (d + p) _ = true then _ else _) = _
       rw [hE.is rfl hp (by decide), hE.is rfl hp (by decide)]
       split at h
       ·rename_i h2; rw [if_pos h2]; cases h; rfl
       ·rename_i h2
        rw [if_neg h2]
        split at h
        ·rename_i h3
         rw [if_pos h3]
         exact ih' h (isT_end h3 (by decide)) trivial (by simp) g _ hg' (next rfl)
        ·cases h
      ·cases h
    ·cases h
  | grp =>
   simp only [G] at h ⊢
   rw [hE.is hx hi (by decide)]
   split at h
   ·rename_i h1
    obtain ⟨a, m, p, ha, h⟩ := bind_inv h
    have l1 := isT_end h1 (by decide)
    rw [if_pos h1, ih' ha l1 trivial (by simp) g _ hg' (next hx)]
    split at h
    ·rename_i h2
     show (if isT U (d + p) _ = true then _ else _) = _
     rw [hE.isl rfl (isT_end h2 (by decide)), if_pos h2]
     cases h
     rfl
    ·cases h
   ·cases h
  | testsL a m =>
   simp only [G] at h ⊢
   rw [hE.is hx hi (by decide)]
   split at h
   ·rename_i h1
    obtain ⟨b, _, p, hb, h⟩ := bind_inv h
    have l1 := isT_end h1 (by decide)
    rw [if_pos h1, ih' hb l1 trivial (by simp) g _ hg' (next hx)]
    exact ih' h (gto l1 (by simp) hb).2 trivial (by simp) g _ hg' rfl
   ·rename_i h1; rw [if_neg h1]; cases h; rw [hx]
  | test =>
   have hB : GB T .test i j := G_bal hK _ _ _ _ _ _ trivial (by simp) hw
   have hj := (G_ok hw hi (fun e => absurd e (by simp))).to_
   simp only [G] at h ⊢
   rw [hE.rel hx hi, hE.ivc hx hi (hB.dec rfl) (hB.op rfl).1 hj]
   split at h
   ·rename_i h1
    obtain ⟨b, _, q, hb, h⟩ := bind_inv h
    have l1 := relT_lt (T := T) (i := i) (by omega)
    rw [if_pos h1, ih' hb l1 trivial (by simp) g _ hg' (next hx)]
    cases h
    rfl
   ·rename_i h0
    rw [if_neg h0]
    split at h
    ·rename_i h1
     rw [if_pos h1]
     obtain ⟨b, _, p, hb, h⟩ := bind_inv h
     have l0 : i < T.length := by
      rw [Bool.and_eq_true, Bool.or_eq_true] at h1
      rcases h1.1 with h | h
      ·exact isT_end h (by decide)
      ·exact isT_end h (by decide)
     have hp := (gto l0 (by simp) hb).2
     rw [ih' hb l0 trivial (by simp) g _ hg' (next hx)]
     split at h
     ·rename_i h2
      obtain ⟨c, _, q, hc, h⟩ := bind_inv h
      have l2 := isT_end h2 (by decide)
      show (if isT U (d + p) _ = true then _ else _) = _
      rw [hE.is rfl hp (by decide), if_pos h2, ih' hc l2 trivial (by simp) g _ hg' (next rfl)]
      split at h
      ·rename_i h3
       have l3 : q < T.length := by
        rw [Bool.or_eq_true] at h3
        rcases h3 with h | h
        ·exact isT_end h (by decide)
        ·exact isT_end h (by decide)
       show (if (isT U (d + q) _ || isT U (d + q) _) = true then PR.ok (b ++ c ++ [nTx 35 2 (sgT U x ++ sgT U (d + q))]) 0 (d + q + 1) else _) = _
       rw [hE.isl rfl l3, hE.isl rfl l3, if_pos h3, hE.sg hx l0, hE.sg rfl l3]
       cases h
       rfl
      ·cases h
     ·cases h
    ·rename_i h1
     rw [if_neg h1]
     obtain ⟨b, _, p, hb, h⟩ := bind_inv h
     rw [ih' hb hi trivial (by simp) g _ hg' hx]
     cases h
     rfl
  | unary => exact absurd rfl hu
end Go.Proofs.YtkackccmhghphaaGreatDoor
