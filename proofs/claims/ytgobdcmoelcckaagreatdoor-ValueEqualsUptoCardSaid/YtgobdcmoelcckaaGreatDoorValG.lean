/- The same in every part: alike. (short) -/
import Derived.Test.YtgobdcmoelcckaaGreatDoorValF
namespace Go.Proofs.YtgobdcmoelcckaaGreatDoor
open Go.RowKit
set_option linter.unusedVariables false
set_option linter.unusedSimpArgs false
set_option maxRecDepth 100000

/-- VD.same over two values' parts. -/
def sameB (k k' : Int) (y y' : Bool) (n n' : DcD) (t t' : ByteArray) (d d' : Int) (r1 r2 : Bool) : Bool := decide (k = k' ∧ y = y' ∧ n = n' ∧ t.toList = t'.toList ∧ d = d') && r1 && r2
theorem same_eq (k k' : Int) (y y' : Bool) (n n' : DcD) (t t' : ByteArray) (d d' : Int) (l l' : List VD) (ns ns' : List ByteArray) : VD.same (.mk k y n t d l ns) (.mk k' y' n' t' d' l' ns') = sameB k k' y y' n n' t t' d d' (decide (ns.map (·.toList) = ns'.map (·.toList))) (VD.sameL l l') := by
  simp only [VD.same, sameB]
  rw [Bool.eq_iff_iff]
  simp only [Bool.and_eq_true, decide_eq_true_eq]
  constructor
  · rintro ⟨⟨h1, h2, h3, h4, h5, h6⟩, h7⟩; exact ⟨⟨⟨h1, h2, h3, h4, h5⟩, h6⟩, h7⟩
  · rintro ⟨⟨⟨h1, h2, h3, h4, h5⟩, h6⟩, h7⟩; exact ⟨⟨h1, h2, h3, h4, h5, h6⟩, h7⟩

set_option maxHeartbeats 16000000 in
theorem valike_any : ∀ (N : Nat) (a b : VD), a.parts ≤ N → ∀ (cs cs' : List Value) (w : World), a.at w cs → b.at w cs' → a.wf 1048576 → b.wf 1048576 → Calls Tryz.prog 45 #[.agg cs.toArray, .agg cs'.toArray] w fun e w' => e = .returned (.bool (VD.same a b)) ∧ RowKit.Below w.heap.size w w'
  | 0, a, _, hN, _, _, _, _, _, _, _ => by have := a.parts_pos; omega
  | N + 1, .mk k y ⟨ng, hi, lo, sc⟩ t d l ns, .mk k' y' ⟨ng', hi', lo', sc'⟩ t' d' l' ns', hN, cs, cs', w, hv, hv', hwf, hwf' => by
    have IH := fun a b h => valike_any N a b h
    simp only [VD.at, vcs] at hv hv'
    simp only [VD.wf] at hwf hwf'
    obtain ⟨lp, np, lc, nc, ls, rfl, -, hS, hL, ha⟩ := hv
    obtain ⟨lp', np', lc', nc', ls', rfl, -, hS', hL', ha'⟩ := hv'
    obtain ⟨-, -, -, hll, hnl, -, hwl⟩ := hwf
    obtain ⟨-, -, -, hll', hnl', -, hwl'⟩ := hwf'
    simp only [VD.parts] at hN
    rw [same_eq]
    obtain ⟨r1, hr1⟩ : ∃ r, decide (ns.map (·.toList) = ns'.map (·.toList)) = r := ⟨_, rfl⟩
    obtain ⟨r2, hr2⟩ : ∃ r, VD.sameL l l' = r := ⟨_, rfl⟩
    rw [hr1, hr2]
    have HN := Lib.hid (fun W (hb : RowKit.Below w.heap.size w W) => hr1 ▸ sequal_any np np' nc nc' ns ns' W (hS.below' hb) (hS'.below' hb) hnl hnl')
    have HL := Lib.hid (fun W (hb : RowKit.Below w.heap.size w W) => hr2 ▸ eqfunc_any N W IH lp lp' lc lc' l l' ls ls' (hL.below' hb) (hL'.below' hb) (VD.ats.below hb ha) (VD.ats.below hb ha') hwl hwl' hll hll' (by omega))
    have HM := Lib.hid (Mem.start w)
    clear hr1 hr2 IH hS hS' hL hL' ha ha' hwl hwl' hN
    by_cases hk : k = k'
    · subst hk
      by_cases hy : y = y'
      · subst hy
        by_cases hng : ng = ng'
        · subst hng
          by_cases hhi : hi = hi'
          · subst hhi
            by_cases hlo : lo = lo'
            · subst hlo
              by_cases hsc : sc = sc'
              · subst hsc
                by_cases ht : t.toList = t'.toList
                · have q1 : (t.toList == t'.toList) = true := by simp [ht]
                  have ht2 := Lib.hid ht
                  clear ht
                  by_cases hd : d = d'
                  · subst hd
                    cases r1 with
                    | false =>
                      go_enter Tryz.func45, Tryz.ntmps45
                      go_wp2_with (first | ((with_reducible refine skip_op ?_ ?_); exact rfl) | refine mP ?_ | ((with_reducible refine iat 2 ?_); refine mB ?_; clear HM; intro g2 W1 HM) | ((with_reducible refine iat 3 ?_); refine mB ?_; clear HM; intro g3 W1 HM) | (go_at_call 74; (with_reducible refine cB HM (HN.out _ HM.out.below) ?_); clear HM; intro W1 HM) | (go_at_call 75; (with_reducible refine cB HM (HL.out _ HM.out.below) ?_); clear HM; intro W1 HM))
                      go_ret
                      exact ⟨by rw [show sameB _ _ _ _ _ _ _ _ _ _ _ _ = false by simp [sameB, ht2.out]]; rfl, HM.out.below⟩
                    | true =>
                      go_enter Tryz.func45, Tryz.ntmps45
                      go_wp2_with (first | ((with_reducible refine skip_op ?_ ?_); exact rfl) | refine mP ?_ | ((with_reducible refine iat 2 ?_); refine mB ?_; clear HM; intro g2 W1 HM) | ((with_reducible refine iat 3 ?_); refine mB ?_; clear HM; intro g3 W1 HM) | (go_at_call 74; (with_reducible refine cB HM (HN.out _ HM.out.below) ?_); clear HM; intro W1 HM) | (go_at_call 75; (with_reducible refine cB HM (HL.out _ HM.out.below) ?_); clear HM; intro W1 HM))
                      go_ret
                      exact ⟨by rw [show sameB _ _ _ _ _ _ _ _ _ _ _ _ = r2 by simp [sameB, ht2.out]]; rfl, HM.out.below⟩
                  · skip
                    go_enter Tryz.func45, Tryz.ntmps45
                    go_wp2_with (first | ((with_reducible refine skip_op ?_ ?_); exact rfl) | refine mP ?_ | ((with_reducible refine iat 2 ?_); refine mB ?_; clear HM; intro g2 W1 HM) | ((with_reducible refine iat 3 ?_); refine mB ?_; clear HM; intro g3 W1 HM) | (go_at_call 74; (with_reducible refine cB HM (HN.out _ HM.out.below) ?_); clear HM; intro W1 HM) | (go_at_call 75; (with_reducible refine cB HM (HL.out _ HM.out.below) ?_); clear HM; intro W1 HM))
                    go_ret
                    exact ⟨by simp [sameB, *], HM.out.below⟩
                · have q1 : (t.toList == t'.toList) = false := by simp [ht]
                  go_enter Tryz.func45, Tryz.ntmps45
                  go_wp2_with (first | ((with_reducible refine skip_op ?_ ?_); exact rfl) | refine mP ?_ | ((with_reducible refine iat 2 ?_); refine mB ?_; clear HM; intro g2 W1 HM) | ((with_reducible refine iat 3 ?_); refine mB ?_; clear HM; intro g3 W1 HM) | (go_at_call 74; (with_reducible refine cB HM (HN.out _ HM.out.below) ?_); clear HM; intro W1 HM) | (go_at_call 75; (with_reducible refine cB HM (HL.out _ HM.out.below) ?_); clear HM; intro W1 HM))
                  go_ret
                  exact ⟨by simp [sameB, *], HM.out.below⟩
              · skip
                go_enter Tryz.func45, Tryz.ntmps45
                go_wp2_with (first | ((with_reducible refine skip_op ?_ ?_); exact rfl) | refine mP ?_ | ((with_reducible refine iat 2 ?_); refine mB ?_; clear HM; intro g2 W1 HM) | ((with_reducible refine iat 3 ?_); refine mB ?_; clear HM; intro g3 W1 HM) | (go_at_call 74; (with_reducible refine cB HM (HN.out _ HM.out.below) ?_); clear HM; intro W1 HM) | (go_at_call 75; (with_reducible refine cB HM (HL.out _ HM.out.below) ?_); clear HM; intro W1 HM))
                go_ret
                exact ⟨by simp [sameB, *], HM.out.below⟩
            · skip
              go_enter Tryz.func45, Tryz.ntmps45
              go_wp2_with (first | ((with_reducible refine skip_op ?_ ?_); exact rfl) | refine mP ?_ | ((with_reducible refine iat 2 ?_); refine mB ?_; clear HM; intro g2 W1 HM) | ((with_reducible refine iat 3 ?_); refine mB ?_; clear HM; intro g3 W1 HM) | (go_at_call 74; (with_reducible refine cB HM (HN.out _ HM.out.below) ?_); clear HM; intro W1 HM) | (go_at_call 75; (with_reducible refine cB HM (HL.out _ HM.out.below) ?_); clear HM; intro W1 HM))
              go_ret
              exact ⟨by simp [sameB, *], HM.out.below⟩
          · skip
            go_enter Tryz.func45, Tryz.ntmps45
            go_wp2_with (first | ((with_reducible refine skip_op ?_ ?_); exact rfl) | refine mP ?_ | ((with_reducible refine iat 2 ?_); refine mB ?_; clear HM; intro g2 W1 HM) | ((with_reducible refine iat 3 ?_); refine mB ?_; clear HM; intro g3 W1 HM) | (go_at_call 74; (with_reducible refine cB HM (HN.out _ HM.out.below) ?_); clear HM; intro W1 HM) | (go_at_call 75; (with_reducible refine cB HM (HL.out _ HM.out.below) ?_); clear HM; intro W1 HM))
            go_ret
            exact ⟨by simp [sameB, *], HM.out.below⟩
        · have q : (ng == ng') = false := by simp [hng]
          go_enter Tryz.func45, Tryz.ntmps45
          go_wp2_with (first | ((with_reducible refine skip_op ?_ ?_); exact rfl) | refine mP ?_ | ((with_reducible refine iat 2 ?_); refine mB ?_; clear HM; intro g2 W1 HM) | ((with_reducible refine iat 3 ?_); refine mB ?_; clear HM; intro g3 W1 HM) | (go_at_call 74; (with_reducible refine cB HM (HN.out _ HM.out.below) ?_); clear HM; intro W1 HM) | (go_at_call 75; (with_reducible refine cB HM (HL.out _ HM.out.below) ?_); clear HM; intro W1 HM))
          go_ret
          exact ⟨by simp [sameB, *], HM.out.below⟩
      · have q : (y == y') = false := by simp [hy]
        go_enter Tryz.func45, Tryz.ntmps45
        go_wp2_with (first | ((with_reducible refine skip_op ?_ ?_); exact rfl) | refine mP ?_ | ((with_reducible refine iat 2 ?_); refine mB ?_; clear HM; intro g2 W1 HM) | ((with_reducible refine iat 3 ?_); refine mB ?_; clear HM; intro g3 W1 HM) | (go_at_call 74; (with_reducible refine cB HM (HN.out _ HM.out.below) ?_); clear HM; intro W1 HM) | (go_at_call 75; (with_reducible refine cB HM (HL.out _ HM.out.below) ?_); clear HM; intro W1 HM))
        go_ret
        exact ⟨by simp [sameB, *], HM.out.below⟩
    · have q : (k == k') = false := by simp [hk]
      go_enter Tryz.func45, Tryz.ntmps45
      go_wp2_with (first | ((with_reducible refine skip_op ?_ ?_); exact rfl) | refine mP ?_ | ((with_reducible refine iat 2 ?_); refine mB ?_; clear HM; intro g2 W1 HM) | ((with_reducible refine iat 3 ?_); refine mB ?_; clear HM; intro g3 W1 HM) | (go_at_call 74; (with_reducible refine cB HM (HN.out _ HM.out.below) ?_); clear HM; intro W1 HM) | (go_at_call 75; (with_reducible refine cB HM (HL.out _ HM.out.below) ?_); clear HM; intro W1 HM))
      go_ret
      exact ⟨by simp [sameB, *], HM.out.below⟩
end Go.Proofs.YtgobdcmoelcckaaGreatDoor
