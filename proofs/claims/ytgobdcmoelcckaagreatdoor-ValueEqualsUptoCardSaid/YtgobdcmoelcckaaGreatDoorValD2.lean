/- The fields that a kind leaves zero: the reference. (short) -/
import Derived.Test.YtgobdcmoelcckaaGreatDoorValD
namespace Go.Proofs.YtgobdcmoelcckaaGreatDoor
open Go.RowKit
set_option linter.unusedVariables false
set_option linter.unusedSimpArgs false
set_option maxRecDepth 100000

set_option maxHeartbeats 16000000 in
theorem rbare_0 (y ng : Bool) (hi lo : Nat) (sc : Int) (t : ByteArray) (d : Int) (lp : Option Addr) (ll lc : Nat) (np : Option Addr) (nl nc : Nat) (w : World) :
    Calls Tryz.prog 69 #[vlit 0 y ng hi lo sc t d lp ll lc np nl nc] w fun e w' => e = .returned (.bool (bareB 0 y ng hi lo sc t d ll nl)) ∧ RowKit.Below w.heap.size w w' := by
  have HM := Lib.hid (Mem.start w)
  cases y with
  | true =>
    go_enter Tryz.func69, Tryz.ntmps69
    go_wp2_with (first | ((with_reducible refine skip_op ?_ ?_); exact rfl) | refine mP ?_ | (refine mB ?_; clear HM; intro g1 W1 HM))
    go_ret
    exact ⟨by simp [bareB, *], HM.out.below⟩
  | false =>
    cases ng with
    | true =>
      go_enter Tryz.func69, Tryz.ntmps69
      go_wp2_with (first | ((with_reducible refine skip_op ?_ ?_); exact rfl) | refine mP ?_ | (refine mB ?_; clear HM; intro g1 W1 HM))
      go_ret
      exact ⟨by simp [bareB, *], HM.out.below⟩
    | false =>
      by_cases hhi : hi = 0
      · subst hhi
        by_cases hlo : lo = 0
        · subst hlo
          by_cases hsc : sc = 0
          · subst hsc
            by_cases ht : t.toList = []
            · skip
              by_cases hd : d = 0
              · subst hd
                by_cases hll : ll = 0
                · subst hll
                  by_cases hnl : nl = 0
                  · subst hnl
                    go_enter Tryz.func69, Tryz.ntmps69
                    go_wp2_with (first | ((with_reducible refine skip_op ?_ ?_); exact rfl) | refine mP ?_ | (refine mB ?_; clear HM; intro g1 W1 HM))
                    go_ret
                    exact ⟨by simp [bareB, *], HM.out.below⟩
                  · go_enter Tryz.func69, Tryz.ntmps69
                    go_wp2_with (first | ((with_reducible refine skip_op ?_ ?_); exact rfl) | refine mP ?_ | (refine mB ?_; clear HM; intro g1 W1 HM))
                    go_ret
                    exact ⟨by simp [bareB, *], HM.out.below⟩
                · go_enter Tryz.func69, Tryz.ntmps69
                  go_wp2_with (first | ((with_reducible refine skip_op ?_ ?_); exact rfl) | refine mP ?_ | (refine mB ?_; clear HM; intro g1 W1 HM))
                  go_ret
                  exact ⟨by simp [bareB, *], HM.out.below⟩
              · go_enter Tryz.func69, Tryz.ntmps69
                go_wp2_with (first | ((with_reducible refine skip_op ?_ ?_); exact rfl) | refine mP ?_ | (refine mB ?_; clear HM; intro g1 W1 HM))
                go_ret
                exact ⟨by simp [bareB, *], HM.out.below⟩
            · go_enter Tryz.func69, Tryz.ntmps69
              go_wp2_with (first | ((with_reducible refine skip_op ?_ ?_); exact rfl) | refine mP ?_ | (refine mB ?_; clear HM; intro g1 W1 HM))
              go_ret
              exact ⟨by simp [bareB, *], HM.out.below⟩
          · go_enter Tryz.func69, Tryz.ntmps69
            go_wp2_with (first | ((with_reducible refine skip_op ?_ ?_); exact rfl) | refine mP ?_ | (refine mB ?_; clear HM; intro g1 W1 HM))
            go_ret
            exact ⟨by simp [bareB, *], HM.out.below⟩
        · go_enter Tryz.func69, Tryz.ntmps69
          go_wp2_with (first | ((with_reducible refine skip_op ?_ ?_); exact rfl) | refine mP ?_ | (refine mB ?_; clear HM; intro g1 W1 HM))
          go_ret
          exact ⟨by simp [bareB, *], HM.out.below⟩
      · go_enter Tryz.func69, Tryz.ntmps69
        go_wp2_with (first | ((with_reducible refine skip_op ?_ ?_); exact rfl) | refine mP ?_ | (refine mB ?_; clear HM; intro g1 W1 HM))
        go_ret
        exact ⟨by simp [bareB, *], HM.out.below⟩

set_option maxHeartbeats 16000000 in
theorem rbare_1 (y ng : Bool) (hi lo : Nat) (sc : Int) (t : ByteArray) (d : Int) (lp : Option Addr) (ll lc : Nat) (np : Option Addr) (nl nc : Nat) (w : World) :
    Calls Tryz.prog 69 #[vlit 1 y ng hi lo sc t d lp ll lc np nl nc] w fun e w' => e = .returned (.bool (bareB 1 y ng hi lo sc t d ll nl)) ∧ RowKit.Below w.heap.size w w' := by
  have HM := Lib.hid (Mem.start w)
  cases ng with
  | true =>
    go_enter Tryz.func69, Tryz.ntmps69
    go_wp2_with (first | ((with_reducible refine skip_op ?_ ?_); exact rfl) | refine mP ?_ | (refine mB ?_; clear HM; intro g1 W1 HM))
    go_ret
    exact ⟨by simp [bareB, *], HM.out.below⟩
  | false =>
    by_cases hhi : hi = 0
    · subst hhi
      by_cases hlo : lo = 0
      · subst hlo
        by_cases hsc : sc = 0
        · subst hsc
          by_cases ht : t.toList = []
          · skip
            by_cases hd : d = 0
            · subst hd
              by_cases hll : ll = 0
              · subst hll
                by_cases hnl : nl = 0
                · subst hnl
                  go_enter Tryz.func69, Tryz.ntmps69
                  go_wp2_with (first | ((with_reducible refine skip_op ?_ ?_); exact rfl) | refine mP ?_ | (refine mB ?_; clear HM; intro g1 W1 HM))
                  go_ret
                  exact ⟨by simp [bareB, *], HM.out.below⟩
                · go_enter Tryz.func69, Tryz.ntmps69
                  go_wp2_with (first | ((with_reducible refine skip_op ?_ ?_); exact rfl) | refine mP ?_ | (refine mB ?_; clear HM; intro g1 W1 HM))
                  go_ret
                  exact ⟨by simp [bareB, *], HM.out.below⟩
              · go_enter Tryz.func69, Tryz.ntmps69
                go_wp2_with (first | ((with_reducible refine skip_op ?_ ?_); exact rfl) | refine mP ?_ | (refine mB ?_; clear HM; intro g1 W1 HM))
                go_ret
                exact ⟨by simp [bareB, *], HM.out.below⟩
            · go_enter Tryz.func69, Tryz.ntmps69
              go_wp2_with (first | ((with_reducible refine skip_op ?_ ?_); exact rfl) | refine mP ?_ | (refine mB ?_; clear HM; intro g1 W1 HM))
              go_ret
              exact ⟨by simp [bareB, *], HM.out.below⟩
          · go_enter Tryz.func69, Tryz.ntmps69
            go_wp2_with (first | ((with_reducible refine skip_op ?_ ?_); exact rfl) | refine mP ?_ | (refine mB ?_; clear HM; intro g1 W1 HM))
            go_ret
            exact ⟨by simp [bareB, *], HM.out.below⟩
        · go_enter Tryz.func69, Tryz.ntmps69
          go_wp2_with (first | ((with_reducible refine skip_op ?_ ?_); exact rfl) | refine mP ?_ | (refine mB ?_; clear HM; intro g1 W1 HM))
          go_ret
          exact ⟨by simp [bareB, *], HM.out.below⟩
      · go_enter Tryz.func69, Tryz.ntmps69
        go_wp2_with (first | ((with_reducible refine skip_op ?_ ?_); exact rfl) | refine mP ?_ | (refine mB ?_; clear HM; intro g1 W1 HM))
        go_ret
        exact ⟨by simp [bareB, *], HM.out.below⟩
    · go_enter Tryz.func69, Tryz.ntmps69
      go_wp2_with (first | ((with_reducible refine skip_op ?_ ?_); exact rfl) | refine mP ?_ | (refine mB ?_; clear HM; intro g1 W1 HM))
      go_ret
      exact ⟨by simp [bareB, *], HM.out.below⟩

set_option maxHeartbeats 16000000 in
theorem rbare_2 (y ng : Bool) (hi lo : Nat) (sc : Int) (t : ByteArray) (d : Int) (lp : Option Addr) (ll lc : Nat) (np : Option Addr) (nl nc : Nat) (w : World) :
    Calls Tryz.prog 69 #[vlit 2 y ng hi lo sc t d lp ll lc np nl nc] w fun e w' => e = .returned (.bool (bareB 2 y ng hi lo sc t d ll nl)) ∧ RowKit.Below w.heap.size w w' := by
  have HM := Lib.hid (Mem.start w)
  cases y with
  | true =>
    go_enter Tryz.func69, Tryz.ntmps69
    go_wp2_with (first | ((with_reducible refine skip_op ?_ ?_); exact rfl) | refine mP ?_ | (refine mB ?_; clear HM; intro g1 W1 HM))
    go_ret
    exact ⟨by simp [bareB, *], HM.out.below⟩
  | false =>
    by_cases ht : t.toList = []
    · skip
      by_cases hd : d = 0
      · subst hd
        by_cases hll : ll = 0
        · subst hll
          by_cases hnl : nl = 0
          · subst hnl
            go_enter Tryz.func69, Tryz.ntmps69
            go_wp2_with (first | ((with_reducible refine skip_op ?_ ?_); exact rfl) | refine mP ?_ | (refine mB ?_; clear HM; intro g1 W1 HM))
            go_ret
            exact ⟨by simp [bareB, *], HM.out.below⟩
          · go_enter Tryz.func69, Tryz.ntmps69
            go_wp2_with (first | ((with_reducible refine skip_op ?_ ?_); exact rfl) | refine mP ?_ | (refine mB ?_; clear HM; intro g1 W1 HM))
            go_ret
            exact ⟨by simp [bareB, *], HM.out.below⟩
        · go_enter Tryz.func69, Tryz.ntmps69
          go_wp2_with (first | ((with_reducible refine skip_op ?_ ?_); exact rfl) | refine mP ?_ | (refine mB ?_; clear HM; intro g1 W1 HM))
          go_ret
          exact ⟨by simp [bareB, *], HM.out.below⟩
      · go_enter Tryz.func69, Tryz.ntmps69
        go_wp2_with (first | ((with_reducible refine skip_op ?_ ?_); exact rfl) | refine mP ?_ | (refine mB ?_; clear HM; intro g1 W1 HM))
        go_ret
        exact ⟨by simp [bareB, *], HM.out.below⟩
    · go_enter Tryz.func69, Tryz.ntmps69
      go_wp2_with (first | ((with_reducible refine skip_op ?_ ?_); exact rfl) | refine mP ?_ | (refine mB ?_; clear HM; intro g1 W1 HM))
      go_ret
      exact ⟨by simp [bareB, *], HM.out.below⟩

set_option maxHeartbeats 16000000 in
theorem rbare_3 (y ng : Bool) (hi lo : Nat) (sc : Int) (t : ByteArray) (d : Int) (lp : Option Addr) (ll lc : Nat) (np : Option Addr) (nl nc : Nat) (w : World) :
    Calls Tryz.prog 69 #[vlit 3 y ng hi lo sc t d lp ll lc np nl nc] w fun e w' => e = .returned (.bool (bareB 3 y ng hi lo sc t d ll nl)) ∧ RowKit.Below w.heap.size w w' := by
  have HM := Lib.hid (Mem.start w)
  cases y with
  | true =>
    go_enter Tryz.func69, Tryz.ntmps69
    go_wp2_with (first | ((with_reducible refine skip_op ?_ ?_); exact rfl) | refine mP ?_ | (refine mB ?_; clear HM; intro g1 W1 HM))
    go_ret
    exact ⟨by simp [bareB, *], HM.out.below⟩
  | false =>
    cases ng with
    | true =>
      go_enter Tryz.func69, Tryz.ntmps69
      go_wp2_with (first | ((with_reducible refine skip_op ?_ ?_); exact rfl) | refine mP ?_ | (refine mB ?_; clear HM; intro g1 W1 HM))
      go_ret
      exact ⟨by simp [bareB, *], HM.out.below⟩
    | false =>
      by_cases hhi : hi = 0
      · subst hhi
        by_cases hlo : lo = 0
        · subst hlo
          by_cases hsc : sc = 0
          · subst hsc
            by_cases hd : d = 0
            · subst hd
              by_cases hll : ll = 0
              · subst hll
                by_cases hnl : nl = 0
                · subst hnl
                  go_enter Tryz.func69, Tryz.ntmps69
                  go_wp2_with (first | ((with_reducible refine skip_op ?_ ?_); exact rfl) | refine mP ?_ | (refine mB ?_; clear HM; intro g1 W1 HM))
                  go_ret
                  exact ⟨by simp [bareB, *], HM.out.below⟩
                · go_enter Tryz.func69, Tryz.ntmps69
                  go_wp2_with (first | ((with_reducible refine skip_op ?_ ?_); exact rfl) | refine mP ?_ | (refine mB ?_; clear HM; intro g1 W1 HM))
                  go_ret
                  exact ⟨by simp [bareB, *], HM.out.below⟩
              · go_enter Tryz.func69, Tryz.ntmps69
                go_wp2_with (first | ((with_reducible refine skip_op ?_ ?_); exact rfl) | refine mP ?_ | (refine mB ?_; clear HM; intro g1 W1 HM))
                go_ret
                exact ⟨by simp [bareB, *], HM.out.below⟩
            · go_enter Tryz.func69, Tryz.ntmps69
              go_wp2_with (first | ((with_reducible refine skip_op ?_ ?_); exact rfl) | refine mP ?_ | (refine mB ?_; clear HM; intro g1 W1 HM))
              go_ret
              exact ⟨by simp [bareB, *], HM.out.below⟩
          · go_enter Tryz.func69, Tryz.ntmps69
            go_wp2_with (first | ((with_reducible refine skip_op ?_ ?_); exact rfl) | refine mP ?_ | (refine mB ?_; clear HM; intro g1 W1 HM))
            go_ret
            exact ⟨by simp [bareB, *], HM.out.below⟩
        · go_enter Tryz.func69, Tryz.ntmps69
          go_wp2_with (first | ((with_reducible refine skip_op ?_ ?_); exact rfl) | refine mP ?_ | (refine mB ?_; clear HM; intro g1 W1 HM))
          go_ret
          exact ⟨by simp [bareB, *], HM.out.below⟩
      · go_enter Tryz.func69, Tryz.ntmps69
        go_wp2_with (first | ((with_reducible refine skip_op ?_ ?_); exact rfl) | refine mP ?_ | (refine mB ?_; clear HM; intro g1 W1 HM))
        go_ret
        exact ⟨by simp [bareB, *], HM.out.below⟩

set_option maxHeartbeats 16000000 in
theorem rbare_4 (y ng : Bool) (hi lo : Nat) (sc : Int) (t : ByteArray) (d : Int) (lp : Option Addr) (ll lc : Nat) (np : Option Addr) (nl nc : Nat) (w : World) :
    Calls Tryz.prog 69 #[vlit 4 y ng hi lo sc t d lp ll lc np nl nc] w fun e w' => e = .returned (.bool (bareB 4 y ng hi lo sc t d ll nl)) ∧ RowKit.Below w.heap.size w w' := by
  have HM := Lib.hid (Mem.start w)
  cases y with
  | true =>
    go_enter Tryz.func69, Tryz.ntmps69
    go_wp2_with (first | ((with_reducible refine skip_op ?_ ?_); exact rfl) | refine mP ?_ | (refine mB ?_; clear HM; intro g1 W1 HM))
    go_ret
    exact ⟨by simp [bareB, *], HM.out.below⟩
  | false =>
    cases ng with
    | true =>
      go_enter Tryz.func69, Tryz.ntmps69
      go_wp2_with (first | ((with_reducible refine skip_op ?_ ?_); exact rfl) | refine mP ?_ | (refine mB ?_; clear HM; intro g1 W1 HM))
      go_ret
      exact ⟨by simp [bareB, *], HM.out.below⟩
    | false =>
      by_cases hhi : hi = 0
      · subst hhi
        by_cases hlo : lo = 0
        · subst hlo
          by_cases hsc : sc = 0
          · subst hsc
            by_cases ht : t.toList = []
            · skip
              by_cases hll : ll = 0
              · subst hll
                by_cases hnl : nl = 0
                · subst hnl
                  go_enter Tryz.func69, Tryz.ntmps69
                  go_wp2_with (first | ((with_reducible refine skip_op ?_ ?_); exact rfl) | refine mP ?_ | (refine mB ?_; clear HM; intro g1 W1 HM))
                  go_ret
                  exact ⟨by simp [bareB, *], HM.out.below⟩
                · go_enter Tryz.func69, Tryz.ntmps69
                  go_wp2_with (first | ((with_reducible refine skip_op ?_ ?_); exact rfl) | refine mP ?_ | (refine mB ?_; clear HM; intro g1 W1 HM))
                  go_ret
                  exact ⟨by simp [bareB, *], HM.out.below⟩
              · go_enter Tryz.func69, Tryz.ntmps69
                go_wp2_with (first | ((with_reducible refine skip_op ?_ ?_); exact rfl) | refine mP ?_ | (refine mB ?_; clear HM; intro g1 W1 HM))
                go_ret
                exact ⟨by simp [bareB, *], HM.out.below⟩
            · go_enter Tryz.func69, Tryz.ntmps69
              go_wp2_with (first | ((with_reducible refine skip_op ?_ ?_); exact rfl) | refine mP ?_ | (refine mB ?_; clear HM; intro g1 W1 HM))
              go_ret
              exact ⟨by simp [bareB, *], HM.out.below⟩
          · go_enter Tryz.func69, Tryz.ntmps69
            go_wp2_with (first | ((with_reducible refine skip_op ?_ ?_); exact rfl) | refine mP ?_ | (refine mB ?_; clear HM; intro g1 W1 HM))
            go_ret
            exact ⟨by simp [bareB, *], HM.out.below⟩
        · go_enter Tryz.func69, Tryz.ntmps69
          go_wp2_with (first | ((with_reducible refine skip_op ?_ ?_); exact rfl) | refine mP ?_ | (refine mB ?_; clear HM; intro g1 W1 HM))
          go_ret
          exact ⟨by simp [bareB, *], HM.out.below⟩
      · go_enter Tryz.func69, Tryz.ntmps69
        go_wp2_with (first | ((with_reducible refine skip_op ?_ ?_); exact rfl) | refine mP ?_ | (refine mB ?_; clear HM; intro g1 W1 HM))
        go_ret
        exact ⟨by simp [bareB, *], HM.out.below⟩

set_option maxHeartbeats 16000000 in
theorem rbare_5 (y ng : Bool) (hi lo : Nat) (sc : Int) (t : ByteArray) (d : Int) (lp : Option Addr) (ll lc : Nat) (np : Option Addr) (nl nc : Nat) (w : World) :
    Calls Tryz.prog 69 #[vlit 5 y ng hi lo sc t d lp ll lc np nl nc] w fun e w' => e = .returned (.bool (bareB 5 y ng hi lo sc t d ll nl)) ∧ RowKit.Below w.heap.size w w' := by
  have HM := Lib.hid (Mem.start w)
  cases y with
  | true =>
    go_enter Tryz.func69, Tryz.ntmps69
    go_wp2_with (first | ((with_reducible refine skip_op ?_ ?_); exact rfl) | refine mP ?_ | (refine mB ?_; clear HM; intro g1 W1 HM))
    go_ret
    exact ⟨by simp [bareB, *], HM.out.below⟩
  | false =>
    cases ng with
    | true =>
      go_enter Tryz.func69, Tryz.ntmps69
      go_wp2_with (first | ((with_reducible refine skip_op ?_ ?_); exact rfl) | refine mP ?_ | (refine mB ?_; clear HM; intro g1 W1 HM))
      go_ret
      exact ⟨by simp [bareB, *], HM.out.below⟩
    | false =>
      by_cases hhi : hi = 0
      · subst hhi
        by_cases hlo : lo = 0
        · subst hlo
          by_cases hsc : sc = 0
          · subst hsc
            by_cases ht : t.toList = []
            · skip
              by_cases hd : d = 0
              · subst hd
                by_cases hnl : nl = 0
                · subst hnl
                  go_enter Tryz.func69, Tryz.ntmps69
                  go_wp2_with (first | ((with_reducible refine skip_op ?_ ?_); exact rfl) | refine mP ?_ | (refine mB ?_; clear HM; intro g1 W1 HM))
                  go_ret
                  exact ⟨by simp [bareB, *], HM.out.below⟩
                · go_enter Tryz.func69, Tryz.ntmps69
                  go_wp2_with (first | ((with_reducible refine skip_op ?_ ?_); exact rfl) | refine mP ?_ | (refine mB ?_; clear HM; intro g1 W1 HM))
                  go_ret
                  exact ⟨by simp [bareB, *], HM.out.below⟩
              · go_enter Tryz.func69, Tryz.ntmps69
                go_wp2_with (first | ((with_reducible refine skip_op ?_ ?_); exact rfl) | refine mP ?_ | (refine mB ?_; clear HM; intro g1 W1 HM))
                go_ret
                exact ⟨by simp [bareB, *], HM.out.below⟩
            · go_enter Tryz.func69, Tryz.ntmps69
              go_wp2_with (first | ((with_reducible refine skip_op ?_ ?_); exact rfl) | refine mP ?_ | (refine mB ?_; clear HM; intro g1 W1 HM))
              go_ret
              exact ⟨by simp [bareB, *], HM.out.below⟩
          · go_enter Tryz.func69, Tryz.ntmps69
            go_wp2_with (first | ((with_reducible refine skip_op ?_ ?_); exact rfl) | refine mP ?_ | (refine mB ?_; clear HM; intro g1 W1 HM))
            go_ret
            exact ⟨by simp [bareB, *], HM.out.below⟩
        · go_enter Tryz.func69, Tryz.ntmps69
          go_wp2_with (first | ((with_reducible refine skip_op ?_ ?_); exact rfl) | refine mP ?_ | (refine mB ?_; clear HM; intro g1 W1 HM))
          go_ret
          exact ⟨by simp [bareB, *], HM.out.below⟩
      · go_enter Tryz.func69, Tryz.ntmps69
        go_wp2_with (first | ((with_reducible refine skip_op ?_ ?_); exact rfl) | refine mP ?_ | (refine mB ?_; clear HM; intro g1 W1 HM))
        go_ret
        exact ⟨by simp [bareB, *], HM.out.below⟩

set_option maxHeartbeats 16000000 in
theorem rbare_6 (y ng : Bool) (hi lo : Nat) (sc : Int) (t : ByteArray) (d : Int) (lp : Option Addr) (ll lc : Nat) (np : Option Addr) (nl nc : Nat) (w : World) :
    Calls Tryz.prog 69 #[vlit 6 y ng hi lo sc t d lp ll lc np nl nc] w fun e w' => e = .returned (.bool (bareB 6 y ng hi lo sc t d ll nl)) ∧ RowKit.Below w.heap.size w w' := by
  have HM := Lib.hid (Mem.start w)
  cases y with
  | true =>
    go_enter Tryz.func69, Tryz.ntmps69
    go_wp2_with (first | ((with_reducible refine skip_op ?_ ?_); exact rfl) | refine mP ?_ | (refine mB ?_; clear HM; intro g1 W1 HM))
    go_ret
    exact ⟨by simp [bareB, *], HM.out.below⟩
  | false =>
    cases ng with
    | true =>
      go_enter Tryz.func69, Tryz.ntmps69
      go_wp2_with (first | ((with_reducible refine skip_op ?_ ?_); exact rfl) | refine mP ?_ | (refine mB ?_; clear HM; intro g1 W1 HM))
      go_ret
      exact ⟨by simp [bareB, *], HM.out.below⟩
    | false =>
      by_cases hhi : hi = 0
      · subst hhi
        by_cases hlo : lo = 0
        · subst hlo
          by_cases hsc : sc = 0
          · subst hsc
            by_cases ht : t.toList = []
            · skip
              by_cases hd : d = 0
              · subst hd
                go_enter Tryz.func69, Tryz.ntmps69
                go_wp2_with (first | ((with_reducible refine skip_op ?_ ?_); exact rfl) | refine mP ?_ | (refine mB ?_; clear HM; intro g1 W1 HM))
                go_ret
                exact ⟨by simp [bareB, *], HM.out.below⟩
              · go_enter Tryz.func69, Tryz.ntmps69
                go_wp2_with (first | ((with_reducible refine skip_op ?_ ?_); exact rfl) | refine mP ?_ | (refine mB ?_; clear HM; intro g1 W1 HM))
                go_ret
                exact ⟨by simp [bareB, *], HM.out.below⟩
            · go_enter Tryz.func69, Tryz.ntmps69
              go_wp2_with (first | ((with_reducible refine skip_op ?_ ?_); exact rfl) | refine mP ?_ | (refine mB ?_; clear HM; intro g1 W1 HM))
              go_ret
              exact ⟨by simp [bareB, *], HM.out.below⟩
          · go_enter Tryz.func69, Tryz.ntmps69
            go_wp2_with (first | ((with_reducible refine skip_op ?_ ?_); exact rfl) | refine mP ?_ | (refine mB ?_; clear HM; intro g1 W1 HM))
            go_ret
            exact ⟨by simp [bareB, *], HM.out.below⟩
        · go_enter Tryz.func69, Tryz.ntmps69
          go_wp2_with (first | ((with_reducible refine skip_op ?_ ?_); exact rfl) | refine mP ?_ | (refine mB ?_; clear HM; intro g1 W1 HM))
          go_ret
          exact ⟨by simp [bareB, *], HM.out.below⟩
      · go_enter Tryz.func69, Tryz.ntmps69
        go_wp2_with (first | ((with_reducible refine skip_op ?_ ?_); exact rfl) | refine mP ?_ | (refine mB ?_; clear HM; intro g1 W1 HM))
        go_ret
        exact ⟨by simp [bareB, *], HM.out.below⟩

theorem rbare_any (k : Int) (y ng : Bool) (hi lo : Nat) (sc : Int) (t : ByteArray) (d : Int) (lp : Option Addr) (ll lc : Nat) (np : Option Addr) (nl nc : Nat) (w : World) (h0 : 0 ≤ k) (h6 : k ≤ 6) :
    Calls Tryz.prog 69 #[vlit k y ng hi lo sc t d lp ll lc np nl nc] w fun e w' => e = .returned (.bool (bareB k y ng hi lo sc t d ll nl)) ∧ RowKit.Below w.heap.size w w' := by
  have h : k = 0 ∨ k = 1 ∨ k = 2 ∨ k = 3 ∨ k = 4 ∨ k = 5 ∨ k = 6 := by omega
  rcases h with rfl | rfl | rfl | rfl | rfl | rfl | rfl
  · exact rbare_0 y ng hi lo sc t d lp ll lc np nl nc w
  · exact rbare_1 y ng hi lo sc t d lp ll lc np nl nc w
  · exact rbare_2 y ng hi lo sc t d lp ll lc np nl nc w
  · exact rbare_3 y ng hi lo sc t d lp ll lc np nl nc w
  · exact rbare_4 y ng hi lo sc t d lp ll lc np nl nc w
  · exact rbare_5 y ng hi lo sc t d lp ll lc np nl nc w
  · exact rbare_6 y ng hi lo sc t d lp ll lc np nl nc w
end Go.Proofs.YtgobdcmoelcckaaGreatDoor
