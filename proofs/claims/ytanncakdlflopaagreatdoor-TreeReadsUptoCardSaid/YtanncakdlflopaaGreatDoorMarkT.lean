/- The reference of mark: attr. (short) -/
import Derived.Test.YtanncakdlflopaaGreatDoorMarkRS
import Derived.Test.YtanncakdlflopaaGreatDoorEscRefY
namespace Go.Proofs.YtanncakdlflopaaGreatDoor
open Go.RowKit
set_option linter.unusedVariables false
set_option linter.unusedSimpArgs false
set_option maxRecDepth 100000

theorem one_byte {S : ByteArray} {k : Nat} {q : UInt8} (h : atP [q] S k = true) (hk : k + 1 ≤ S.size) : S.extract k (k + 1) = ⟨#[q]⟩ := by
  have := at_take (t := [q]) (S := S) (i := k) hk
  rw [h] at this
  have e := beq_iff_eq.1 this
  have e2 : (S.extract k (k + 1)).data = #[q] := Array.toList_inj.1 e
  show (⟨(S.extract k (k + 1)).data⟩ : ByteArray) = _
  rw [e2]
theorem one_z (q : UInt8) : (⟨#[q]⟩ : ByteArray).size ≤ 16 ∧ (⟨#[q]⟩ : ByteArray).data.toList ≠ [] := ⟨by show 1 ≤ 16; decide, by simp⟩
theorem rblanks_at {S : ByteArray} {i k : Nat} (h : blkE S i = k) (hi : i ≤ S.size) (hs : S.size ≤ 1048576) (w : World) : Calls Tryz.prog 56 #[.string S, .int .i64 i] w fun e w' => e = .returned (.int .i64 k) ∧ w = w' := by
  subst h
  exact rblanks_any S i w hi hs
theorem rname_is {S : ByteArray} {i : Nat} {x : Int} (h : nameR S i = x) (hi : i ≤ S.size) (hs : S.size ≤ 1048576) (w : World) : Calls Tryz.prog 55 #[.string S, .int .i64 i] w fun e w' => e = .returned (.int .i64 x) ∧ w = w' := by
  subst h
  exact rname_at S i w hi hs
theorem rfind_at {S t : ByteArray} {i : Nat} {x : Int} (h : fndR t S i = x) (hi : i ≤ S.size) (hs : S.size ≤ 1048576) (ht : t.size ≤ 16) (ht0 : t.data.toList ≠ []) (w : World) : Calls Tryz.prog 54 #[.string S, .int .i64 i, .string t] w fun e w' => e = .returned (.int .i64 x) ∧ w = w' := by
  subst h
  exact rfind_any S t i w hi hs ht ht0
theorem rbegins_at {S t : ByteArray} {i : Nat} {b : Bool} (h : atP t.data.toList S i = b) (hi : i ≤ S.size) (hs : S.size ≤ 1048576) (ht : t.size ≤ 16) (w : World) : Calls Tryz.prog 52 #[.string S, .int .i64 i, .string t] w fun e w' => e = .returned (.bool b) ∧ w = w' := by
  subst h
  exact rbegins_any S t i w hi hs ht
/-- What the reference's attr answers. -/
def RAPost (r : Option (AtD × Nat)) (w0 : World) (e : Ending) (w' : World) : Prop :=
  match r with
  | none => e = .returned (.tuple #[.agg #[.string ⟨#[]⟩, .string ⟨#[]⟩], .int .i64 (-1)]) ∧ Below w0.heap.size w0 w'
  | some (x, j) => e = .returned (.tuple #[.agg #[.string x.1, .string x.2], .int .i64 j]) ∧ Below w0.heap.size w0 w'

set_option maxHeartbeats 8000000 in
theorem rattr_any (S : ByteArray) (i : Nat) (W : World) (r : Option (AtD × Nat)) (hr : attrF S i = r) (hi : i ≤ S.size) (hs : S.size ≤ 1048576) :
    Calls Tryz.prog 91 #[.string S, .int .i64 i] W (RAPost r W) := by
  have HM := Lib.hid (Mem.start W)
  unfold attrF at hr
  obtain ⟨k1, hk1⟩ : ∃ k, insE S i = k := ⟨_, rfl⟩
  have e1 := insE_le hi
  rw [hk1] at hr e1
  obtain ⟨l0, l1⟩ := e1
  obtain ⟨k2, hk2⟩ : ∃ k, blkE S k1 = k := ⟨_, rfl⟩
  have l2 := (blkE_le l1).2
  rw [hk2] at hr l2
  obtain ⟨k3, hk3⟩ : ∃ k, blkE S (k2 + 1) = k := ⟨_, rfl⟩
  rw [hk3] at hr
  obtain ⟨N, hN⟩ : ∃ N, S.extract i k1 = N := ⟨_, rfl⟩
  have hnr : nameR S i = if nameM N then (k1 : Int) else -1 := by unfold nameR; rw [hk1, hN]
  rw [hN] at hr
  have HB1 := Lib.hid (fun W => rblanks_at hk2 l1 hs W)
  have HN := Lib.hid hN
  have HK3 := Lib.hid hk3
  have HR := Lib.hid hr
  clear hk1 hk2 hk3 hN hr
  cases hnm : nameM N with
  | false =>
    have hr := HR.out
    clear HR
    rw [if_pos hnm] at hr
    have HR := Lib.hid hr
    clear hr
    rw [hnm] at hnr
    have hnr2 : nameR S i = -1 := hnr
    have HNm := Lib.hid (fun W => rname_is hnr2 hi hs W)
    clear hnm hnr hnr2
    go_enter Tryz.func91, Tryz.ntmps91
    go_wp2_with (first | ((with_reducible refine skip_op ?_ ?_); exact rfl) | (refine mS ?_; clear HM; intro W1 HM) | (refine hal (dst := some 4) HM rfl ?_; clear HM; intro g4 W1 HM))
    refine (HNm.out _).mono ?_
    rintro e W2 ⟨rfl, rfl⟩
    skip
    go_wp2_with (first | ((with_reducible refine skip_op ?_ ?_); exact rfl) | (refine mS ?_; clear HM; intro W1 HM) | (refine hal HM rfl ?_; clear HM; intro g1 W1 HM))
    (try simp only [Exit.inBlock, Exit.then])
    refine bodyPost_ret (res_box_tmp rfl HM.out 0 rfl rfl rfl rfl) rfl ?_
    rw [← HR.out]
    exact ⟨rfl, HM.out.below⟩
  | true =>
    have hr := HR.out
    clear HR
    rw [if_neg (by rw [hnm]; decide)] at hr
    have HR := Lib.hid hr
    clear hr
    rw [hnm] at hnr
    have hnr2 : nameR S i = (k1 : Int) := hnr
    have HNm := Lib.hid (fun W => rname_is hnr2 hi hs W)
    clear hnm hnr hnr2
    have q1 : decide ((k1 : Int) < 0) = false := decide_eq_false (by omega)
    go_enter Tryz.func91, Tryz.ntmps91
    go_wp2_with (first | ((with_reducible refine skip_op ?_ ?_); exact rfl) | (refine mS ?_; clear HM; intro W1 HM) | (refine hal (dst := some 4) HM rfl ?_; clear HM; intro g4 W1 HM))
    refine (HNm.out _).mono ?_
    rintro e W2 ⟨rfl, rfl⟩
    go_wp2_with (first | ((with_reducible refine iat 20 ?_); (refine ssls rfl rfl (i := i) rfl rfl (j := k1) rfl l0 l1 ?_; rw [HN.out])) | ((with_reducible refine skip_op ?_ ?_); exact rfl) | (refine mS ?_; clear HM; intro W1 HM) | (refine hal HM rfl ?_; clear HM; intro g1 W1 HM))
    refine (HB1.out _).mono ?_
    rintro e W2 ⟨rfl, rfl⟩
    go_wp2_with fail
    cases h61 : atP [61] S k2 with
    | false =>
      have hr := HR.out
      clear HR
      rw [if_pos h61] at hr
      have HR := Lib.hid hr
      clear hr
      refine (rbegins_at (t := ⟨#[61]⟩) h61 l2 hs (by decide) _).mono ?_
      rintro e W2 ⟨rfl, rfl⟩
      skip
      go_wp2_with (first | ((with_reducible refine skip_op ?_ ?_); exact rfl) | (refine mS ?_; clear HM; intro W1 HM) | (refine hal HM rfl ?_; clear HM; intro g1 W1 HM))
      (try simp only [Exit.inBlock, Exit.then])
      refine bodyPost_ret (res_box_tmp rfl HM.out 0 rfl rfl rfl rfl) rfl ?_
      rw [← HR.out]
      exact ⟨rfl, HM.out.below⟩
    | true =>
      have hr := HR.out
      clear HR
      rw [if_neg (by rw [h61]; decide)] at hr
      have HR := Lib.hid hr
      clear hr
      have l2b : k2 + 1 ≤ S.size := atP_le l2 h61
      have l3 := (blkE_le l2b).2
      rw [HK3.out] at l3
      have HB2 := Lib.hid (fun W => rblanks_at HK3.out l2b hs W)
      refine (rbegins_at (t := ⟨#[61]⟩) h61 l2 hs (by decide) _).mono ?_
      rintro e W2 ⟨rfl, rfl⟩
      go_wp2_with fail
      clear h61
      refine (HB2.out _).mono ?_
      rintro e W2 ⟨rfl, rfl⟩
      go_wp2_with fail
      cases h39 : atP [39] S k3 with
      | true =>
        have l3b : k3 + 1 ≤ S.size := atP_le l3 h39
        have HQ := Lib.hid (one_byte h39 l3b)
        refine (rbegins_at (t := ⟨#[39]⟩) h39 l3 hs (by decide) _).mono ?_
        rintro e W2 ⟨rfl, rfl⟩
        go_wp2_with (first | ((with_reducible refine iat 51 ?_); (refine ssls rfl rfl (i := k3) rfl rfl (j := k3 + 1) (by simp) (by omega) l3b ?_; rw [HQ.out])) | ((with_reducible refine skip_op ?_ ?_); exact rfl) | (refine mS ?_; clear HM; intro W1 HM) | (refine hal HM rfl ?_; clear HM; intro g1 W1 HM))
        cases h34 : atP [34] S k3 with
        | true =>
          exfalso
          have e1 := one_byte h39 (atP_le l3 h39)
          rw [one_byte h34 (atP_le l3 h34)] at e1
          exact absurd (congrArg (fun x : ByteArray => x.data.toList) e1) (by decide)
        | false =>
          have hr := HR.out
          clear HR
          rw [show quoF S k3 = some 39 by unfold quoF; rw [if_neg (by rw [h34]; decide), if_pos h39]] at hr
          have HR := Lib.hid hr
          clear hr
          clear h34
          clear h39
          have hr := HR.out
          clear HR
          (try dsimp only at hr)
          have HR := Lib.hid hr
          clear hr
          cases hu : fndL [39] (S.data.toList.drop (k3 + 1)) with
          | none =>
            have hr := HR.out
            clear HR
            rw [hu] at hr
            have HR := Lib.hid hr
            clear hr
            have hf : fndR ⟨#[39]⟩ S (k3 + 1) = -1 := by unfold fndR; rw [hu]
            have HF := Lib.hid (fun W => rfind_at hf l3b hs (one_z 39).1 (one_z 39).2 W)
            clear hu hf
            refine (HF.out _).mono ?_
            rintro e W2 ⟨rfl, rfl⟩
            skip
            go_wp2_with (first | ((with_reducible refine skip_op ?_ ?_); exact rfl) | (refine mS ?_; clear HM; intro W1 HM) | (refine hal HM rfl ?_; clear HM; intro g1 W1 HM))
            (try simp only [Exit.inBlock, Exit.then])
            refine bodyPost_ret (res_box_tmp rfl HM.out 0 rfl rfl rfl rfl) rfl ?_
            rw [← HR.out]
            exact ⟨rfl, HM.out.below⟩
          | some n =>
            have hr := HR.out
            clear HR
            rw [hu] at hr
            dsimp only at hr
            have HR := Lib.hid hr
            clear hr
            have l4 := fndL_le (by simp) hu
            rw [List.length_drop, size_list] at l4
            simp only [List.length_cons, List.length_nil] at l4
            obtain ⟨k4, hk4⟩ : ∃ k, k3 + 1 + n = k := ⟨_, rfl⟩
            have hf : fndR ⟨#[39]⟩ S (k3 + 1) = (k4 : Int) := by unfold fndR; rw [hu, ← hk4]
            have HF := Lib.hid (fun W => rfind_at hf l3b hs (one_z 39).1 (one_z 39).2 W)
            have l5 : k4 + 1 ≤ S.size := by omega
            have l6 : k3 + 1 ≤ k4 := by omega
            have hr := HR.out
            clear HR
            rw [hk4] at hr
            have HR := Lib.hid hr
            clear hr
            clear hu hf hk4 l4
            have q2 : decide ((k4 : Int) < 0) = false := decide_eq_false (by omega)
            obtain ⟨X, hX⟩ : ∃ X, S.extract (k3 + 1) k4 = X := ⟨_, rfl⟩
            have hXs : X.size ≤ 1073741824 := by rw [← hX, ByteArray.size_extract]; omega
            have hr := HR.out
            clear HR
            rw [hX] at hr
            have HR := Lib.hid hr
            clear hr
            have HX := Lib.hid hX
            clear hX
            refine (HF.out _).mono ?_
            rintro e W2 ⟨rfl, rfl⟩
            go_wp2_with (first | ((with_reducible refine iat 61 ?_); (refine ssls rfl rfl (i := k3 + 1) (by simp) rfl (j := k4) rfl l6 (by omega) ?_; rw [HX.out])))
            (try rw [HX.out])
            refine (runescape_any X true _ hXs).mono ?_
            rintro e W2 ⟨rfl, hb⟩
            have HM1 := Lib.hid (HM.out.next hb)
            clear HM hb
            (try clear W1)
            have HM := HM1
            clear HM1
            cases ho : unescO true X with
            | none =>
              have hr := HR.out
              clear HR
              rw [ho] at hr
              have HR := Lib.hid hr
              clear hr
              obtain ⟨c, hc0, hc⟩ := unescO_none ho
              rw [hc]
              have q0 : (c != 0) = true := by simpa using hc0
              clear hc ho hc0
              go_wp2_with (first | ((with_reducible refine skip_op ?_ ?_); exact rfl) | (refine mS ?_; clear HM; intro W1 HM) | (refine hal HM rfl ?_; clear HM; intro g1 W1 HM))
              (try simp only [Exit.inBlock, Exit.then])
              refine bodyPost_ret (res_box_tmp rfl HM.out 0 rfl rfl rfl rfl) rfl ?_
              rw [← HR.out]
              exact ⟨rfl, HM.out.below⟩
            | some v =>
              have hr := HR.out
              clear HR
              rw [ho] at hr
              have HR := Lib.hid hr
              clear hr
              rw [unescO_some ho]
              clear ho
              go_wp2_with (first | ((with_reducible refine skip_op ?_ ?_); exact rfl) | (refine mS ?_; clear HM; intro W1 HM) | (refine hal HM rfl ?_; clear HM; intro g1 W1 HM))
              (try simp only [Exit.inBlock, Exit.then])
              refine bodyPost_ret (res_box_tmp rfl HM.out 0 rfl rfl rfl rfl) rfl ?_
              rw [← HR.out]
              exact ⟨rfl, HM.out.below⟩
      | false =>
        refine (rbegins_at (t := ⟨#[39]⟩) h39 l3 hs (by decide) _).mono ?_
        rintro e W2 ⟨rfl, rfl⟩
        go_wp2_with (first | ((with_reducible refine skip_op ?_ ?_); exact rfl) | (refine mS ?_; clear HM; intro W1 HM) | (refine hal HM rfl ?_; clear HM; intro g1 W1 HM))
        cases h34 : atP [34] S k3 with
        | true =>
          have hr := HR.out
          clear HR
          rw [show quoF S k3 = some 34 by unfold quoF; rw [if_pos h34]] at hr
          have HR := Lib.hid hr
          clear hr
          have l3b : k3 + 1 ≤ S.size := atP_le l3 h34
          have HQ := Lib.hid (one_byte h34 l3b)
          refine (rbegins_at (t := ⟨#[34]⟩) h34 l3 hs (by decide) _).mono ?_
          rintro e W2 ⟨rfl, rfl⟩
          go_wp2_with (first | ((with_reducible refine iat 51 ?_); (refine ssls rfl rfl (i := k3) rfl rfl (j := k3 + 1) (by simp) (by omega) l3b ?_; rw [HQ.out])) | ((with_reducible refine skip_op ?_ ?_); exact rfl) | (refine mS ?_; clear HM; intro W1 HM) | (refine hal HM rfl ?_; clear HM; intro g1 W1 HM))
          clear h39 h34
          have hr := HR.out
          clear HR
          (try dsimp only at hr)
          have HR := Lib.hid hr
          clear hr
          cases hu : fndL [34] (S.data.toList.drop (k3 + 1)) with
          | none =>
            have hr := HR.out
            clear HR
            rw [hu] at hr
            have HR := Lib.hid hr
            clear hr
            have hf : fndR ⟨#[34]⟩ S (k3 + 1) = -1 := by unfold fndR; rw [hu]
            have HF := Lib.hid (fun W => rfind_at hf l3b hs (one_z 34).1 (one_z 34).2 W)
            clear hu hf
            refine (HF.out _).mono ?_
            rintro e W2 ⟨rfl, rfl⟩
            skip
            go_wp2_with (first | ((with_reducible refine skip_op ?_ ?_); exact rfl) | (refine mS ?_; clear HM; intro W1 HM) | (refine hal HM rfl ?_; clear HM; intro g1 W1 HM))
            (try simp only [Exit.inBlock, Exit.then])
            refine bodyPost_ret (res_box_tmp rfl HM.out 0 rfl rfl rfl rfl) rfl ?_
            rw [← HR.out]
            exact ⟨rfl, HM.out.below⟩
          | some n =>
            have hr := HR.out
            clear HR
            rw [hu] at hr
            dsimp only at hr
            have HR := Lib.hid hr
            clear hr
            have l4 := fndL_le (by simp) hu
            rw [List.length_drop, size_list] at l4
            simp only [List.length_cons, List.length_nil] at l4
            obtain ⟨k4, hk4⟩ : ∃ k, k3 + 1 + n = k := ⟨_, rfl⟩
            have hf : fndR ⟨#[34]⟩ S (k3 + 1) = (k4 : Int) := by unfold fndR; rw [hu, ← hk4]
            have HF := Lib.hid (fun W => rfind_at hf l3b hs (one_z 34).1 (one_z 34).2 W)
            have l5 : k4 + 1 ≤ S.size := by omega
            have l6 : k3 + 1 ≤ k4 := by omega
            have hr := HR.out
            clear HR
            rw [hk4] at hr
            have HR := Lib.hid hr
            clear hr
            clear hu hf hk4 l4
            have q2 : decide ((k4 : Int) < 0) = false := decide_eq_false (by omega)
            obtain ⟨X, hX⟩ : ∃ X, S.extract (k3 + 1) k4 = X := ⟨_, rfl⟩
            have hXs : X.size ≤ 1073741824 := by rw [← hX, ByteArray.size_extract]; omega
            have hr := HR.out
            clear HR
            rw [hX] at hr
            have HR := Lib.hid hr
            clear hr
            have HX := Lib.hid hX
            clear hX
            refine (HF.out _).mono ?_
            rintro e W2 ⟨rfl, rfl⟩
            go_wp2_with (first | ((with_reducible refine iat 61 ?_); (refine ssls rfl rfl (i := k3 + 1) (by simp) rfl (j := k4) rfl l6 (by omega) ?_; rw [HX.out])))
            (try rw [HX.out])
            refine (runescape_any X true _ hXs).mono ?_
            rintro e W2 ⟨rfl, hb⟩
            have HM1 := Lib.hid (HM.out.next hb)
            clear HM hb
            (try clear W1)
            have HM := HM1
            clear HM1
            cases ho : unescO true X with
            | none =>
              have hr := HR.out
              clear HR
              rw [ho] at hr
              have HR := Lib.hid hr
              clear hr
              obtain ⟨c, hc0, hc⟩ := unescO_none ho
              rw [hc]
              have q0 : (c != 0) = true := by simpa using hc0
              clear hc ho hc0
              go_wp2_with (first | ((with_reducible refine skip_op ?_ ?_); exact rfl) | (refine mS ?_; clear HM; intro W1 HM) | (refine hal HM rfl ?_; clear HM; intro g1 W1 HM))
              (try simp only [Exit.inBlock, Exit.then])
              refine bodyPost_ret (res_box_tmp rfl HM.out 0 rfl rfl rfl rfl) rfl ?_
              rw [← HR.out]
              exact ⟨rfl, HM.out.below⟩
            | some v =>
              have hr := HR.out
              clear HR
              rw [ho] at hr
              have HR := Lib.hid hr
              clear hr
              rw [unescO_some ho]
              clear ho
              go_wp2_with (first | ((with_reducible refine skip_op ?_ ?_); exact rfl) | (refine mS ?_; clear HM; intro W1 HM) | (refine hal HM rfl ?_; clear HM; intro g1 W1 HM))
              (try simp only [Exit.inBlock, Exit.then])
              refine bodyPost_ret (res_box_tmp rfl HM.out 0 rfl rfl rfl rfl) rfl ?_
              rw [← HR.out]
              exact ⟨rfl, HM.out.below⟩
        | false =>
          have hr := HR.out
          clear HR
          rw [show quoF S k3 = none by unfold quoF; rw [if_neg (by rw [h34]; decide), if_neg (by rw [h39]; decide)]] at hr
          have HR := Lib.hid hr
          clear hr
          refine (rbegins_at (t := ⟨#[34]⟩) h34 l3 hs (by decide) _).mono ?_
          rintro e W2 ⟨rfl, rfl⟩
          skip
          go_wp2_with (first | ((with_reducible refine skip_op ?_ ?_); exact rfl) | (refine mS ?_; clear HM; intro W1 HM) | (refine hal HM rfl ?_; clear HM; intro g1 W1 HM))
          (try simp only [Exit.inBlock, Exit.then])
          refine bodyPost_ret (res_box_tmp rfl HM.out 0 rfl rfl rfl rfl) rfl ?_
          rw [← HR.out]
          exact ⟨rfl, HM.out.below⟩
end Go.Proofs.YtanncakdlflopaaGreatDoor
