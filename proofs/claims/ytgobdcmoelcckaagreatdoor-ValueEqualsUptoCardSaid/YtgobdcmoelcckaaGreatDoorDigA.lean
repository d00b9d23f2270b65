/- The reference's numbers: Cut, Shift, Plus. (short) -/
import Derived.Test.YtgobdcmoelcckaaGreatDoorDigP
import Derived.Test.YtgobdcmoelcckaaGreatDoorSepA
namespace Go.Proofs.YtgobdcmoelcckaaGreatDoor
open Go.RowKit
set_option linter.unusedVariables false
set_option linter.unusedSimpArgs false
set_option maxRecDepth 100000

set_option maxHeartbeats 8000000 in
theorem cutd_any (p : Option Addr) (cap : Nat) (l : List Nat) (w : World) (hS : Sl w p (l.flatMap dgC)) (h9 : ∀ x ∈ l, x ≤ 9) (hc : l.length ≤ cap) (hl : l.length ≤ 1048576) :
    Calls Tryz.prog 188 #[.slice p l.length cap] w fun e w' => e = .returned (.slice p (dig (dvl l)).length cap) ∧ RowKit.Below w.heap.size w w' := by
  have HM := Lib.hid (Mem.start w)
  have HS := Lib.hid hS
  obtain ⟨D, hD⟩ : ∃ D, (dig (dvl l)).length = D := ⟨_, rfl⟩
  have hDl : D ≤ l.length := by rw [← hD]; exact (cut_take h9).1
  have HZ := Lib.hid (show ∀ n, D < n → n ≤ l.length → l[n - 1]? = some 0 from fun n h1 h2 => cut_zero h9 (by rw [hD]; exact h1) h2)
  have HT := Lib.hid (show 0 < D → ∃ d, l[D - 1]? = some d ∧ d ≠ 0 from fun h => by rw [← hD]; exact cut_stop h9 (by rw [hD]; exact h))
  rw [hD]
  clear hS hD h9
  go_enter Tryz.func188, Tryz.ntmps188
  go_wp2_with fail
  go_loopw [3] (fun iv wr => ∃ n : Nat, iv = .int .i64 n ∧ D ≤ n ∧ n ≤ l.length ∧ Hid (Mem w wr [])) (fun iv _ => (intOf iv).toNat)
  case atStart => exact ⟨l.length, rfl, hDl, Nat.le_refl _, HM⟩
  case round =>
    clear HM
    obtain ⟨n, rfl, hDn, hnl, HM⟩ := hrel
    obtain _ | m := n
    · obtain rfl : D = 0 := by omega
      have q1 : decide ((0 : Int) < 0) = false := by simp
      go_wp2_with fail
      go_ret
      exact ⟨rfl, HM.out.below⟩
    · have hlt : m < l.length := by omega
      obtain ⟨b, rfl, hb⟩ := HS.out.some_at dgC_len (by decide) hlt
      have q1 : decide ((0 : Int) < ((m + 1 : Nat) : Int)) = true := decide_eq_true (by omega)
      by_cases hd : D < m + 1
      · have hz : l[m]? = some 0 := by have := HZ.out (m + 1) hd hnl; simpa using this
        have HE := Lib.hid (show Cells w (b.add (m * 1)) [.int .i64 ((0 : Nat) : Int)] from hb.elem dgC 1 dgC_len hz)
        clear hz hb
        go_wp2_with (first | ((with_reducible refine iat 12 ?_); (refine ixa rfl rfl (i := m) (by omega) hlt ?_)) | ((with_reducible refine iat 13 ?_); (refine ldx0 (v := .int .i64 0) (HM.out.olds HE.out) rfl rfl ?_)))
        go_roundw
        case rel => exact ⟨m, rfl, by omega, by omega, HM⟩
        case measure => simp [intOf]
      · obtain rfl : D = m + 1 := by omega
        obtain ⟨d, hd1, hd2⟩ := HT.out (by omega)
        have hd1' : l[m]? = some d := by simpa using hd1
        have HE := Lib.hid (show Cells w (b.add (m * 1)) [.int .i64 (d : Int)] from hb.elem dgC 1 dgC_len hd1')
        have q2 : ((d : Int) == 0) = false := by simp [hd2]
        clear hd1 hd1' hd2 hb hd
        go_wp2_with (first | ((with_reducible refine iat 12 ?_); (refine ixa rfl rfl (i := m) (by omega) hlt ?_)) | ((with_reducible refine iat 13 ?_); (refine ldx0 (v := .int .i64 (d : Int)) (HM.out.olds HE.out) rfl rfl ?_)) | (refine sltx rfl rfl (m := m + 1) (by omega) (by omega) ?_))
        go_ret
        exact ⟨rfl, HM.out.below⟩

set_option maxHeartbeats 8000000 in
theorem shiftd_any (p : Option Addr) (cap : Nat) (x k : Nat) (w : World) (hS : Sl w p ((dig x).flatMap dgC)) (hk : k ≤ 1048576) (hl : (dig x).length ≤ 1048576) :
    Calls Tryz.prog 145 #[.slice p (dig x).length cap, .int .i64 k] w fun e w' => ∃ q c, e = .returned (.slice q (dig (x * 10 ^ k)).length c) ∧ Mem w w' [.row q c 3 1 (dig (x * 10 ^ k)).length ((dig (x * 10 ^ k)).flatMap dgC)] := by
  have HM := Lib.hid (Mem.start w)
  have HS := Lib.hid hS
  by_cases h0 : x = 0
  · subst h0
    have e1 : dig (0 * 10 ^ k) = [] := by rw [Nat.zero_mul, dig_zero]
    have e2 : (dig 0).length = 0 := by rw [dig_zero]; rfl
    rw [e1, e2]
    clear HS hS e1 e2 hl
    go_enter Tryz.func145, Tryz.ntmps145
    go_wp2_with fail
    go_ret
    exact ⟨none, 0, rfl, HM.out.row0 _ _⟩
  · have hpos := dig_len_pos h0
    have hsh := dig_shift h0 k
    obtain ⟨D, hD⟩ : ∃ D, dig x = D := ⟨_, rfl⟩
    obtain ⟨E, hE⟩ : ∃ E, dig (x * 10 ^ k) = E := ⟨_, rfl⟩
    rw [hD] at hpos hsh HS hl ⊢
    rw [hE] at hsh ⊢
    have HE := Lib.hid hsh
    have hEl : E.length = k + D.length := by rw [hsh]; simp
    have HEl := Lib.hid hEl
    have q1 : ((D.length : Int) == 0) = false := by simp; intro e; rw [e] at hpos; simp at hpos
    have HR := Lib.hid (rep_dgC k)
    clear hS h0 hD hE hsh hEl
    go_enter Tryz.func145, Tryz.ntmps145
    go_wp2_with (first | (refine mks (n := k) rfl HM.out rfl rfl rfl rfl rfl (by omega) (by omega) ?_; intro gd W1 HM1; replace HM := Lib.hid HM1; clear HM1) | ((with_reducible refine iat 11 ?_); (refine apr (news := D.flatMap dgC) rfl HM.out 0 rfl rfl rfl (by rw [flat_len dgC 1 dgC_len]) (fun e => (HM.out.sl HS.out).nil_len dgC_len (by decide) e) (HM.out.sl HS.out).2 (dgC_one _) (by unfold maxLen; omega) (by omega) ?_; intro p1 cap1 W2 HM1 hnil; clear hnil; clear HM; (try clear W1); rename World => W1; have HM := Lib.hid HM1; clear HM1; simp only [List.set] at HM)))
    go_ret
    refine ⟨p1, cap1, by rw [HEl.out]; rfl, ?_⟩
    rw [HEl.out, HE.out, List.flatMap_append, ← HR.out]
    exact HM.out

/-- The digits' sum, a place at a time. -/
theorem plus_step {a b o : List Nat} {i c x y s : Nat} (ha : dvl a = x) (hb : dvl b = y) (hl : o.length = i) (h : dvl o + 10 ^ i * (c + dvl (a.drop i) + dvl (b.drop i)) = x + y) (hs : s = c + (a[i]?.getD 0) + (b[i]?.getD 0)) : dvl (o ++ [s % 10]) + 10 ^ (i + 1) * (s / 10 + dvl (a.drop (i + 1)) + dvl (b.drop (i + 1))) = x + y := by
  have key : ∀ l : List Nat, dvl (l.drop i) = l[i]?.getD 0 + 10 * dvl (l.drop (i + 1)) := fun l => by
    cases hd : l[i]? with
    | some d => rw [dvl_drop hd]; rfl
    | none =>
      have hle : l.length ≤ i := List.getElem?_eq_none_iff.1 hd
      rw [dvl_none hle, dvl_none (by omega)]
      rfl
  rw [key a, key b] at h
  rw [dvl_snoc, hl, ← h, Nat.pow_succ]
  have hm : s = 10 * (s / 10) + s % 10 := by omega
  generalize a[i]?.getD 0 = u at *
  generalize b[i]?.getD 0 = v at *
  generalize dvl (a.drop (i + 1)) = A at *
  generalize dvl (b.drop (i + 1)) = B at *
  have e : c + (u + 10 * A) + (v + 10 * B) = s % 10 + 10 * (s / 10 + A + B) := by omega
  rw [e, Nat.add_assoc, Nat.mul_assoc, ← Nat.mul_add]
theorem dig_push {w W : World} {r : Option Addr} {e i i' d : Nat} {t : TypeId} {o : List Nat} {cs : List Value} {v : Int} (ht : cs.take (i * 1) = o.flatMap dgC) (hv : v = (d : Nat)) (h : Mem w W [.row r e t 1 i' (cs.take (i * 1) ++ [.int .i64 v])]) : Mem w W [.row r e t 1 i' ((o ++ [d]).flatMap dgC)] := by
  rw [ht, hv] at h
  rw [List.flatMap_append]
  simpa [dgC] using h
theorem dig_cut {w W : World} {r : Option Addr} {e i D : Nat} {t : TypeId} {o l : List Nat} (h1 : D ≤ i) (h2 : o.take D = l) (h : Mem w W [.row r e t 1 i (o.flatMap dgC)]) : Mem w W [.row r e t 1 D (l.flatMap dgC)] := by
  have := h.trunc (k := 0) rfl h1
  rw [flat_take dgC 1 dgC_len, h2] at this
  exact this
theorem dig_getD {l : List Nat} (h : ∀ x ∈ l, x ≤ 9) (i : Nat) : l[i]?.getD 0 ≤ 9 := by
  cases hd : l[i]? with
  | some d => exact h d (List.mem_of_getElem? hd)
  | none => simp

set_option maxHeartbeats 16000000 in
theorem plusd_any (p q : Option Addr) (c d : Nat) (x y : Nat) (w : World) (hS : Sl w p ((dig x).flatMap dgC)) (hT : Sl w q ((dig y).flatMap dgC)) (hl : (dig x).length ≤ 100000) (hm : (dig y).length ≤ 100000) :
    Calls Tryz.prog 146 #[.slice p (dig x).length c, .slice q (dig y).length d] w fun e w' => ∃ r k, e = .returned (.slice r (dig (x + y)).length k) ∧ Mem w w' [.row r k 3 1 (dig (x + y)).length ((dig (x + y)).flatMap dgC)] := by
  have HM := Lib.hid ((Mem.start w).row0 3 1)
  have HS := Lib.hid hS
  have HT := Lib.hid hT
  have HDx := Lib.hid (dvl_dig x)
  have HDy := Lib.hid (dvl_dig y)
  have HNx := Lib.hid (dig_nine x)
  have HNy := Lib.hid (dig_nine y)
  obtain ⟨N, hN⟩ : ∃ N, x + y = N := ⟨_, rfl⟩
  have HN := Lib.hid hN
  rw [hN]
  generalize dig x = A at *
  generalize dig y = B at *
  clear hS hT hN
  go_enter Tryz.func146, Tryz.ntmps146
  go_wp2_with fail
  go_loopw [7, 6, 5] (fun iv cv ov wr => ∃ (i k : Nat) (o : List Nat) (r : Option Addr) (e : Nat), iv = .int .i64 i ∧ cv = .int .i64 k ∧ ov = .slice r i e ∧ k ≤ 1 ∧ i ≤ max A.length B.length + 1 ∧ (i = max A.length B.length + 1 → k = 0) ∧ Hid (o.length = i) ∧ Hid (∀ x ∈ o, x ≤ 9) ∧ Hid (dvl o + 10 ^ i * (k + dvl (A.drop i) + dvl (B.drop i)) = N) ∧ Hid (Mem w wr [.row r e 3 1 i (o.flatMap dgC)])) (fun iv _ _ _ => max A.length B.length + 1 - (intOf iv).toNat)
  case atStart => exact ⟨0, 0, [], none, 0, rfl, rfl, rfl, by omega, by omega, by omega, Lib.hid rfl, Lib.hid (by simp), Lib.hid (by rw [List.drop_zero, List.drop_zero, HDx.out, HDy.out, ← HN.out]; simp [dvl]), HM⟩
  case round =>
    clear HM
    obtain ⟨i, k, o, r, e, rfl, rfl, rfl, hk, hi, hik, HOl, HO9, HI, HM⟩ := hrel
    by_cases hgo : i < A.length ∨ i < B.length ∨ 0 < k
    · have hib : i ≤ max A.length B.length := by omega
      obtain ⟨u, hu⟩ : ∃ u, A[i]?.getD 0 = u := ⟨_, rfl⟩
      obtain ⟨v, hv⟩ : ∃ v, B[i]?.getD 0 = v := ⟨_, rfl⟩
      have hu9 : u ≤ 9 := hu ▸ dig_getD HNx.out i
      have hv9 : v ≤ 9 := hv ▸ dig_getD HNy.out i
      have HSt := Lib.hid (show ∀ s, s = k + u + v → dvl (o ++ [s % 10]) + 10 ^ (i + 1) * (s / 10 + dvl (A.drop (i + 1)) + dvl (B.drop (i + 1))) = N from fun s hs => by
        rw [← HN.out]
        exact plus_step HDx.out HDy.out HOl.out (HI.out.trans HN.out.symm) (by rw [hu, hv]; exact hs))
      have HTk := Lib.hid (show (o.flatMap dgC).take (i * 1) = o.flatMap dgC by rw [List.take_of_length_le]; rw [flat_len dgC 1 dgC_len, HOl.out]; omega)
      by_cases hia : i < A.length
      · by_cases hib2 : i < B.length
        · as_aux_lemma =>
          obtain ⟨b1, rfl, hb1⟩ := HS.out.some_at dgC_len (by decide) hia
          have hau : A[i]? = some u := by rw [List.getElem?_eq_getElem hia] at hu ⊢; exact congrArg some hu
          have HA1 := Lib.hid (show Cells w (b1.add (i * 1)) [.int .i64 (u : Int)] from hb1.elem dgC 1 dgC_len hau)
          have q1 : decide ((i : Int) < A.length) = true := decide_eq_true (by omega)
          clear hb1 hau
          obtain ⟨b2, rfl, hb2⟩ := HT.out.some_at dgC_len (by decide) hib2
          have hbv : B[i]? = some v := by rw [List.getElem?_eq_getElem hib2] at hv ⊢; exact congrArg some hv
          have HB1 := Lib.hid (show Cells w (b2.add (i * 1)) [.int .i64 (v : Int)] from hb2.elem dgC 1 dgC_len hbv)
          have q2 : decide ((i : Int) < B.length) = true := decide_eq_true (by omega)
          clear hb2 hbv
          have HSx := Lib.hid (HSt.out (k + u + v) (by omega))
          clear hu hv
          go_wp2_with (first | ((with_reducible refine iat 33 ?_); (refine ixa rfl rfl rfl hia ?_)) | ((with_reducible refine iat 34 ?_); (refine ldx0 (v := .int .i64 (u : Int)) (HM.out.olds HA1.out) rfl rfl ?_)) | ((with_reducible refine iat 43 ?_); (refine ixa rfl rfl rfl hib2 ?_)) | ((with_reducible refine iat 44 ?_); (refine ldx0 (v := .int .i64 (v : Int)) (HM.out.olds HB1.out) rfl rfl ?_)) | (refine apb rfl HM.out 1 0 rfl rfl rfl rfl rfl rfl (by omega) (by omega) (by omega) ?_; intro p1 cap1 W1 HM1; replace HM := Lib.hid HM1; clear HM1; simp only [List.set] at HM) | ((with_reducible refine skip_op ?_ ?_); exact rfl) | refine mP ?_ | (refine mL ?_; clear HM; intro g1 W1 HM))
          go_roundw
          case rel => exact ⟨i + 1, (k + u + v) / 10, o ++ [(k + u + v) % 10], _, _, by go_num, congrArg (Value.int .i64) (by omega), rfl, by omega, by omega, by omega, Lib.hid (by rw [List.length_append, HOl.out]; rfl), Lib.hid (fun x hx => by
            rcases List.mem_append.1 hx with h | h
            · exact HO9.out x h
            · rw [List.mem_singleton.1 h]; omega), HSx, Lib.hid (dig_push HTk.out (by omega) (HM.out.sub (.cons _ (.refl _))))⟩
          case measure => simp [intOf]; omega
        · as_aux_lemma =>
          obtain ⟨b1, rfl, hb1⟩ := HS.out.some_at dgC_len (by decide) hia
          have hau : A[i]? = some u := by rw [List.getElem?_eq_getElem hia] at hu ⊢; exact congrArg some hu
          have HA1 := Lib.hid (show Cells w (b1.add (i * 1)) [.int .i64 (u : Int)] from hb1.elem dgC 1 dgC_len hau)
          have q1 : decide ((i : Int) < A.length) = true := decide_eq_true (by omega)
          clear hb1 hau
          have q2 : decide ((i : Int) < B.length) = false := decide_eq_false (by omega)
          obtain rfl : v = 0 := by rw [← hv, List.getElem?_eq_none (by omega)]; rfl
          have HSx := Lib.hid (HSt.out (k + u) (by omega))
          clear hu hv
          go_wp2_with (first | ((with_reducible refine iat 33 ?_); (refine ixa rfl rfl rfl hia ?_)) | ((with_reducible refine iat 34 ?_); (refine ldx0 (v := .int .i64 (u : Int)) (HM.out.olds HA1.out) rfl rfl ?_)) | (refine apb rfl HM.out 1 0 rfl rfl rfl rfl rfl rfl (by omega) (by omega) (by omega) ?_; intro p1 cap1 W1 HM1; replace HM := Lib.hid HM1; clear HM1; simp only [List.set] at HM) | ((with_reducible refine skip_op ?_ ?_); exact rfl) | refine mP ?_ | (refine mL ?_; clear HM; intro g1 W1 HM))
          go_roundw
          case rel => exact ⟨i + 1, (k + u) / 10, o ++ [(k + u) % 10], _, _, by go_num, congrArg (Value.int .i64) (by omega), rfl, by omega, by omega, by omega, Lib.hid (by rw [List.length_append, HOl.out]; rfl), Lib.hid (fun x hx => by
            rcases List.mem_append.1 hx with h | h
            · exact HO9.out x h
            · rw [List.mem_singleton.1 h]; omega), HSx, Lib.hid (dig_push HTk.out (by omega) (HM.out.sub (.cons _ (.refl _))))⟩
          case measure => simp [intOf]; omega
      · by_cases hib2 : i < B.length
        · as_aux_lemma =>
          have q1 : decide ((i : Int) < A.length) = false := decide_eq_false (by omega)
          obtain rfl : u = 0 := by rw [← hu, List.getElem?_eq_none (by omega)]; rfl
          obtain ⟨b2, rfl, hb2⟩ := HT.out.some_at dgC_len (by decide) hib2
          have hbv : B[i]? = some v := by rw [List.getElem?_eq_getElem hib2] at hv ⊢; exact congrArg some hv
          have HB1 := Lib.hid (show Cells w (b2.add (i * 1)) [.int .i64 (v : Int)] from hb2.elem dgC 1 dgC_len hbv)
          have q2 : decide ((i : Int) < B.length) = true := decide_eq_true (by omega)
          clear hb2 hbv
          have HSx := Lib.hid (HSt.out (k + v) (by omega))
          clear hu hv
          go_wp2_with (first | ((with_reducible refine iat 43 ?_); (refine ixa rfl rfl rfl hib2 ?_)) | ((with_reducible refine iat 44 ?_); (refine ldx0 (v := .int .i64 (v : Int)) (HM.out.olds HB1.out) rfl rfl ?_)) | (refine apb rfl HM.out 1 0 rfl rfl rfl rfl rfl rfl (by omega) (by omega) (by omega) ?_; intro p1 cap1 W1 HM1; replace HM := Lib.hid HM1; clear HM1; simp only [List.set] at HM) | ((with_reducible refine skip_op ?_ ?_); exact rfl) | refine mP ?_ | (refine mL ?_; clear HM; intro g1 W1 HM))
          go_roundw
          case rel => exact ⟨i + 1, (k + v) / 10, o ++ [(k + v) % 10], _, _, by go_num, congrArg (Value.int .i64) (by omega), rfl, by omega, by omega, by omega, Lib.hid (by rw [List.length_append, HOl.out]; rfl), Lib.hid (fun x hx => by
            rcases List.mem_append.1 hx with h | h
            · exact HO9.out x h
            · rw [List.mem_singleton.1 h]; omega), HSx, Lib.hid (dig_push HTk.out (by omega) (HM.out.sub (.cons _ (.refl _))))⟩
          case measure => simp [intOf]; omega
        · as_aux_lemma =>
          have q1 : decide ((i : Int) < A.length) = false := decide_eq_false (by omega)
          obtain rfl : u = 0 := by rw [← hu, List.getElem?_eq_none (by omega)]; rfl
          have q2 : decide ((i : Int) < B.length) = false := decide_eq_false (by omega)
          obtain rfl : v = 0 := by rw [← hv, List.getElem?_eq_none (by omega)]; rfl
          obtain rfl : k = 1 := by omega
          have HSx := Lib.hid (HSt.out (1) (by omega))
          clear hu hv
          go_wp2_with (first | (refine apb rfl HM.out 1 0 rfl rfl rfl rfl rfl rfl (by omega) (by omega) (by omega) ?_; intro p1 cap1 W1 HM1; replace HM := Lib.hid HM1; clear HM1; simp only [List.set] at HM) | ((with_reducible refine skip_op ?_ ?_); exact rfl) | refine mP ?_ | (refine mL ?_; clear HM; intro g1 W1 HM))
          go_roundw
          case rel => exact ⟨i + 1, (1) / 10, o ++ [(1) % 10], _, _, by go_num, congrArg (Value.int .i64) (by omega), rfl, by omega, by omega, by omega, Lib.hid (by rw [List.length_append, HOl.out]; rfl), Lib.hid (fun x hx => by
            rcases List.mem_append.1 hx with h | h
            · exact HO9.out x h
            · rw [List.mem_singleton.1 h]; omega), HSx, Lib.hid (dig_push HTk.out (by omega) (HM.out.sub (.cons _ (.refl _))))⟩
          case measure => simp [intOf]; omega
    · obtain rfl : k = 0 := by omega
      have q1 : decide ((i : Int) < A.length) = false := decide_eq_false (by omega)
      have q2 : decide ((i : Int) < B.length) = false := decide_eq_false (by omega)
      have HV := Lib.hid (show dvl o = N by
        have h := HI.out
        rw [dvl_none (by omega), dvl_none (by omega)] at h
        simpa using h)
      have hcp := row_cap (HM.out.get (k := 0) rfl)
      have HOl2 := Lib.hid hcp.1
      have HC := Lib.hid (fun W (h : Sl W r (o.flatMap dgC)) => (show Calls Tryz.prog 188 #[.slice r i e] W fun e' w' => e' = .returned (.slice r (dig N).length e) ∧ RowKit.Below W.heap.size W w' from by
        have h := cutd_any r e o W h HO9.out (by rw [HOl.out]; exact HOl2.out) (by rw [HOl.out]; omega)
        rw [HV.out, HOl.out] at h
        exact h))
      have HTk := Lib.hid (show (dig N).length ≤ i ∧ o.take (dig N).length = dig N by
        have h := cut_take HO9.out
        rw [HV.out, HOl.out] at h
        exact h)
      clear hcp
      go_wp2_with (first | (go_at_call 188; (with_reducible refine cB HM (HC.out _ (row_sl (HM.out.get (k := 0) rfl))) ?_); clear HM; intro W1 HM))
      go_ret
      exact ⟨r, e, rfl, dig_cut HTk.out.1 HTk.out.2 HM.out⟩
end Go.Proofs.YtgobdcmoelcckaaGreatDoor
