/- The reference's numbers: Less. (short) -/
import Derived.Test.YtgobdcmoelcckaaGreatDoorDigA
import Derived.Test.YtgobdcmoelcckaaGreatDoorSepA
namespace Go.Proofs.YtgobdcmoelcckaaGreatDoor
open Go.RowKit
set_option linter.unusedVariables false
set_option linter.unusedSimpArgs false
set_option maxRecDepth 100000

def zvl : List Int → Int
  | [] => 0
  | d :: r => d + 10 * zvl r
theorem zvl_nat : ∀ l : List Nat, zvl (l.map (fun x : Nat => (x : Int))) = (dvl l : Nat)
  | [] => rfl
  | d :: r => by
    simp only [List.map_cons, zvl, dvl, zvl_nat r]
    omega
theorem zvl_set : ∀ (o : List Int) (i : Nat) (v u : Int), o[i]? = some v → zvl (o.set i u) = zvl o + 10 ^ i * (u - v)
  | [], i, v, u, h => by simp at h
  | d :: r, 0, v, u, h => by
    simp at h
    subst h
    simp only [List.set_cons_zero, zvl, Int.pow_zero]
    omega
  | d :: r, i + 1, v, u, h => by
    have h' : r[i]? = some v := by simpa using h
    simp only [List.set_cons_succ, zvl, zvl_set r i v u h']
    have : (10 : Int) ^ (i + 1) = 10 * 10 ^ i := by rw [Int.pow_succ]; exact Int.mul_comm _ _
    rw [this, Int.mul_assoc]
    generalize (10 : Int) ^ i * (u - v) = z
    omega
theorem nat_of : ∀ o : List Int, (∀ v ∈ o, 0 ≤ v ∧ v ≤ 9) → ∃ l : List Nat, o = l.map (fun x : Nat => (x : Int)) ∧ (∀ x ∈ l, x ≤ 9)
  | [], _ => ⟨[], rfl, by simp⟩
  | d :: r, h => by
    obtain ⟨l, h1, h2⟩ := nat_of r (fun v hv => h v (List.mem_cons_of_mem _ hv))
    have hd := h d List.mem_cons_self
    refine ⟨d.toNat :: l, ?_, ?_⟩
    · rw [List.map_cons, ← h1]
      congr 1
      omega
    · intro x hx
      rcases List.mem_cons.1 hx with rfl | hx
      · omega
      · exact h2 x hx
/-- The top digit of what isn't negative. -/
theorem top_pos : ∀ (o : List Int), 0 ≤ zvl o → (∀ (j : Nat) (v : Int), o[j]? = some v → v ≤ 9 ∧ (j + 1 < o.length → 0 ≤ v)) → ∀ v ∈ o, 0 ≤ v ∧ v ≤ 9
  | [], _, _ => by simp
  | [d], h0, h => by
    intro v hv
    rw [List.mem_singleton.1 hv]
    simp only [zvl] at h0
    have := h 0 d rfl
    exact ⟨by omega, this.1⟩
  | d :: e :: r, h0, h => by
    have hd := h 0 d rfl
    have hd0 := hd.2 (by simp)
    simp only [zvl] at h0
    have ih := top_pos (e :: r) (by simp only [zvl]; omega) (fun j v hj => by
      have := h (j + 1) v (by simpa using hj)
      exact ⟨this.1, fun hl => this.2 (by simp at hl ⊢; omega)⟩)
    intro v hv
    rcases List.mem_cons.1 hv with rfl | hv
    · exact ⟨hd0, hd.1⟩
    · exact ih v hv
theorem dvl_take {l : List Nat} {i d : Nat} (h : l[i]? = some d) : dvl (l.take (i + 1)) = dvl (l.take i) + 10 ^ i * d := by
  have hi := (List.getElem?_eq_some_iff.1 h).1
  rw [List.take_add_one, h]
  have := dvl_snoc (l.take i) d
  rw [List.length_take, Nat.min_eq_left (by omega)] at this
  exact this
theorem dig_mono {x y : Nat} (h : y ≤ x) : (dig y).length ≤ (dig x).length := by
  have h1 := dvl_lt (dig x) (dig_nine x)
  rw [dvl_dig] at h1
  exact dig_len _ _ (by omega)
theorem zC_flat (l : List Nat) : (l.map (fun x : Nat => (x : Int))).flatMap zC = l.flatMap dgC := by
  induction l with
  | nil => rfl
  | cons a r ih => rw [List.map_cons, List.flatMap_cons, List.flatMap_cons, ih]; rfl
theorem zC_map (l : List Int) : l.flatMap zC = l.map (fun x => Value.int .i64 x) := by
  induction l with
  | nil => rfl
  | cons a r ih => rw [List.flatMap_cons, ih]; rfl
theorem zC_cell {l : List Int} {i : Nat} {v : Int} (h : l[i]? = some v) : (l.flatMap zC)[i]? = some (.int .i64 v) := by
  rw [zC_map, List.getElem?_map, h]; rfl
theorem zC_set (l : List Int) (i : Nat) (v : Int) : (l.flatMap zC).set i (.int .i64 v) = (l.set i v).flatMap zC := by
  rw [zC_map, zC_map, List.map_set]
theorem zC_flen (l : List Int) : (l.flatMap zC).length = l.length := by rw [zC_map, List.length_map]
theorem set_at {l : List Int} {i j : Nat} {v u : Int} (h : (l.set i u)[j]? = some v) : (j = i ∧ v = u) ∨ (j ≠ i ∧ l[j]? = some v) := by
  rw [List.getElem?_set] at h
  split at h
  · rename_i e
    split at h
    · exact Or.inl ⟨e.symm, (Option.some.inj h).symm⟩
    · cases h
  · rename_i e
    exact Or.inr ⟨fun h => e h.symm, h⟩

set_option maxHeartbeats 16000000 in
theorem lessd_any (p q : Option Addr) (c d : Nat) (x y : Nat) (w : World) (hxy : y ≤ x) (hS : Sl w p ((dig x).flatMap dgC)) (hT : Sl w q ((dig y).flatMap dgC)) (hl : (dig x).length ≤ 100000) :
    Calls Tryz.prog 148 #[.slice p (dig x).length c, .slice q (dig y).length d] w fun e w' => ∃ r k, e = .returned (.slice r (dig (x - y)).length k) ∧ Mem w w' [.row r k 3 1 (dig (x - y)).length ((dig (x - y)).flatMap dgC)] := by
  have HM := Lib.hid (Mem.start w)
  have HS := Lib.hid hS
  have HT := Lib.hid hT
  have HDx := Lib.hid (dvl_dig x)
  have HDy := Lib.hid (dvl_dig y)
  have HNx := Lib.hid (dig_nine x)
  have HNy := Lib.hid (dig_nine y)
  have hmn := dig_mono hxy
  have HXY := Lib.hid hxy
  obtain ⟨N, hN⟩ : ∃ N, x - y = N := ⟨_, rfl⟩
  have HN := Lib.hid hN
  rw [hN]
  generalize dig x = A at *
  generalize dig y = B at *
  clear hS hT hN hxy
  go_enter Tryz.func148, Tryz.ntmps148
  go_wp2_with (first | (refine bs0 rfl HM.out ?_; intro g8 W1 HM1; replace HM := Lib.hid HM1; clear HM1) | ((with_reducible refine iat 10 ?_); (refine apr (news := A.flatMap dgC) rfl HM.out 0 rfl rfl rfl (by rw [flat_len dgC 1 dgC_len]) (fun e => (HM.out.sl HS.out).nil_len dgC_len (by decide) e) (HM.out.sl HS.out).2 (dgC_one _) (by unfold maxLen; omega) (by omega) ?_; intro p1 cap1 W2 HM1 hnil; clear hnil; clear HM; (try clear W1); rename World => W1; have HM := Lib.hid HM1; clear HM1; simp only [List.set, List.nil_append, Nat.zero_add] at HM; rw [Nat.zero_add])))
  have HM1 := Lib.hid (show Mem w W1 [.row p1 cap1 3 1 A.length ((A.map (fun x : Nat => (x : Int))).flatMap zC)] by rw [zC_flat]; exact HM.out.sub (.cons_cons _ (List.nil_sublist _)))
  clear HM
  have HM := HM1
  clear HM1
  go_loopw [6] (fun iv wr => ∃ (i : Nat) (o : List Int), iv = .int .i64 i ∧ i ≤ B.length ∧ Hid (o.length = A.length) ∧ Hid (zvl o + (dvl (B.take i) : Nat) = (x : Int)) ∧ Hid (∀ (j : Nat) (v : Int), o[j]? = some v → -9 ≤ v ∧ v ≤ 9 ∧ (i ≤ j → 0 ≤ v)) ∧ Hid (Mem w wr [.row p1 cap1 3 1 A.length (o.flatMap zC)])) (fun iv _ => B.length - (intOf iv).toNat)
  case atStart => exact ⟨0, A.map (fun x : Nat => (x : Int)), rfl, by omega, Lib.hid (by rw [List.length_map]), Lib.hid (by rw [zvl_nat, HDx.out, List.take_zero]; simp [dvl]), Lib.hid (by
    intro j v h
    rw [List.getElem?_map] at h
    cases hj : A[j]? with
    | none => rw [hj] at h; cases h
    | some a =>
      rw [hj] at h
      have := HNx.out a (List.mem_of_getElem? hj)
      obtain rfl : (a : Int) = v := Option.some.inj h
      omega), HM⟩
  case round =>
    clear HM
    obtain ⟨i, o, rfl, hi, HOl, HV, HB, HM⟩ := hrel
    by_cases hib : i < B.length
    · as_aux_lemma =>
      have q1 : decide ((i : Int) < B.length) = true := decide_eq_true (by omega)
      have hio : i < o.length := by rw [HOl.out]; omega
      obtain ⟨u, hu⟩ : ∃ u, o[i]? = some u := ⟨_, List.getElem?_eq_getElem hio⟩
      obtain ⟨v, hv⟩ : ∃ v, B[i]? = some v := ⟨_, List.getElem?_eq_getElem hib⟩
      obtain ⟨b2, rfl, hb2⟩ := HT.out.some_at dgC_len (by decide) hib
      have HB1 := Lib.hid (show Cells w (b2.add (i * 1)) [.int .i64 (v : Int)] from hb2.elem dgC 1 dgC_len hv)
      obtain ⟨b1, rfl, -⟩ := (row_sl (HM.out.get (k := 0) rfl)).some_at zC_len (by decide) hio
      have HU := Lib.hid (show (o.flatMap zC)[i * 1]? = some (.int .i64 u) by rw [Nat.mul_one]; exact zC_cell hu)
      have hv9 := HNy.out v (List.mem_of_getElem? hv)
      have hu9 := HB.out i u hu
      have hu0 := hu9.2.2 (Nat.le_refl _)
      have hu8 := hu9.2.1
      have HN1 := Lib.hid (show zvl (o.set i (u - v)) + (dvl (B.take (i + 1)) : Nat) = (x : Int) by
        rw [zvl_set o i u (u - v) hu, dvl_take hv, ← HV.out]
        have e : u - (v : Int) - u = -(v : Int) := by omega
        rw [e, Int.mul_neg]
        push_cast
        generalize (10 : Int) ^ i * v = z
        omega)
      have hia : i < A.length := by omega
      have HSl := Lib.hid (show i < (o.flatMap zC).length by rw [zC_flen]; exact hio)
      clear hb2 hv hu9
      go_wp2_with fail
      refine wp_region_mem3 12 [(0, 0), (0, 1), (0, 2), (0, 3), (0, 4), (0, 5), (0, 6), (0, 7), (0, 8), (0, 9), (0, 10), (0, 11), (3, 12)] (by kernel_rfl) (by kernel_rfl) rfl (by kernel_rfl) (fun _ _ _ _ _ h => h) HM.out _ (.cons_cons _ .slnil) ?_
      intro hNE W1 HM1; replace HM := Lib.hid HM1; clear HM1
      have HS0 := Lib.hid (HM.out.sub (.cons_cons _ .slnil))
      simp only [wpSteps3, List.getElem?_cons_succ, List.getElem?_cons_zero]
      (repeat (first | ((with_reducible refine wpQuiet_nil ?_); (try dsimp only)) | refine mQ ?_ | ((with_reducible refine qat 21 ?_); (refine qixa rfl rfl rfl hia ?_)) | ((with_reducible refine qat 22 ?_); (refine qd1 (v := .int .i64 u) rfl (fun W ⟨q, hq⟩ => hq ▸ row_cell (q.mem.get (k := 0) rfl) HU.out) ?_)) | ((with_reducible refine qat 25 ?_); (refine qixa rfl rfl rfl hib ?_)) | ((with_reducible refine qat 26 ?_); (refine qdx0 HB1.out rfl rfl ?_)) | ((with_reducible refine qat 28 ?_); (refine qixa rfl rfl rfl hia ?_)) | go_big_quiet_step (fail) | quiet_step (fail)))
      go_wp2_with (first | (refine strw (v := .int .i64 (u - v)) (i := i) rfl HM.out 0 rfl (by first | rfl | (rw [Nat.mul_one]; rfl)) (by first | rfl | exact congrArg (Value.int .i64) (IntWalk.wrap64_in _ (by omega))) rfl HSl.out ?_; intro W1 HM1; replace HM := Lib.hid HM1; clear HM1; simp only [List.set] at HM))
      refine ⟨trivial, ?_⟩
      (try dsimp only)
      clear HS0 hNE
      go_wp2_with fail
      go_roundw
      case rel => exact ⟨i + 1, o.set i (u - v), by go_num, by omega, Lib.hid (by rw [List.length_set]; exact HOl.out), HN1, Lib.hid (by
        intro j z hz
        rcases set_at hz with ⟨rfl, rfl⟩ | ⟨hne, hz⟩
        · exact ⟨by omega, by omega, by omega⟩
        · have := HB.out j z hz
          exact ⟨this.1, this.2.1, fun h => this.2.2 (by omega)⟩), Lib.hid (by rw [← zC_set]; exact HM.out)⟩
      case measure => simp [intOf]; omega
    · obtain rfl : i = B.length := by omega
      have q1 : decide ((B.length : Int) < B.length) = false := decide_eq_false (by omega)
      have hz : zvl o = (N : Nat) := by
        have := HV.out
        rw [List.take_length, HDy.out] at this
        have h2 := HN.out
        have h3 := HXY.out
        omega
      have HZ := Lib.hid hz
      clear hz HV q1 hib
      go_wp2_with fail
      go_loopw [7] (fun iv wr => ∃ (i : Nat) (o : List Int), iv = .int .i64 i ∧ (i = 0 ∨ i < A.length) ∧ Hid (o.length = A.length) ∧ Hid (zvl o = (N : Nat)) ∧ Hid (∀ (j : Nat) (v : Int), o[j]? = some v → v ≤ 9 ∧ (j < i → 0 ≤ v) ∧ (j = i → -10 ≤ v) ∧ (i < j → -9 ≤ v)) ∧ Hid (Mem w wr [.row p1 cap1 3 1 A.length (o.flatMap zC)])) (fun iv _ => A.length - (intOf iv).toNat)
      case atStart => exact ⟨0, o, rfl, Or.inl rfl, HOl, HZ, Lib.hid (by
        intro j v h
        have := HB.out j v h
        exact ⟨this.2.1, by omega, by omega, by omega⟩), HM⟩
      case round =>
        clear HM HOl HZ HB o
        obtain ⟨i, o, rfl, hi, HOl, HZ, HB, HM⟩ := hrel
        by_cases hgo : i + 1 < A.length
        · have q1 : decide ((i : Int) + 1 < A.length) = true := decide_eq_true (by omega)
          have hio : i < o.length := by rw [HOl.out]; omega
          have hio2 : i + 1 < o.length := by rw [HOl.out]; omega
          have hia : i < A.length := by omega
          obtain ⟨u, hu⟩ : ∃ u, o[i]? = some u := ⟨_, List.getElem?_eq_getElem hio⟩
          obtain ⟨v, hv⟩ : ∃ v, o[i + 1]? = some v := ⟨_, List.getElem?_eq_getElem hio2⟩
          obtain ⟨b1, rfl, -⟩ := (row_sl (HM.out.get (k := 0) rfl)).some_at zC_len (by decide) hio
          have hu1 := HB.out i u hu
          have hu2 := hu1.2.2.1 rfl
          have hu3 := hu1.1
          have hv1 := HB.out (i + 1) v hv
          have hv2 := hv1.2.2.2 (by omega)
          have hv3 := hv1.1
          have HU := Lib.hid (show (o.flatMap zC)[i * 1]? = some (.int .i64 u) by rw [Nat.mul_one]; exact zC_cell hu)
          have HSl := Lib.hid (show i < (o.flatMap zC).length by rw [zC_flen]; exact hio)
          by_cases hneg : u < 0
          · as_aux_lemma =>
            have q2 : decide (u < 0) = true := decide_eq_true hneg
            have hv' : (o.set i (u + 10))[i + 1]? = some v := by rw [List.getElem?_set_ne (by omega)]; exact hv
            have HU2 := Lib.hid (show ((o.flatMap zC).set i (.int .i64 (u + 10)))[(i + 1) * 1]? = some (.int .i64 v) by rw [Nat.mul_one, zC_set]; exact zC_cell hv')
            have HSl2 := Lib.hid (show i + 1 < ((o.flatMap zC).set i (.int .i64 (u + 10))).length by rw [List.length_set, zC_flen]; exact hio2)
            have HN1 := Lib.hid (show zvl ((o.set i (u + 10)).set (i + 1) (v - 1)) = (N : Nat) by
              rw [zvl_set _ _ v _ hv', zvl_set o i u _ hu, ← HZ.out]
              have e1 : u + 10 - u = 10 := by omega
              have e2 : v - 1 - v = -1 := by omega
              have e3 : (10 : Int) ^ (i + 1) = 10 ^ i * 10 := Int.pow_succ _ _
              rw [e1, e2, e3]
              generalize (10 : Int) ^ i * 10 = z
              omega)
            clear hu hv hv' hu1 hv1
            go_wp2_with (first | ((with_reducible refine iat 38 ?_); (refine ixa rfl rfl rfl hia ?_)) | ((with_reducible refine iat 39 ?_); (refine ldx1 (row_cell (HM.out.get (k := 0) rfl) HU.out) rfl ?_)) | ((with_reducible refine iat 45 ?_); (refine ixa rfl rfl rfl hia ?_)) | ((with_reducible refine iat 46 ?_); (refine ldx1 (row_cell (HM.out.get (k := 0) rfl) HU.out) rfl ?_)) | ((with_reducible refine iat 48 ?_); (refine ixa rfl rfl rfl hia ?_)) | ((with_reducible refine iat 55 ?_); (refine ixa (i := i + 1) rfl rfl (by first | rfl | go_num) hgo ?_)) | ((with_reducible refine iat 56 ?_); (refine ldx1 (row_cell (HM.out.get (k := 0) rfl) HU2.out) rfl ?_)) | ((with_reducible refine iat 58 ?_); (refine ixa (i := i + 1) rfl rfl (by first | rfl | go_num) hgo ?_)) | (refine strw (v := .int .i64 (u + 10)) (i := i) rfl HM.out 0 rfl (by first | rfl | (rw [Nat.mul_one]; rfl)) (by first | rfl | exact congrArg (Value.int .i64) (IntWalk.wrap64_in _ (by omega))) rfl HSl.out ?_; intro W1 HM1; replace HM := Lib.hid HM1; clear HM1; simp only [List.set] at HM) | (refine strw (v := .int .i64 (v - 1)) (i := i + 1) rfl HM.out 0 rfl (by first | rfl | (rw [Nat.mul_one (i + 1)]; rfl)) (by first | rfl | exact congrArg (Value.int .i64) (IntWalk.wrap64_in _ (by omega))) rfl HSl2.out ?_; intro W1 HM1; replace HM := Lib.hid HM1; clear HM1; simp only [List.set] at HM))
            go_roundw
            case rel => exact ⟨i + 1, (o.set i (u + 10)).set (i + 1) (v - 1), by go_num, by omega, Lib.hid (by rw [List.length_set, List.length_set]; exact HOl.out), HN1, Lib.hid (by
              intro j z hz
              rcases set_at hz with ⟨rfl, rfl⟩ | ⟨hne, hz⟩
              · exact ⟨by omega, by omega, by omega, by omega⟩
              · rcases set_at hz with ⟨rfl, rfl⟩ | ⟨hne2, hz⟩
                · exact ⟨by omega, by omega, by omega, by omega⟩
                · have := HB.out j z hz
                  exact ⟨this.1, fun h => this.2.1 (by omega), fun h => absurd h hne, fun h => this.2.2.2 (by omega)⟩), Lib.hid (by rw [← zC_set, ← zC_set]; exact HM.out)⟩
            case measure => simp [intOf]; omega
          · as_aux_lemma =>
            have q2 : decide (u < 0) = false := decide_eq_false hneg
            have HUv := Lib.hid hv
            have HUu := Lib.hid hu
            clear hu hv hu1 hv1
            go_wp2_with (first | ((with_reducible refine iat 38 ?_); (refine ixa rfl rfl rfl hia ?_)) | ((with_reducible refine iat 39 ?_); (refine ldx1 (row_cell (HM.out.get (k := 0) rfl) HU.out) rfl ?_)))
            go_roundw
            case rel => exact ⟨i + 1, o, by go_num, by omega, HOl, HZ, Lib.hid (by
              intro j z hz
              have := HB.out j z hz
              refine ⟨this.1, fun h => ?_, fun h => ?_, fun h => this.2.2.2 (by omega)⟩
              · by_cases hji : j = i
                · subst hji
                  rw [HUu.out] at hz
                  obtain rfl := Option.some.inj hz
                  omega
                · exact this.2.1 (by omega)
              · subst h
                rw [HUv.out] at hz
                obtain rfl := Option.some.inj hz
                omega), HM⟩
            case measure => simp [intOf]; omega
        · have q1 : decide ((i : Int) + 1 < A.length) = false := decide_eq_false (by omega)
          have hall := top_pos o (by rw [HZ.out]; omega) (fun j v hj => by
            have hjl := (List.getElem?_eq_some_iff.1 hj).1
            rw [HOl.out] at hjl ⊢
            have := HB.out j v hj
            exact ⟨this.1, fun h => this.2.1 (by omega)⟩)
          obtain ⟨l, rfl, h9⟩ := nat_of o hall
          have hz := HZ.out
          rw [zvl_nat] at hz
          have HV := Lib.hid (show dvl l = N by exact_mod_cast hz)
          have HOl2 := Lib.hid (show l.length = A.length by rw [← HOl.out, List.length_map])
          have HM1 := Lib.hid (show Mem w wr [.row p1 cap1 3 1 A.length (l.flatMap dgC)] by rw [← zC_flat]; exact HM.out)
          clear HM
          have HM := HM1
          have hcp := row_cap (HM.out.get (k := 0) rfl)
          have HOl3 := Lib.hid hcp.1
          have HC := Lib.hid (fun W (h : Sl W p1 (l.flatMap dgC)) => (show Calls Tryz.prog 188 #[.slice p1 A.length cap1] W fun e' w' => e' = .returned (.slice p1 (dig N).length cap1) ∧ RowKit.Below W.heap.size W w' from by
            have h := cutd_any p1 cap1 l W h h9 (by rw [HOl2.out]; exact HOl3.out) (by rw [HOl2.out]; omega)
            rw [HV.out, HOl2.out] at h
            exact h))
          have HTk := Lib.hid (show (dig N).length ≤ A.length ∧ l.take (dig N).length = dig N by
            have h := cut_take h9
            rw [HV.out, HOl2.out] at h
            exact h)
          clear hcp hz hall HM1 HZ HOl HB h9
          go_wp2_with (first | (go_at_call 188; (with_reducible refine cB HM (HC.out _ (row_sl (HM.out.get (k := 0) rfl))) ?_); clear HM; intro W1 HM))
          go_ret
          exact ⟨p1, cap1, rfl, dig_cut HTk.out.1 HTk.out.2 HM.out⟩
end Go.Proofs.YtgobdcmoelcckaaGreatDoor
