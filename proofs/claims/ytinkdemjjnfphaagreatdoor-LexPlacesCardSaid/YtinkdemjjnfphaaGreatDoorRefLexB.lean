/- The reference's sign. (fast) -/
import Derived.Test.YtinkdemjjnfphaaGreatDoorRefLexA
namespace Go.Proofs.YtinkdemjjnfphaaGreatDoor
open Go.RowKit
set_option linter.unusedVariables false
set_option linter.unusedSimpArgs false
set_option maxRecDepth 100000
def rsV (i n : Nat) : Int := if n = 0 then -1 else ((i + n : Nat) : Int)
theorem sgn1_cases {c : UInt8} (h : sgn1 c = true) : c = 40 ∨ c = 41 ∨ c = 91 ∨ c = 93 ∨ c = 123 ∨ c = 125 ∨ c = 44 ∨ c = 58 ∨ c = 46 ∨ c = 43 ∨ c = 45 ∨ c = 42 ∨ c = 47 ∨ c = 61 ∨ c = 60 ∨ c = 62 := by
  unfold sgn1 at h
  simpa using h
theorem sgn1_none {c : UInt8} (h : sgn1 c = false) : ((c.toNat : Int) == 40) = false ∧ ((c.toNat : Int) == 41) = false ∧ ((c.toNat : Int) == 91) = false ∧ ((c.toNat : Int) == 93) = false ∧ ((c.toNat : Int) == 123) = false ∧ ((c.toNat : Int) == 125) = false ∧ ((c.toNat : Int) == 44) = false ∧ ((c.toNat : Int) == 58) = false ∧ ((c.toNat : Int) == 46) = false ∧ ((c.toNat : Int) == 43) = false ∧ ((c.toNat : Int) == 45) = false ∧ ((c.toNat : Int) == 42) = false ∧ ((c.toNat : Int) == 47) = false ∧ ((c.toNat : Int) == 61) = false ∧ ((c.toNat : Int) == 60) = false ∧ ((c.toNat : Int) == 62) = false := by
  refine ⟨?_, ?_, ?_, ?_, ?_, ?_, ?_, ?_, ?_, ?_, ?_, ?_, ?_, ?_, ?_, ?_⟩
  all_goals
    refine beq_eq_false_iff_ne.2 (fun e => ?_)
    revert h
    have key : ∀ n : Fin 256, (n.val = 40 ∨ n.val = 41 ∨ n.val = 91 ∨ n.val = 93 ∨ n.val = 123 ∨ n.val = 125 ∨ n.val = 44 ∨ n.val = 58 ∨ n.val = 46 ∨ n.val = 43 ∨ n.val = 45 ∨ n.val = 42 ∨ n.val = 47 ∨ n.val = 61 ∨ n.val = 60 ∨ n.val = 62) → sgn1 (UInt8.ofNat n.val) = true := by decide
    have h2 := key ⟨c.toNat, c.toNat_lt⟩ (by show c.toNat = 40 ∨ c.toNat = 41 ∨ c.toNat = 91 ∨ c.toNat = 93 ∨ c.toNat = 123 ∨ c.toNat = 125 ∨ c.toNat = 44 ∨ c.toNat = 58 ∨ c.toNat = 46 ∨ c.toNat = 43 ∨ c.toNat = 45 ∨ c.toNat = 42 ∨ c.toNat = 47 ∨ c.toNat = 61 ∨ c.toNat = 60 ∨ c.toNat = 62; omega)
    intro h
    have h3 : sgn1 c = true := by simpa using h2
    rw [h] at h3
    cases h3
theorem sgn2_cases {c b : UInt8} (h : sgn2 c b = true) : (c = 46 ∧ b = 46) ∨ (c = 33 ∧ b = 61) ∨ (c = 60 ∧ b = 61) ∨ (c = 62 ∧ b = 61) := by
  unfold sgn2 at h
  simp only [Bool.or_eq_true, Bool.and_eq_true, beq_iff_eq] at h
  rcases h with ((h | h) | h) | h <;> simp [h]

set_option maxHeartbeats 8000000 in
theorem rlSign (s : ByteArray) (i : Nat) {c : UInt8} (w : World) (hc : s.data.toList[i]? = some c) (hs : s.size ≤ 1000) :
    Calls Tryz.prog 26 #[.string s, .int .i64 i] w fun e w' => e = .returned (.int .i64 (rsV i (signN s.data.toList i))) ∧ Below w.heap.size w w' := by
  have HM := Lib.hid (Mem.start w)
  have hlen : s.data.toList.length = s.size := by simp
  have hil : i < s.size := by rw [← hlen]; exact (List.getElem?_eq_some_iff.1 hc).1
  have HC := Lib.hid hc
  by_cases h2 : i + 1 < s.size
  · obtain ⟨b, hb⟩ : ∃ b, s.data.toList[i + 1]? = some b := ⟨_, List.getElem?_eq_getElem (by omega)⟩
    obtain ⟨x, hx⟩ : ∃ x, s.extract i (i + 2) = x := ⟨_, rfl⟩
    have hxl : x.toList = [c, b] := by
      rw [ByteArray.toList_eq, ← hx, ext_list, drop_cons hc, drop_cons hb]
      simp
    have HX := Lib.hid hx
    have hi2 : i + 2 ≤ s.size := h2
    have d1 : decide ((i : Int) < (s.size : Int) - 1) = true := decide_eq_true (by omega)
    cases hs2 : sgn2 c b with
    | true =>
      have hm : signN s.data.toList i = 2 := by unfold signN; rw [hc, hb]; simp only; rw [if_pos hs2]
      rw [hm, show rsV i 2 = (i : Int) + 2 from rfl]
      rcases sgn2_cases hs2 with ⟨rfl, rfl⟩ | ⟨rfl, rfl⟩ | ⟨rfl, rfl⟩ | ⟨rfl, rfl⟩
      · have y0 : (x.toList == [46, 46]) = true := by rw [hxl]; decide
        have y1 : (x.toList == [33, 61]) = false := by rw [hxl]; decide
        have y2 : (x.toList == [60, 61]) = false := by rw [hxl]; decide
        have y3 : (x.toList == [62, 61]) = false := by rw [hxl]; decide
        clear hxl hx hc hb hs2 hm
        go_enter Tryz.func26, Tryz.ntmps26
        go_wp2_with (first | ((with_reducible refine iat 14 ?_); (refine ssls (i := i) (j := i + 2) rfl rfl rfl rfl rfl (by omega) hi2 ?_; rw [HX.out])) | ((with_reducible refine iat 24 ?_); (refine six rfl rfl rfl HC.out ?_)))
        go_ret
        exact ⟨rfl, HM.out.below⟩
      · have y0 : (x.toList == [46, 46]) = false := by rw [hxl]; decide
        have y1 : (x.toList == [33, 61]) = true := by rw [hxl]; decide
        have y2 : (x.toList == [60, 61]) = false := by rw [hxl]; decide
        have y3 : (x.toList == [62, 61]) = false := by rw [hxl]; decide
        clear hxl hx hc hb hs2 hm
        go_enter Tryz.func26, Tryz.ntmps26
        go_wp2_with (first | ((with_reducible refine iat 14 ?_); (refine ssls (i := i) (j := i + 2) rfl rfl rfl rfl rfl (by omega) hi2 ?_; rw [HX.out])) | ((with_reducible refine iat 24 ?_); (refine six rfl rfl rfl HC.out ?_)))
        go_ret
        exact ⟨rfl, HM.out.below⟩
      · have y0 : (x.toList == [46, 46]) = false := by rw [hxl]; decide
        have y1 : (x.toList == [33, 61]) = false := by rw [hxl]; decide
        have y2 : (x.toList == [60, 61]) = true := by rw [hxl]; decide
        have y3 : (x.toList == [62, 61]) = false := by rw [hxl]; decide
        clear hxl hx hc hb hs2 hm
        go_enter Tryz.func26, Tryz.ntmps26
        go_wp2_with (first | ((with_reducible refine iat 14 ?_); (refine ssls (i := i) (j := i + 2) rfl rfl rfl rfl rfl (by omega) hi2 ?_; rw [HX.out])) | ((with_reducible refine iat 24 ?_); (refine six rfl rfl rfl HC.out ?_)))
        go_ret
        exact ⟨rfl, HM.out.below⟩
      · have y0 : (x.toList == [46, 46]) = false := by rw [hxl]; decide
        have y1 : (x.toList == [33, 61]) = false := by rw [hxl]; decide
        have y2 : (x.toList == [60, 61]) = false := by rw [hxl]; decide
        have y3 : (x.toList == [62, 61]) = true := by rw [hxl]; decide
        clear hxl hx hc hb hs2 hm
        go_enter Tryz.func26, Tryz.ntmps26
        go_wp2_with (first | ((with_reducible refine iat 14 ?_); (refine ssls (i := i) (j := i + 2) rfl rfl rfl rfl rfl (by omega) hi2 ?_; rw [HX.out])) | ((with_reducible refine iat 24 ?_); (refine six rfl rfl rfl HC.out ?_)))
        go_ret
        exact ⟨rfl, HM.out.below⟩
    | false =>
      have hN : signN s.data.toList i = if sgn1 c then 1 else 0 := by unfold signN; rw [hc, hb]; simp only; rw [if_neg (by rw [hs2]; simp)]
      have hne : (x.toList == [46, 46]) = false ∧ (x.toList == [33, 61]) = false ∧ (x.toList == [60, 61]) = false ∧ (x.toList == [62, 61]) = false := by
        unfold sgn2 at hs2
        simp only [Bool.or_eq_false_iff] at hs2
        obtain ⟨⟨⟨s0, s1⟩, s2⟩, s3⟩ := hs2
        refine ⟨?_, ?_, ?_, ?_⟩ <;> (rw [hxl]; simp_all)
      obtain ⟨y0, y1, y2, y3⟩ := hne
      clear hxl hx hc hb hs2
      cases h1 : sgn1 c with
      | true =>
        have hm : signN s.data.toList i = 1 := by rw [hN, h1]; rfl
        rw [hm, show rsV i 1 = (i : Int) + 1 from rfl]
        clear hm hN
        rcases sgn1_cases h1 with rfl | rfl | rfl | rfl | rfl | rfl | rfl | rfl | rfl | rfl | rfl | rfl | rfl | rfl | rfl | rfl
        all_goals
          clear h1
          go_enter Tryz.func26, Tryz.ntmps26
          go_wp2_with (first | ((with_reducible refine iat 14 ?_); (refine ssls (i := i) (j := i + 2) rfl rfl rfl rfl rfl (by omega) hi2 ?_; rw [HX.out])) | ((with_reducible refine iat 24 ?_); (refine six rfl rfl rfl HC.out ?_)))
          go_ret
          exact ⟨rfl, HM.out.below⟩
      | false =>
        have hm : signN s.data.toList i = 0 := by rw [hN, h1]; rfl
        rw [hm, show rsV i 0 = -1 from rfl]
        obtain ⟨z40, z41, z91, z93, z123, z125, z44, z58, z46, z43, z45, z42, z47, z61, z60, z62⟩ := sgn1_none h1
        clear hm hN h1
        go_enter Tryz.func26, Tryz.ntmps26
        go_wp2_with (first | ((with_reducible refine iat 14 ?_); (refine ssls (i := i) (j := i + 2) rfl rfl rfl rfl rfl (by omega) hi2 ?_; rw [HX.out])) | ((with_reducible refine iat 24 ?_); (refine six rfl rfl rfl HC.out ?_)))
        go_ret
        exact ⟨rfl, HM.out.below⟩
  · have hN : signN s.data.toList i = if sgn1 c then 1 else 0 := by unfold signN; rw [hc, List.getElem?_eq_none (show s.data.toList.length ≤ i + 1 by omega)]
    have d1 : decide ((i : Int) < (s.size : Int) - 1) = false := decide_eq_false (by omega)
    clear hc
    cases h1 : sgn1 c with
    | true =>
      have hm : signN s.data.toList i = 1 := by rw [hN, h1]; rfl
      rw [hm, show rsV i 1 = (i : Int) + 1 from rfl]
      clear hm hN
      rcases sgn1_cases h1 with rfl | rfl | rfl | rfl | rfl | rfl | rfl | rfl | rfl | rfl | rfl | rfl | rfl | rfl | rfl | rfl
      all_goals
        clear h1
        go_enter Tryz.func26, Tryz.ntmps26
        go_wp2_with (first | ((with_reducible refine iat 24 ?_); (refine six rfl rfl rfl HC.out ?_)))
        go_ret
        exact ⟨rfl, HM.out.below⟩
    | false =>
      have hm : signN s.data.toList i = 0 := by rw [hN, h1]; rfl
      rw [hm, show rsV i 0 = -1 from rfl]
      obtain ⟨z40, z41, z91, z93, z123, z125, z44, z58, z46, z43, z45, z42, z47, z61, z60, z62⟩ := sgn1_none h1
      clear hm hN h1
      go_enter Tryz.func26, Tryz.ntmps26
      go_wp2_with (first | ((with_reducible refine iat 24 ?_); (refine six rfl rfl rfl HC.out ?_)))
      go_ret
      exact ⟨rfl, HM.out.below⟩
end Go.Proofs.YtinkdemjjnfphaaGreatDoor
