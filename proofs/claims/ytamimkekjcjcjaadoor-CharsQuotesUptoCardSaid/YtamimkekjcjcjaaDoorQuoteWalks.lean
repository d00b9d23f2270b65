/- The walks over Quote, of the package and of the reference. -/
import Derived.Test.YtamimkekjcjcjaaDoorReplLong
import Derived.Test.YtamimkekjcjcjaaDoorQuotePlain
import Derived.Test.YtamimkekjcjcjaaDoorCharsKnown
import Derived.Test.YtamimkekjcjcjaaDoorCharsRef2
namespace Go.Proofs.YtamimkekjcjcjaaDoor
open Go.RowKit
set_option linter.unusedVariables false
set_option maxRecDepth 100000

set_option maxHeartbeats 2000000 in
/-- (*Replacer).Replace, its first call. -/
theorem replace_any (b g cap n : Nat) (d2 : Value) (l : List (UInt8 × List UInt8)) (s : ByteArray) (w : World) (n1 : 2 * l.length ≤ n) (n2 : n ≤ 2 * l.length) (hl : 2 ≤ l.length) (h8 : l.length ≤ 100) (hgb : g ≠ b)
    (hb : w.heap[b]? = some (.cells #[.int .u32 0, .int .i32 0, d2, .nilIface, .slice (some ⟨g, 0, none⟩) n cap] 66 (0, 0)))
    (ho : ∀ (j : Nat) (u : Value), (pairL l)[j]? = some u → w.cell? ⟨g, j, none⟩ = some u) (h1 : oneB l = false) (hk : keysOk l)
    (hs : s.size ≤ 1099511627776) (hm : ∀ x ∈ l, x.2.length ≤ 100) (hp1 : ∀ x ∈ l, 1 ≤ x.2.length) :
    Calls Tryd.prog 27 #[.pointer (some ⟨b, 0, none⟩), .string s] w fun e w' => e = .returned (.string ⟨(replL l s.data.toList).toArray⟩) ∧ Below b w w' := by
  have HD := Lib.hid (do_any b g cap n d2 l w n1 n2 hl h8 hgb hb ho h1 hk)
  have hmf : ∀ (fn : Fn) (first cap : Array Value) (w : World), (Instr.makeFunc fn first cap).run Tryd.prog w = .ok (.func fn first cap) w := fun _ _ _ _ => rfl
  have hbl := block_lt hb
  have HM := Lib.hid hm
  have HK := Lib.hid hk
  have HP1 := Lib.hid hp1
  clear hb ho h1 hk hm hp1
  go_enter Tryd.func27, Tryd.ntmps27
  go_wp2_with fail
  refine HD.out.mono ?_
  rintro e w1 ⟨R, rfl, hrep, hbel, hbR⟩
  have c3 : w1.cell? ⟨b, 3, none⟩ = some (.iface 89 (.pointer (some ⟨R, 0, none⟩))) := by rw [cell_of_row _ _ _ _ _ _ hbR]; rfl
  have HR := Lib.hid hrep
  have HBel := Lib.hid hbel
  clear hrep hbel hbR
  have hmeth := method_of
  go_wp2_with fail
  refine (run_any w.heap.size R l s _ HR.out HK.out hs h8 HM.out HP1.out).mono ?_
  rintro e w2 ⟨rfl, hb2⟩
  go_wp2
  go_ret
  exact ⟨rfl, HBel.out.trans (hb2.mono (by have := HBel.out.size; omega))⟩

theorem quo_keys : keysOk quoL := by
  intro i j x y hij hx hy
  have hj : j < 5 := (List.getElem?_eq_some_iff.1 hy).1
  have hc : (i = 0 ∧ j = 1) ∨ (i = 0 ∧ j = 2) ∨ (i = 0 ∧ j = 3) ∨ (i = 0 ∧ j = 4) ∨ (i = 1 ∧ j = 2) ∨ (i = 1 ∧ j = 3) ∨ (i = 1 ∧ j = 4) ∨ (i = 2 ∧ j = 3) ∨ (i = 2 ∧ j = 4) ∨ (i = 3 ∧ j = 4) := by omega
  rcases hc with ⟨rfl, rfl⟩ | ⟨rfl, rfl⟩ | ⟨rfl, rfl⟩ | ⟨rfl, rfl⟩ | ⟨rfl, rfl⟩ | ⟨rfl, rfl⟩ | ⟨rfl, rfl⟩ | ⟨rfl, rfl⟩ | ⟨rfl, rfl⟩ | ⟨rfl, rfl⟩ <;> (simp [quoL] at hx hy; subst hx hy; decide)
theorem quo_len (l : List UInt8) : (replL quoL l).length ≤ 2 * l.length := replL_len (m := 2) (by omega) (by intro x hx; simp [quoL] at hx; rcases hx with rfl | rfl | rfl | rfl | rfl <;> simp) l

/-- What Quote answers. -/
def quoteV (s : ByteArray) : Value := match chars s.data.toList with
  | some _ => .tuple #[.string ⟨(quotedL s.data.toList).toArray⟩, .int .i64 0]
  | none => .tuple #[.string ⟨#[]⟩, .int .i64 2]
theorem quoteV_some {s : ByteArray} {cs : List Nat} (h : chars s.data.toList = some cs) : quoteV s = .tuple #[.string ⟨(quotedL s.data.toList).toArray⟩, .int .i64 0] := by unfold quoteV; rw [h]
theorem quoteV_none {s : ByteArray} (h : chars s.data.toList = none) : quoteV s = .tuple #[.string ⟨#[]⟩, .int .i64 2] := by unfold quoteV; rw [h]

set_option maxHeartbeats 2000000 in
theorem quote_any (s : ByteArray) (w : World) (hT : U8 w) (hs : s.size ≤ 1099511627776) :
    Calls Tryd.prog 13 #[.string s] w fun e w' => e = .returned (quoteV s) ∧ Below w.heap.size w w' := by
  have HC := Lib.hid (valid_any s w (by omega) hT)
  cases hc : chars s.data.toList with
  | none =>
    have HT := Lib.hid (text_of_none hc)
    have HV := Lib.hid (quoteV_none hc)
    clear hc
    go_enter Tryd.func13, Tryd.ntmps13
    go_wp2_with fail
    refine HC.out.mono ?_
    rintro e w1 ⟨rfl, hb⟩
    rw [HT.out]
    go_wp2
    go_ret2
    exact ⟨(congrArg Ending.returned HV.out).symm, hb⟩
  | some cs =>
    have HT := Lib.hid (text_of_some hc)
    have HV := Lib.hid (quoteV_some hc)
    clear hc
    obtain ⟨R, hR⟩ : ∃ R : ByteArray, R = ⟨(replL quoL s.data.toList).toArray⟩ := ⟨_, rfl⟩
    have hRs : R.size ≤ 2 * s.size := by
      have := quo_len s.data.toList
      rw [size_list] at this
      rw [hR, mk_size]
      exact this
    have HR := Lib.hid hR
    have hQ : (⟨#[34]⟩ ++ R) ++ ⟨#[34]⟩ = (⟨(quotedL s.data.toList).toArray⟩ : ByteArray) := by
      apply ba_eq
      rw [ByteArray.data_append, Array.toList_append, ByteArray.data_append, Array.toList_append, hR]
      simp [quotedL]
    have HQ := Lib.hid hQ
    clear hR hQ
    go_enter Tryd.func13, Tryd.ntmps13
    go_wp2_with fail
    refine HC.out.mono ?_
    rintro e w1 ⟨rfl, hb1⟩
    rw [HT.out]
    go_wp2_with fail
    refine (new_any w1.heap.size 10 (pairL quoL) _ rfl (by decide) (by omega) (by omega) (fun j u hu => cells_new w1 _ _ j u hu) (pairs_one quoL)).mono ?_
    rintro e w2 ⟨b, rfl, hnew, hb2⟩
    obtain ⟨g, cap, hbk, hgb, hcells, hBb⟩ := new_parts hnew (by decide)
    have HRp := Lib.hid (replace_any b g cap 10 (.int .u32 0) quoL s w2 (by decide) (by decide) (by decide) (by decide) hgb hbk hcells (by decide) quo_keys hs (by decide) (by decide))
    have HBb := Lib.hid hBb
    have HB2 := Lib.hid hb2
    have HB1 := Lib.hid hb1
    clear hnew hbk hgb hcells hBb hb2 hb1
    have hadd1 := fun W => run_string_add_sum (P := Tryd.prog) W ⟨#[34]⟩ R (by have : (⟨#[34]⟩ : ByteArray).size = 1 := rfl; omega)
    have hadd2 := fun W => run_string_add_sum (P := Tryd.prog) W (⟨#[34]⟩ ++ R) ⟨#[34]⟩ (by rw [ByteArray.size_append]; have : (⟨#[34]⟩ : ByteArray).size = 1 := rfl; omega)
    go_wp2_with fail
    refine HRp.out.mono ?_
    rintro e w3 ⟨rfl, hb3⟩
    rw [← HR.out]
    go_wp2
    go_ret2
    have hs1 := HB1.out.size
    have ha := HB1.out.alloc hs1 (.cells #[.string ⟨#[34]⟩, .string ⟨#[92, 34]⟩, .string ⟨#[92]⟩, .string ⟨#[92, 92]⟩, .string ⟨#[10]⟩, .string ⟨#[92, 110]⟩, .string ⟨#[13]⟩, .string ⟨#[92, 114]⟩, .string ⟨#[9]⟩, .string ⟨#[92, 116]⟩] 9)
    have hs0 := ha.size
    refine ⟨?_, (ha.trans (HB2.out.mono hs0)).trans (hb3.mono (Nat.le_trans hs0 HBb.out))⟩
    rw [HV.out, ← HQ.out]
    rfl

set_option maxHeartbeats 2000000 in
theorem rquoted_any (s : ByteArray) (w : World) (hs : s.size ≤ 1099511627776) :
    Calls Tryd.prog 29 #[.string s] w fun e w' => e = .returned (.string ⟨(quotedL s.data.toList).toArray⟩) ∧ Below w.heap.size w w' := by
  obtain ⟨i0, hi, hz0, hz1, hz2⟩ := info_parts u_info
  have HLit := Lib.hid (own_lit w 5 [.int .u8 34] (by unfold maxLen; simp))
  go_enter Tryd.func29, Tryd.ntmps29
  go_wp2
  go_loopw [3, 4] (fun v iv wr => ∃ (k : Nat) (l : List UInt8), k ≤ s.size ∧ iv = .int .i64 k ∧ Hid (l = 34 :: replL quoL (s.data.toList.take k)) ∧ l.length ≤ 2 * k + 1 ∧ Hid (wr.ownsRow w.heap.size 5 1 v l.length (l.map b8)) ∧ Hid (Below w.heap.size w wr)) (fun _ iv _ => s.size - (intOf iv).toNat)
  case atStart => exact ⟨0, [34], by omega, rfl, (show [34] = _ from rfl), by simp, HLit, (Below.refl _ w).alloc (Nat.le_refl _) _⟩
  case round =>
    obtain ⟨k, l, hk, rfl, HL, hll, HO, HB⟩ := hrel
    by_cases hlt : k < s.size
    · have HT := Lib.hid (replL_take (l := quoL) (b_at hlt))
      have hbx := s[k].toNat_lt
      have hszs := HB.out.size
      have K3 := Lib.hid (show l.length + 2 ≤ maxLen by unfold maxLen; omega)
      have K4 := Lib.hid (show (l.length + 2) * 1 ≤ 140737488355328 by omega)
      have K5 := Lib.hid (show ∀ o, w.heap.size ≤ (wr.alloc o).heap.size from fun o => by simp; omega)
      rcases replQ_cases s[k] with ⟨hc, hr⟩ | ⟨hc, hr⟩ | ⟨hc, hr⟩ | ⟨hc, hr⟩ | ⟨hc, hr⟩ | ⟨hs1, hs2, hr⟩
      · have hx : s[k].toNat = 34 := by rw [hc]; rfl
        have HNw := Lib.hid (show [92, 34].map b8 = [.int .u8 92, .int .u8 s[k].toNat] by simp [b8, hx])
        clear hc
        have d34 : (((s[k].toNat : Nat) : Int) == 34) = true := beq_iff_eq.2 (by omega)
        have d92 : (((s[k].toNat : Nat) : Int) == 92) = false := beq_eq_false_iff_ne.2 (by omega)
        have d10 : (((s[k].toNat : Nat) : Int) == 10) = false := beq_eq_false_iff_ne.2 (by omega)
        have d13 : (((s[k].toNat : Nat) : Int) == 13) = false := beq_eq_false_iff_ne.2 (by omega)
        have d9 : (((s[k].toNat : Nat) : Int) == 9) = false := beq_eq_false_iff_ne.2 (by omega)
        have HR := Lib.hid hr
        clear hr hx
        go_wp2_with (at_builtin; refine wpList_append_own _ rfl _ _ 42 rfl w.heap.size 5 i0 (.int .u8 0) 1 1 Tryd.underlying42 hi hz0 hz1 hz2 rfl (by decide) _ _ _ rfl (HO.out.alloc _) ⟨wr.heap.size, 0, none⟩ 2 2 [.int .u8 92, .int .u8 s[k].toNat] rfl rfl (lit_cells _ _ _) (by intro u hu; simp at hu; rcases hu with rfl | rfl <;> rfl) K3.out K4.out (K5.out _) ?_; intro v' w1 hown1 hgrow1 hnil1)
        have hb1 := below_own (HB.out.alloc hszs _) (K5.out _) (HO.out.alloc _) hgrow1
        have HOwn := Lib.hid (show w1.ownsRow w.heap.size 5 1 v' (l ++ [92, 34]).length ((l ++ [92, 34]).map b8) by
          rw [List.length_append, List.map_append, HNw.out]
          exact hown1)
        have HB1 := Lib.hid hb1
        clear hown1 hgrow1 hnil1 hb1
        go_wp2
        go_roundw
        case rel => exact ⟨k + 1, l ++ [92, 34], by omega, by go_num, (show _ = _ by rw [HT.out, HR.out, HL.out]; rfl), by rw [List.length_append]; simp; omega, HOwn, HB1⟩
        case measure => simp [intOf]; omega
      · have hx : s[k].toNat = 92 := by rw [hc]; rfl
        have HNw := Lib.hid (show [92, 92].map b8 = [.int .u8 92, .int .u8 s[k].toNat] by simp [b8, hx])
        clear hc
        have d34 : (((s[k].toNat : Nat) : Int) == 34) = false := beq_eq_false_iff_ne.2 (by omega)
        have d92 : (((s[k].toNat : Nat) : Int) == 92) = true := beq_iff_eq.2 (by omega)
        have d10 : (((s[k].toNat : Nat) : Int) == 10) = false := beq_eq_false_iff_ne.2 (by omega)
        have d13 : (((s[k].toNat : Nat) : Int) == 13) = false := beq_eq_false_iff_ne.2 (by omega)
        have d9 : (((s[k].toNat : Nat) : Int) == 9) = false := beq_eq_false_iff_ne.2 (by omega)
        have HR := Lib.hid hr
        clear hr hx
        go_wp2_with (at_builtin; refine wpList_append_own _ rfl _ _ 42 rfl w.heap.size 5 i0 (.int .u8 0) 1 1 Tryd.underlying42 hi hz0 hz1 hz2 rfl (by decide) _ _ _ rfl (HO.out.alloc _) ⟨wr.heap.size, 0, none⟩ 2 2 [.int .u8 92, .int .u8 s[k].toNat] rfl rfl (lit_cells _ _ _) (by intro u hu; simp at hu; rcases hu with rfl | rfl <;> rfl) K3.out K4.out (K5.out _) ?_; intro v' w1 hown1 hgrow1 hnil1)
        have hb1 := below_own (HB.out.alloc hszs _) (K5.out _) (HO.out.alloc _) hgrow1
        have HOwn := Lib.hid (show w1.ownsRow w.heap.size 5 1 v' (l ++ [92, 92]).length ((l ++ [92, 92]).map b8) by
          rw [List.length_append, List.map_append, HNw.out]
          exact hown1)
        have HB1 := Lib.hid hb1
        clear hown1 hgrow1 hnil1 hb1
        go_wp2
        go_roundw
        case rel => exact ⟨k + 1, l ++ [92, 92], by omega, by go_num, (show _ = _ by rw [HT.out, HR.out, HL.out]; rfl), by rw [List.length_append]; simp; omega, HOwn, HB1⟩
        case measure => simp [intOf]; omega
      · have hx : s[k].toNat = 10 := by rw [hc]; rfl
        have HNw := Lib.hid (show [92, 110].map b8 = [.int .u8 92, .int .u8 110] by simp [b8])
        clear hc
        have d34 : (((s[k].toNat : Nat) : Int) == 34) = false := beq_eq_false_iff_ne.2 (by omega)
        have d92 : (((s[k].toNat : Nat) : Int) == 92) = false := beq_eq_false_iff_ne.2 (by omega)
        have d10 : (((s[k].toNat : Nat) : Int) == 10) = true := beq_iff_eq.2 (by omega)
        have d13 : (((s[k].toNat : Nat) : Int) == 13) = false := beq_eq_false_iff_ne.2 (by omega)
        have d9 : (((s[k].toNat : Nat) : Int) == 9) = false := beq_eq_false_iff_ne.2 (by omega)
        have HR := Lib.hid hr
        clear hr hx
        go_wp2_with (at_builtin; refine wpList_append_own _ rfl _ _ 42 rfl w.heap.size 5 i0 (.int .u8 0) 1 1 Tryd.underlying42 hi hz0 hz1 hz2 rfl (by decide) _ _ _ rfl (HO.out.alloc _) ⟨wr.heap.size, 0, none⟩ 2 2 [.int .u8 92, .int .u8 110] rfl rfl (lit_cells _ _ _) (by intro u hu; simp at hu; rcases hu with rfl | rfl <;> rfl) K3.out K4.out (K5.out _) ?_; intro v' w1 hown1 hgrow1 hnil1)
        have hb1 := below_own (HB.out.alloc hszs _) (K5.out _) (HO.out.alloc _) hgrow1
        have HOwn := Lib.hid (show w1.ownsRow w.heap.size 5 1 v' (l ++ [92, 110]).length ((l ++ [92, 110]).map b8) by
          rw [List.length_append, List.map_append, HNw.out]
          exact hown1)
        have HB1 := Lib.hid hb1
        clear hown1 hgrow1 hnil1 hb1
        go_wp2
        go_roundw
        case rel => exact ⟨k + 1, l ++ [92, 110], by omega, by go_num, (show _ = _ by rw [HT.out, HR.out, HL.out]; rfl), by rw [List.length_append]; simp; omega, HOwn, HB1⟩
        case measure => simp [intOf]; omega
      · have hx : s[k].toNat = 13 := by rw [hc]; rfl
        have HNw := Lib.hid (show [92, 114].map b8 = [.int .u8 92, .int .u8 114] by simp [b8])
        clear hc
        have d34 : (((s[k].toNat : Nat) : Int) == 34) = false := beq_eq_false_iff_ne.2 (by omega)
        have d92 : (((s[k].toNat : Nat) : Int) == 92) = false := beq_eq_false_iff_ne.2 (by omega)
        have d10 : (((s[k].toNat : Nat) : Int) == 10) = false := beq_eq_false_iff_ne.2 (by omega)
        have d13 : (((s[k].toNat : Nat) : Int) == 13) = true := beq_iff_eq.2 (by omega)
        have d9 : (((s[k].toNat : Nat) : Int) == 9) = false := beq_eq_false_iff_ne.2 (by omega)
        have HR := Lib.hid hr
        clear hr hx
        go_wp2_with (at_builtin; refine wpList_append_own _ rfl _ _ 42 rfl w.heap.size 5 i0 (.int .u8 0) 1 1 Tryd.underlying42 hi hz0 hz1 hz2 rfl (by decide) _ _ _ rfl (HO.out.alloc _) ⟨wr.heap.size, 0, none⟩ 2 2 [.int .u8 92, .int .u8 114] rfl rfl (lit_cells _ _ _) (by intro u hu; simp at hu; rcases hu with rfl | rfl <;> rfl) K3.out K4.out (K5.out _) ?_; intro v' w1 hown1 hgrow1 hnil1)
        have hb1 := below_own (HB.out.alloc hszs _) (K5.out _) (HO.out.alloc _) hgrow1
        have HOwn := Lib.hid (show w1.ownsRow w.heap.size 5 1 v' (l ++ [92, 114]).length ((l ++ [92, 114]).map b8) by
          rw [List.length_append, List.map_append, HNw.out]
          exact hown1)
        have HB1 := Lib.hid hb1
        clear hown1 hgrow1 hnil1 hb1
        go_wp2
        go_roundw
        case rel => exact ⟨k + 1, l ++ [92, 114], by omega, by go_num, (show _ = _ by rw [HT.out, HR.out, HL.out]; rfl), by rw [List.length_append]; simp; omega, HOwn, HB1⟩
        case measure => simp [intOf]; omega
      · have hx : s[k].toNat = 9 := by rw [hc]; rfl
        have HNw := Lib.hid (show [92, 116].map b8 = [.int .u8 92, .int .u8 116] by simp [b8])
        clear hc
        have d34 : (((s[k].toNat : Nat) : Int) == 34) = false := beq_eq_false_iff_ne.2 (by omega)
        have d92 : (((s[k].toNat : Nat) : Int) == 92) = false := beq_eq_false_iff_ne.2 (by omega)
        have d10 : (((s[k].toNat : Nat) : Int) == 10) = false := beq_eq_false_iff_ne.2 (by omega)
        have d13 : (((s[k].toNat : Nat) : Int) == 13) = false := beq_eq_false_iff_ne.2 (by omega)
        have d9 : (((s[k].toNat : Nat) : Int) == 9) = true := beq_iff_eq.2 (by omega)
        have HR := Lib.hid hr
        clear hr hx
        go_wp2_with (at_builtin; refine wpList_append_own _ rfl _ _ 42 rfl w.heap.size 5 i0 (.int .u8 0) 1 1 Tryd.underlying42 hi hz0 hz1 hz2 rfl (by decide) _ _ _ rfl (HO.out.alloc _) ⟨wr.heap.size, 0, none⟩ 2 2 [.int .u8 92, .int .u8 116] rfl rfl (lit_cells _ _ _) (by intro u hu; simp at hu; rcases hu with rfl | rfl <;> rfl) K3.out K4.out (K5.out _) ?_; intro v' w1 hown1 hgrow1 hnil1)
        have hb1 := below_own (HB.out.alloc hszs _) (K5.out _) (HO.out.alloc _) hgrow1
        have HOwn := Lib.hid (show w1.ownsRow w.heap.size 5 1 v' (l ++ [92, 116]).length ((l ++ [92, 116]).map b8) by
          rw [List.length_append, List.map_append, HNw.out]
          exact hown1)
        have HB1 := Lib.hid hb1
        clear hown1 hgrow1 hnil1 hb1
        go_wp2
        go_roundw
        case rel => exact ⟨k + 1, l ++ [92, 116], by omega, by go_num, (show _ = _ by rw [HT.out, HR.out, HL.out]; rfl), by rw [List.length_append]; simp; omega, HOwn, HB1⟩
        case measure => simp [intOf]; omega
      · have K3 := Lib.hid (show l.length + 1 ≤ maxLen by unfold maxLen; omega)
        have K4 := Lib.hid (show (l.length + 1) * 1 ≤ 140737488355328 by omega)
        have hx : s[k].toNat ≠ 34 ∧ s[k].toNat ≠ 92 ∧ s[k].toNat ≠ 10 ∧ s[k].toNat ≠ 13 ∧ s[k].toNat ≠ 9 := by
          unfold stopB at hs1
          simp only [Bool.or_eq_false_iff, beq_eq_false_iff_ne, ne_eq] at hs1
          obtain ⟨⟨⟨a1, a2⟩, a3⟩, a4⟩ := hs1
          exact ⟨fun e => a1 (UInt8.toNat_inj.1 e), fun e => hs2 (UInt8.toNat_inj.1 e), fun e => a3 (UInt8.toNat_inj.1 e), fun e => a4 (UInt8.toNat_inj.1 e), fun e => a2 (UInt8.toNat_inj.1 e)⟩
        obtain ⟨x1, x2, x3, x4, x5⟩ := hx
        clear hs1 hs2
        have HNw := Lib.hid (show [s[k]].map b8 = [.int .u8 s[k].toNat] from rfl)
        have d34 : (((s[k].toNat : Nat) : Int) == 34) = false := beq_eq_false_iff_ne.2 (by omega)
        have d92 : (((s[k].toNat : Nat) : Int) == 92) = false := beq_eq_false_iff_ne.2 (by omega)
        have d10 : (((s[k].toNat : Nat) : Int) == 10) = false := beq_eq_false_iff_ne.2 (by omega)
        have d13 : (((s[k].toNat : Nat) : Int) == 13) = false := beq_eq_false_iff_ne.2 (by omega)
        have d9 : (((s[k].toNat : Nat) : Int) == 9) = false := beq_eq_false_iff_ne.2 (by omega)
        have HR := Lib.hid hr
        clear hr
        go_wp2_with (at_builtin; refine wpList_append_own _ rfl _ _ 42 rfl w.heap.size 5 i0 (.int .u8 0) 1 1 Tryd.underlying42 hi hz0 hz1 hz2 rfl (by decide) _ _ _ rfl (HO.out.alloc _) ⟨wr.heap.size, 0, none⟩ 1 1 [.int .u8 s[k].toNat] rfl rfl (lit_cells _ _ _) (by intro u hu; simp at hu; subst hu; rfl) K3.out K4.out (K5.out _) ?_; intro v' w1 hown1 hgrow1 hnil1)
        have hb1 := below_own (HB.out.alloc hszs _) (K5.out _) (HO.out.alloc _) hgrow1
        have HOwn := Lib.hid (show w1.ownsRow w.heap.size 5 1 v' (l ++ [s[k]]).length ((l ++ [s[k]]).map b8) by
          rw [List.length_append, List.map_append, HNw.out]
          exact hown1)
        have HB1 := Lib.hid hb1
        clear hown1 hgrow1 hnil1 hb1
        go_wp2
        go_roundw
        case rel => exact ⟨k + 1, l ++ [s[k]], by omega, by go_num, (show _ = _ by rw [HT.out, HR.out, HL.out]; rfl), by rw [List.length_append]; simp; omega, HOwn, HB1⟩
        case measure => simp [intOf]; omega
    · have HK := Lib.hid (b_take (s := s) (k := k) (by omega))
      have hszs := HB.out.size
      have K3 := Lib.hid (show l.length + 1 ≤ maxLen by unfold maxLen; omega)
      have K4 := Lib.hid (show (l.length + 1) * 1 ≤ 140737488355328 by omega)
      have K5 := Lib.hid (show ∀ o, w.heap.size ≤ (wr.alloc o).heap.size from fun o => by simp; omega)
      go_wp2_with (at_builtin; refine wpList_append_own _ rfl _ _ 42 rfl w.heap.size 5 i0 (.int .u8 0) 1 1 Tryd.underlying42 hi hz0 hz1 hz2 rfl (by decide) _ _ _ rfl (HO.out.alloc _) ⟨wr.heap.size, 0, none⟩ 1 1 [.int .u8 34] rfl rfl (lit_cells _ _ _) (by intro u hu; simp at hu; subst hu; rfl) K3.out K4.out (K5.out _) ?_; intro v' w1 hown1 hgrow1 hnil1)
      have hb1 := below_own (HB.out.alloc hszs _) (K5.out _) (HO.out.alloc _) hgrow1
      have hOwn : w1.ownsRow w.heap.size 5 1 v' (l ++ [34]).length ((l ++ [34]).map b8) := by
        rw [List.length_append, List.map_append]
        exact hown1
      have hstr := own_str (P := Tryd.prog) (src := 42) (dst := 9) Tryd.underlying42 Tryd.underlying5 Tryd.underlying9 hOwn
      have HB1 := Lib.hid hb1
      clear hown1 hgrow1 hnil1 hb1 hOwn
      go_wp2
      rw [hstr]
      go_wp2
      go_ret
      refine ⟨?_, HB1.out⟩
      rw [HL.out, HK.out]
      rfl

theorem rquote_any (s : ByteArray) (w : World) (hs : s.size ≤ 1099511627776) :
    Calls Tryd.prog 16 #[.string s] w fun e w' => e = .returned (quoteV s) ∧ Below w.heap.size w w' := by
  have HC := Lib.hid (rValid_any s w hs)
  cases hc : chars s.data.toList with
  | none =>
    have HT := Lib.hid (text_of_none hc)
    have HV := Lib.hid (quoteV_none hc)
    clear hc
    go_enter Tryd.func16, Tryd.ntmps16
    go_wp2_with fail
    refine HC.out.mono ?_
    rintro e w1 ⟨rfl, hb⟩
    rw [HT.out]
    go_wp2
    go_ret2
    exact ⟨(congrArg Ending.returned HV.out).symm, hb⟩
  | some cs =>
    have HT := Lib.hid (text_of_some hc)
    have HV := Lib.hid (quoteV_some hc)
    clear hc
    go_enter Tryd.func16, Tryd.ntmps16
    go_wp2_with fail
    refine HC.out.mono ?_
    rintro e w1 ⟨rfl, hb⟩
    rw [HT.out]
    go_wp2_with fail
    refine (rquoted_any s w1 hs).mono ?_
    rintro e w2 ⟨rfl, hb2⟩
    go_wp2
    go_ret2
    exact ⟨(congrArg Ending.returned HV.out).symm, hb.trans (hb2.mono hb.size)⟩
end Go.Proofs.YtamimkekjcjcjaaDoor
