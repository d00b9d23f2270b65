/- The walk over the reference's Unquote: what stands between the quotes. -/
import Derived.Test.YtamimkekjcjcjaaDoorUnqWalks
namespace Go.Proofs.YtamimkekjcjcjaaDoor
open Go.RowKit
set_option linter.unusedVariables false
set_option maxRecDepth 100000

/-- What is answered of what stands between the quotes. -/
def unqV (l : List UInt8) : Value := match unq l with
  | some r => .tuple #[.string ⟨r.toArray⟩, .int .i64 0]
  | none => .tuple #[.string ⟨#[]⟩, .int .i64 5]
theorem unqV_none {l : List UInt8} (h : unq l = none) : unqV l = .tuple #[.string ⟨#[]⟩, .int .i64 5] := by unfold unqV; rw [h]
theorem unqV_some {l r : List UInt8} (h : unq l = some r) : unqV l = .tuple #[.string ⟨r.toArray⟩, .int .i64 0] := by unfold unqV; rw [h]
theorem stop_cases {c : UInt8} (h : stopB c = true) : c.toNat = 34 ∨ c.toNat = 9 ∨ c.toNat = 10 ∨ c.toNat = 13 := by
  unfold stopB at h
  simp only [Bool.or_eq_true, beq_iff_eq] at h
  rcases h with ((h | h) | h) | h <;> subst h <;> simp
theorem stop_no {c : UInt8} (h : stopB c = false) : c.toNat ≠ 34 ∧ c.toNat ≠ 9 ∧ c.toNat ≠ 10 ∧ c.toNat ≠ 13 := by
  unfold stopB at h
  simp only [Bool.or_eq_false_iff, beq_eq_false_iff_ne, ne_eq] at h
  obtain ⟨⟨⟨a1, a2⟩, a3⟩, a4⟩ := h
  exact ⟨fun e => a1 (UInt8.toNat_inj.1 e), fun e => a2 (UInt8.toNat_inj.1 e), fun e => a3 (UInt8.toNat_inj.1 e), fun e => a4 (UInt8.toNat_inj.1 e)⟩
theorem esc_cases (d : UInt8) : (d.toNat = 34 ∧ escD d = some d) ∨ (d.toNat = 92 ∧ escD d = some d) ∨ (d.toNat = 110 ∧ escD d = some 10) ∨ (d.toNat = 114 ∧ escD d = some 13) ∨ (d.toNat = 116 ∧ escD d = some 9) ∨
    ((d.toNat ≠ 34 ∧ d.toNat ≠ 92 ∧ d.toNat ≠ 110 ∧ d.toNat ≠ 114 ∧ d.toNat ≠ 116) ∧ escD d = none) := by
  by_cases h1 : d = 34
  · subst h1; exact .inl ⟨rfl, rfl⟩
  by_cases h2 : d = 92
  · subst h2; exact .inr (.inl ⟨rfl, rfl⟩)
  by_cases h3 : d = 110
  · subst h3; exact .inr (.inr (.inl ⟨rfl, rfl⟩))
  by_cases h4 : d = 114
  · subst h4; exact .inr (.inr (.inr (.inl ⟨rfl, rfl⟩)))
  by_cases h5 : d = 116
  · subst h5; exact .inr (.inr (.inr (.inr (.inl ⟨rfl, rfl⟩))))
  refine .inr (.inr (.inr (.inr (.inr ⟨⟨fun e => h1 (UInt8.toNat_inj.1 e), fun e => h2 (UInt8.toNat_inj.1 e), fun e => h3 (UInt8.toNat_inj.1 e), fun e => h4 (UInt8.toNat_inj.1 e), fun e => h5 (UInt8.toNat_inj.1 e)⟩, ?_⟩))))
  unfold escD
  simp [h1, h2, h3, h4, h5]

set_option maxHeartbeats 4000000 in
theorem runq_in (s : ByteArray) (w : World) (hs : s.size ≤ 1099511627776) {cs : List Nat} (hc : chars s.data.toList = some cs) (h : 2 ≤ s.size) (h0 : s[0].toNat = 34) (h1 : s[s.size - 1].toNat = 34) :
    Calls Tryd.prog 18 #[.string s] w fun e w' => e = .returned (unqV (s.extract 1 (s.size - 1)).data.toList) ∧ Below w.heap.size w w' := by
  obtain ⟨i0, hi, hz0, hz1, hz2⟩ := info_parts u_info
  have HC := Lib.hid (rValid_any s w hs)
  have HT := Lib.hid (text_of_some hc)
  have b0 : ((s[0].toNat : Int) != 34) = false := by rw [h0]; rfl
  have b1 : ((s[s.size - 1].toNat : Int) != 34) = false := by rw [h1]; rfl
  have d0 : decide ((s.size : Int) < 2) = false := decide_eq_false (by omega)
  have hp : 0 < s.size := by omega
  have e1 : ((s.size : Int) - 1).toNat = s.size - 1 := by omega
  have e2 : 0 ≤ (s.size : Int) - 1 := by omega
  have hts : (s.extract 1 (s.size - 1)).size = s.size - 2 := by rw [ByteArray.size_extract]; omega
  clear hc h0 h1
  go_enter Tryd.func18, Tryd.ntmps18
  go_wp2_with fail
  refine HC.out.mono ?_
  rintro e w1 ⟨rfl, hb⟩
  rw [HT.out]
  have HB1 := Lib.hid hb
  clear hb
  go_wp2
  obtain ⟨t, ht⟩ : ∃ t, s.extract 1 (s.size - 1) = t := ⟨_, rfl⟩
  rw [ht] at hts
  have htb : t.size ≤ 1099511627776 := by omega
  have hts2 : (s.size : Int) - 2 = (t.size : Int) := by omega
  rw [ht]
  have HTt := Lib.hid (show unqV (s.extract 1 (s.size - 1)).data.toList = unqV t.data.toList by rw [ht])
  clear ht
  have HOwn0 := Lib.hid (own_none w 5 1)
  have HOwn1 := Lib.hid (show w1.ownsRow w.heap.size 5 1 (.slice none 0 0) 0 [] from ⟨rfl, Or.inl ⟨rfl, rfl⟩⟩)
  go_loopw [4, 5, 6] (fun v iv _ wr => ∃ (i : Nat) (l : List UInt8), i ≤ t.size ∧ iv = .int .i64 i ∧ Hid (UQ t.data.toList i l) ∧ l.length ≤ i ∧ Hid (wr.ownsRow w.heap.size 5 1 v l.length (l.map b8)) ∧ Hid (Below w.heap.size w wr)) (fun _ iv _ _ => t.size - (intOf iv).toNat)
  case atStart => exact ⟨0, [], by omega, rfl, UQ.start _, by simp, HOwn1, HB1⟩
  case round =>
    obtain ⟨i, l, hi0, rfl, HU, hll, HO, HB⟩ := hrel
    have hszs := HB.out.size
    have K3 := Lib.hid (show l.length + 1 ≤ maxLen by unfold maxLen; omega)
    have K4 := Lib.hid (show (l.length + 1) * 1 ≤ 140737488355328 by omega)
    have K5 := Lib.hid (show ∀ o, w.heap.size ≤ (wr.alloc o).heap.size from fun o => by simp; omega)
    by_cases hlt : i < t.size
    · have hbx := t[i].toNat_lt
      cases hst : stopB t[i] with
      | true =>
        have HN := Lib.hid (unqV_none (HU.out.stop (b_at hlt) hst))
        have hx := stop_cases hst
        clear hst
        rcases hx with hx | hx | hx | hx
        · have dc34 : (((t[i].toNat : Nat) : Int) == 34) = true := beq_iff_eq.2 (by omega)
          have dc9 : (((t[i].toNat : Nat) : Int) == 9) = false := beq_eq_false_iff_ne.2 (by omega)
          have dc10 : (((t[i].toNat : Nat) : Int) == 10) = false := beq_eq_false_iff_ne.2 (by omega)
          have dc13 : (((t[i].toNat : Nat) : Int) == 13) = false := beq_eq_false_iff_ne.2 (by omega)
          clear hx
          go_wp2
          go_ret2
          exact ⟨(congrArg Ending.returned (HTt.out.trans HN.out)).symm, HB.out⟩
        · have dc34 : (((t[i].toNat : Nat) : Int) == 34) = false := beq_eq_false_iff_ne.2 (by omega)
          have dc9 : (((t[i].toNat : Nat) : Int) == 9) = true := beq_iff_eq.2 (by omega)
          have dc10 : (((t[i].toNat : Nat) : Int) == 10) = false := beq_eq_false_iff_ne.2 (by omega)
          have dc13 : (((t[i].toNat : Nat) : Int) == 13) = false := beq_eq_false_iff_ne.2 (by omega)
          clear hx
          go_wp2
          go_ret2
          exact ⟨(congrArg Ending.returned (HTt.out.trans HN.out)).symm, HB.out⟩
        · have dc34 : (((t[i].toNat : Nat) : Int) == 34) = false := beq_eq_false_iff_ne.2 (by omega)
          have dc9 : (((t[i].toNat : Nat) : Int) == 9) = false := beq_eq_false_iff_ne.2 (by omega)
          have dc10 : (((t[i].toNat : Nat) : Int) == 10) = true := beq_iff_eq.2 (by omega)
          have dc13 : (((t[i].toNat : Nat) : Int) == 13) = false := beq_eq_false_iff_ne.2 (by omega)
          clear hx
          go_wp2
          go_ret2
          exact ⟨(congrArg Ending.returned (HTt.out.trans HN.out)).symm, HB.out⟩
        · have dc34 : (((t[i].toNat : Nat) : Int) == 34) = false := beq_eq_false_iff_ne.2 (by omega)
          have dc9 : (((t[i].toNat : Nat) : Int) == 9) = false := beq_eq_false_iff_ne.2 (by omega)
          have dc10 : (((t[i].toNat : Nat) : Int) == 10) = false := beq_eq_false_iff_ne.2 (by omega)
          have dc13 : (((t[i].toNat : Nat) : Int) == 13) = true := beq_iff_eq.2 (by omega)
          clear hx
          go_wp2
          go_ret2
          exact ⟨(congrArg Ending.returned (HTt.out.trans HN.out)).symm, HB.out⟩
      | false =>
        have hx := stop_no hst
        obtain ⟨x1, x2, x3, x4⟩ := hx
        have dc34 : (((t[i].toNat : Nat) : Int) == 34) = false := beq_eq_false_iff_ne.2 (by omega)
        have dc9 : (((t[i].toNat : Nat) : Int) == 9) = false := beq_eq_false_iff_ne.2 (by omega)
        have dc10 : (((t[i].toNat : Nat) : Int) == 10) = false := beq_eq_false_iff_ne.2 (by omega)
        have dc13 : (((t[i].toNat : Nat) : Int) == 13) = false := beq_eq_false_iff_ne.2 (by omega)
        clear x1 x2 x3 x4
        by_cases h92 : t[i] = 92
        · have hc92 : t.data.toList[i]? = some 92 := by rw [b_at hlt, h92]
          have h92n : t[i].toNat = 92 := by rw [h92]; rfl
          have d92 : (((t[i].toNat : Nat) : Int) == 92) = true := beq_iff_eq.2 (by omega)
          clear h92 h92n hst
          by_cases hlast : i + 1 = t.size
          · have HN := Lib.hid (unqV_none (HU.out.last hc92 (by rw [size_list]; exact hlast)))
            have hl1 : (t.size : Int) ≤ (i : Int) + 1 := by omega
            clear hlast hc92
            go_wp2
            go_ret2
            exact ⟨(congrArg Ending.returned (HTt.out.trans HN.out)).symm, HB.out⟩
          · have hlt1 : i + 1 < t.size := by omega
            have hdx := t[i + 1].toNat_lt
            clear hlast
            rcases esc_cases t[i + 1] with ⟨hd, he⟩ | ⟨hd, he⟩ | ⟨hd, he⟩ | ⟨hd, he⟩ | ⟨hd, he⟩ | ⟨⟨y1, y2, y3, y4, y5⟩, he⟩
            · have HU2 := Lib.hid (HU.out.esc hc92 (b_at hlt1) he)
              have de34 : (((t[i + 1].toNat : Nat) : Int) == 34) = true := beq_iff_eq.2 (by omega)
              have de92 : (((t[i + 1].toNat : Nat) : Int) == 92) = false := beq_eq_false_iff_ne.2 (by omega)
              have de110 : (((t[i + 1].toNat : Nat) : Int) == 110) = false := beq_eq_false_iff_ne.2 (by omega)
              have de114 : (((t[i + 1].toNat : Nat) : Int) == 114) = false := beq_eq_false_iff_ne.2 (by omega)
              have de116 : (((t[i + 1].toNat : Nat) : Int) == 116) = false := beq_eq_false_iff_ne.2 (by omega)
              clear hc92 hd he
              go_wp2_with (at_builtin; refine wpList_append_own _ rfl _ _ 42 rfl w.heap.size 5 i0 (.int .u8 0) 1 1 Tryd.underlying42 hi hz0 hz1 hz2 rfl (by decide) _ _ _ rfl (HO.out.alloc _) ⟨wr.heap.size, 0, none⟩ 1 1 [.int .u8 t[i + 1].toNat] rfl rfl (lit_cells _ _ _) (by intro u hu; simp at hu; subst hu; rfl) K3.out K4.out (K5.out _) ?_; intro v' w1 hown1 hgrow1 hnil1)
              have hb1 := below_own (HB.out.alloc hszs _) (K5.out _) (HO.out.alloc _) hgrow1
              have HOwn := Lib.hid (show w1.ownsRow w.heap.size 5 1 v' (l ++ [t[i + 1]]).length ((l ++ [t[i + 1]]).map b8) by
                rw [List.length_append, List.map_append]
                exact hown1)
              have HB2 := Lib.hid hb1
              clear hown1 hgrow1 hnil1 hb1
              go_wp2
              go_roundw
              case rel => exact ⟨i + 2, l ++ [t[i + 1]], by omega, by go_num, HU2, by rw [List.length_append]; simp; omega, HOwn, HB2⟩
              case measure => simp [intOf]; omega
            · have HU2 := Lib.hid (HU.out.esc hc92 (b_at hlt1) he)
              have de34 : (((t[i + 1].toNat : Nat) : Int) == 34) = false := beq_eq_false_iff_ne.2 (by omega)
              have de92 : (((t[i + 1].toNat : Nat) : Int) == 92) = true := beq_iff_eq.2 (by omega)
              have de110 : (((t[i + 1].toNat : Nat) : Int) == 110) = false := beq_eq_false_iff_ne.2 (by omega)
              have de114 : (((t[i + 1].toNat : Nat) : Int) == 114) = false := beq_eq_false_iff_ne.2 (by omega)
              have de116 : (((t[i + 1].toNat : Nat) : Int) == 116) = false := beq_eq_false_iff_ne.2 (by omega)
              clear hc92 hd he
              go_wp2_with (at_builtin; refine wpList_append_own _ rfl _ _ 42 rfl w.heap.size 5 i0 (.int .u8 0) 1 1 Tryd.underlying42 hi hz0 hz1 hz2 rfl (by decide) _ _ _ rfl (HO.out.alloc _) ⟨wr.heap.size, 0, none⟩ 1 1 [.int .u8 t[i + 1].toNat] rfl rfl (lit_cells _ _ _) (by intro u hu; simp at hu; subst hu; rfl) K3.out K4.out (K5.out _) ?_; intro v' w1 hown1 hgrow1 hnil1)
              have hb1 := below_own (HB.out.alloc hszs _) (K5.out _) (HO.out.alloc _) hgrow1
              have HOwn := Lib.hid (show w1.ownsRow w.heap.size 5 1 v' (l ++ [t[i + 1]]).length ((l ++ [t[i + 1]]).map b8) by
                rw [List.length_append, List.map_append]
                exact hown1)
              have HB2 := Lib.hid hb1
              clear hown1 hgrow1 hnil1 hb1
              go_wp2
              go_roundw
              case rel => exact ⟨i + 2, l ++ [t[i + 1]], by omega, by go_num, HU2, by rw [List.length_append]; simp; omega, HOwn, HB2⟩
              case measure => simp [intOf]; omega
            · have HU2 := Lib.hid (HU.out.esc hc92 (b_at hlt1) he)
              have de34 : (((t[i + 1].toNat : Nat) : Int) == 34) = false := beq_eq_false_iff_ne.2 (by omega)
              have de92 : (((t[i + 1].toNat : Nat) : Int) == 92) = false := beq_eq_false_iff_ne.2 (by omega)
              have de110 : (((t[i + 1].toNat : Nat) : Int) == 110) = true := beq_iff_eq.2 (by omega)
              have de114 : (((t[i + 1].toNat : Nat) : Int) == 114) = false := beq_eq_false_iff_ne.2 (by omega)
              have de116 : (((t[i + 1].toNat : Nat) : Int) == 116) = false := beq_eq_false_iff_ne.2 (by omega)
              clear hc92 hd he
              go_wp2_with (at_builtin; refine wpList_append_own _ rfl _ _ 42 rfl w.heap.size 5 i0 (.int .u8 0) 1 1 Tryd.underlying42 hi hz0 hz1 hz2 rfl (by decide) _ _ _ rfl (HO.out.alloc _) ⟨wr.heap.size, 0, none⟩ 1 1 [.int .u8 10] rfl rfl (lit_cells _ _ _) (by intro u hu; simp at hu; subst hu; rfl) K3.out K4.out (K5.out _) ?_; intro v' w1 hown1 hgrow1 hnil1)
              have hb1 := below_own (HB.out.alloc hszs _) (K5.out _) (HO.out.alloc _) hgrow1
              have HOwn := Lib.hid (show w1.ownsRow w.heap.size 5 1 v' (l ++ [10]).length ((l ++ [10]).map b8) by
                rw [List.length_append, List.map_append]
                exact hown1)
              have HB2 := Lib.hid hb1
              clear hown1 hgrow1 hnil1 hb1
              go_wp2
              go_roundw
              case rel => exact ⟨i + 2, l ++ [10], by omega, by go_num, HU2, by rw [List.length_append]; simp; omega, HOwn, HB2⟩
              case measure => simp [intOf]; omega
            · have HU2 := Lib.hid (HU.out.esc hc92 (b_at hlt1) he)
              have de34 : (((t[i + 1].toNat : Nat) : Int) == 34) = false := beq_eq_false_iff_ne.2 (by omega)
              have de92 : (((t[i + 1].toNat : Nat) : Int) == 92) = false := beq_eq_false_iff_ne.2 (by omega)
              have de110 : (((t[i + 1].toNat : Nat) : Int) == 110) = false := beq_eq_false_iff_ne.2 (by omega)
              have de114 : (((t[i + 1].toNat : Nat) : Int) == 114) = true := beq_iff_eq.2 (by omega)
              have de116 : (((t[i + 1].toNat : Nat) : Int) == 116) = false := beq_eq_false_iff_ne.2 (by omega)
              clear hc92 hd he
              go_wp2_with (at_builtin; refine wpList_append_own _ rfl _ _ 42 rfl w.heap.size 5 i0 (.int .u8 0) 1 1 Tryd.underlying42 hi hz0 hz1 hz2 rfl (by decide) _ _ _ rfl (HO.out.alloc _) ⟨wr.heap.size, 0, none⟩ 1 1 [.int .u8 13] rfl rfl (lit_cells _ _ _) (by intro u hu; simp at hu; subst hu; rfl) K3.out K4.out (K5.out _) ?_; intro v' w1 hown1 hgrow1 hnil1)
              have hb1 := below_own (HB.out.alloc hszs _) (K5.out _) (HO.out.alloc _) hgrow1
              have HOwn := Lib.hid (show w1.ownsRow w.heap.size 5 1 v' (l ++ [13]).length ((l ++ [13]).map b8) by
                rw [List.length_append, List.map_append]
                exact hown1)
              have HB2 := Lib.hid hb1
              clear hown1 hgrow1 hnil1 hb1
              go_wp2
              go_roundw
              case rel => exact ⟨i + 2, l ++ [13], by omega, by go_num, HU2, by rw [List.length_append]; simp; omega, HOwn, HB2⟩
              case measure => simp [intOf]; omega
            · have HU2 := Lib.hid (HU.out.esc hc92 (b_at hlt1) he)
              have de34 : (((t[i + 1].toNat : Nat) : Int) == 34) = false := beq_eq_false_iff_ne.2 (by omega)
              have de92 : (((t[i + 1].toNat : Nat) : Int) == 92) = false := beq_eq_false_iff_ne.2 (by omega)
              have de110 : (((t[i + 1].toNat : Nat) : Int) == 110) = false := beq_eq_false_iff_ne.2 (by omega)
              have de114 : (((t[i + 1].toNat : Nat) : Int) == 114) = false := beq_eq_false_iff_ne.2 (by omega)
              have de116 : (((t[i + 1].toNat : Nat) : Int) == 116) = true := beq_iff_eq.2 (by omega)
              clear hc92 hd he
              go_wp2_with (at_builtin; refine wpList_append_own _ rfl _ _ 42 rfl w.heap.size 5 i0 (.int .u8 0) 1 1 Tryd.underlying42 hi hz0 hz1 hz2 rfl (by decide) _ _ _ rfl (HO.out.alloc _) ⟨wr.heap.size, 0, none⟩ 1 1 [.int .u8 9] rfl rfl (lit_cells _ _ _) (by intro u hu; simp at hu; subst hu; rfl) K3.out K4.out (K5.out _) ?_; intro v' w1 hown1 hgrow1 hnil1)
              have hb1 := below_own (HB.out.alloc hszs _) (K5.out _) (HO.out.alloc _) hgrow1
              have HOwn := Lib.hid (show w1.ownsRow w.heap.size 5 1 v' (l ++ [9]).length ((l ++ [9]).map b8) by
                rw [List.length_append, List.map_append]
                exact hown1)
              have HB2 := Lib.hid hb1
              clear hown1 hgrow1 hnil1 hb1
              go_wp2
              go_roundw
              case rel => exact ⟨i + 2, l ++ [9], by omega, by go_num, HU2, by rw [List.length_append]; simp; omega, HOwn, HB2⟩
              case measure => simp [intOf]; omega
            · have HN := Lib.hid (unqV_none (HU.out.bad hc92 (b_at hlt1) he))
              have de34 : (((t[i + 1].toNat : Nat) : Int) == 34) = false := beq_eq_false_iff_ne.2 (by omega)
              have de92 : (((t[i + 1].toNat : Nat) : Int) == 92) = false := beq_eq_false_iff_ne.2 (by omega)
              have de110 : (((t[i + 1].toNat : Nat) : Int) == 110) = false := beq_eq_false_iff_ne.2 (by omega)
              have de114 : (((t[i + 1].toNat : Nat) : Int) == 114) = false := beq_eq_false_iff_ne.2 (by omega)
              have de116 : (((t[i + 1].toNat : Nat) : Int) == 116) = false := beq_eq_false_iff_ne.2 (by omega)
              clear hc92 he y1 y2 y3 y4 y5
              go_wp2
              go_ret2
              exact ⟨(congrArg Ending.returned (HTt.out.trans HN.out)).symm, HB.out⟩
        · have HU2 := Lib.hid (HU.out.plain (b_at hlt) hst h92)
          have h92n : t[i].toNat ≠ 92 := fun e => h92 (UInt8.toNat_inj.1 e)
          have d92 : (((t[i].toNat : Nat) : Int) == 92) = false := beq_eq_false_iff_ne.2 (by omega)
          clear h92 h92n hst
          go_wp2_with (at_builtin; refine wpList_append_own _ rfl _ _ 42 rfl w.heap.size 5 i0 (.int .u8 0) 1 1 Tryd.underlying42 hi hz0 hz1 hz2 rfl (by decide) _ _ _ rfl (HO.out.alloc _) ⟨wr.heap.size, 0, none⟩ 1 1 [.int .u8 t[i].toNat] rfl rfl (lit_cells _ _ _) (by intro u hu; simp at hu; subst hu; rfl) K3.out K4.out (K5.out _) ?_; intro v' w1 hown1 hgrow1 hnil1)
          have hb1 := below_own (HB.out.alloc hszs _) (K5.out _) (HO.out.alloc _) hgrow1
          have HOwn := Lib.hid (show w1.ownsRow w.heap.size 5 1 v' (l ++ [t[i]]).length ((l ++ [t[i]]).map b8) by
            rw [List.length_append, List.map_append]
            exact hown1)
          have HB2 := Lib.hid hb1
          clear hown1 hgrow1 hnil1 hb1
          go_wp2
          go_roundw
          case rel => exact ⟨i + 1, l ++ [t[i]], by omega, by go_num, HU2, by rw [List.length_append]; simp; omega, HOwn, HB2⟩
          case measure => simp [intOf]; omega
    · have HN := Lib.hid (unqV_some (HU.out.done (by rw [size_list]; omega)))
      have hstr := own_str (P := Tryd.prog) (src := 42) (dst := 9) Tryd.underlying42 Tryd.underlying5 Tryd.underlying9 HO.out
      go_wp2
      go_ret2
      exact ⟨(congrArg Ending.returned (HTt.out.trans HN.out)).symm, HB.out⟩
end Go.Proofs.YtamimkekjcjcjaaDoor
