/- The walk over Unquote: what stands between the quotes; two labels. -/
import Derived.Test.YtamimkekjcjcjaaDoorUnqWalks2
import Derived.Test.YtamimkekjcjcjaaDoorGoto
namespace Go.Proofs.YtamimkekjcjcjaaDoor
open Go.RowKit
set_option linter.unusedVariables false
set_option maxRecDepth 100000

/-- How the frame lies at the labels: the text, what has been read, the place. -/
def UFrame (t : ByteArray) (v : Value) (i : Int) (a : Act) : Prop := ∃ u1 u2 u3 u6 u7 u8 u9 u10 u11 u12 u13 u14 u15 u16 u17 u18 u19 u20 u21 u22 u23 u24 u25 u26 u27 u28 u29 u30 u31 u32 u33 u34 u35 u36 u37 u38 u39 u40 u41 u42 u43 u44 u45 u46 u47 u48 u49 u50 u51 u52 u53 u54 u55 u56 u57 u58 u59 u60 u61 u62 u63 u64 u65 u66 u67 u68 u69 u70 u71 u72 u73 u74 u75 u76 u77 u78 u79 u80 u81 u82 u83 u84 u85 u86 u87 u88 u89 u90 u91 : Value, a = { tmps := #[.string t, u1, u2, u3, v, .int .i64 i, u6, u7, u8, u9, u10, u11, u12, u13, u14, u15, u16, u17, u18, u19, u20, u21, u22, u23, u24, u25, u26, u27, u28, u29, u30, u31, u32, u33, u34, u35, u36, u37, u38, u39, u40, u41, u42, u43, u44, u45, u46, u47, u48, u49, u50, u51, u52, u53, u54, u55, u56, u57, u58, u59, u60, u61, u62, u63, u64, u65, u66, u67, u68, u69, u70, u71, u72, u73, u74, u75, u76, u77, u78, u79, u80, u81, u82, u83, u84, u85, u86, u87, u88, u89, u90, u91], defers := [] }
/-- What holds at the labels. -/
def UAt (t : ByteArray) (B : Nat) (w0 : World) (i : Nat) (l : List UInt8) (a : Act) (w : World) : Prop :=
  i ≤ t.size ∧ UQ t.data.toList i l ∧ l.length ≤ i ∧ ∃ v, UFrame t v i a ∧ w.ownsRow B 5 1 v l.length (l.map b8) ∧ Below B w0 w

set_option maxHeartbeats 4000000 in
theorem unq_in (s : ByteArray) (w : World) (hT : U8 w) (hs : s.size ≤ 1099511627776) {cs : List Nat} (hc : chars s.data.toList = some cs) (h : 2 ≤ s.size) (h0 : s[0].toNat = 34) (h1 : s[s.size - 1].toNat = 34) :
    Calls Tryd.prog 17 #[.string s] w fun e w' => e = .returned (unqV (s.extract 1 (s.size - 1)).data.toList) ∧ Below w.heap.size w w' := by
  obtain ⟨i0, hi, hz0, hz1, hz2⟩ := info_parts u_info
  have HC := Lib.hid (valid_any s w (by omega) hT)
  have HT := Lib.hid (text_of_some hc)
  have b0 : ((s[0].toNat : Int) != 34) = false := by rw [h0]; rfl
  have b1 : ((s[s.size - 1].toNat : Int) != 34) = false := by rw [h1]; rfl
  have d0 : decide ((s.size : Int) < 2) = false := decide_eq_false (by omega)
  have hp : 0 < s.size := by omega
  have e1 : ((s.size : Int) - 1).toNat = s.size - 1 := by omega
  have e2 : 0 ≤ (s.size : Int) - 1 := by omega
  obtain ⟨t, ht⟩ : ∃ t, s.extract 1 (s.size - 1) = t := ⟨_, rfl⟩
  have hts : t.size = s.size - 2 := by rw [← ht, ByteArray.size_extract]; omega
  have htb : t.size ≤ 1099511627776 := by omega
  have HTt := Lib.hid (show unqV (s.extract 1 (s.size - 1)).data.toList = unqV t.data.toList by rw [ht])
  have Ht := Lib.hid ht
  have Hts := Lib.hid hts
  clear hc h0 h1 ht hts
  go_enter Tryd.func17, Tryd.ntmps17
  go_wp2
  refine wp_two_labels_in (fun a w' => ∃ i l, UAt t w.heap.size w i l a w') (fun a w' => ∃ i l, UAt t w.heap.size w i l a w' ∧ t.data.toList[i]? = some 92) (fun a _ => 2 * (t.size - (intOf (a.tmps.getD 5 undef)).toNat) + 1) (fun a _ => 2 * (t.size - (intOf (a.tmps.getD 5 undef)).toNat)) rfl rfl ?_ ?_ ?_
  · intro H
    have HH := Lib.hid H
    clear H
    go_wp2_with fail
    refine HC.out.mono ?_
    rintro e w1 ⟨rfl, hb⟩
    rw [HT.out]
    have HB1 := Lib.hid hb
    have ht := Ht.out
    clear hb
    obtain ⟨w2, hmk, hown, hgr⟩ := run_make_own (P := Tryd.prog) w1 w.heap.size 42 5 i0 (.int .u8 0) 1 Tryd.underlying42 hi hz0 hz1 .i64 .i64 t.size (by rw [hz2]; omega) (by unfold maxLen; omega) HB1.out.size
    have hb2 : Below w.heap.size w w2 := HB1.out.grown hgr HB1.out.size (fun _ h => by cases h)
    have HOwn := Lib.hid hown
    have HB2 := Lib.hid hb2
    clear hown hgr hb2
    go_wp2
    go_step3
    rename_i hK
    exact hK _ _ (HH.out _ _ ⟨0, [], by omega, UQ.start _, by simp, _, ⟨_, _, _, _, _, _, _, _, _, _, _, _, _, _, _, _, _, _, _, _, _, _, _, _, _, _, _, _, _, _, _, _, _, _, _, _, _, _, _, _, _, _, _, _, _, _, _, _, _, _, _, _, _, _, _, _, _, _, _, _, _, _, _, _, _, _, _, _, _, _, _, _, _, _, _, _, _, _, _, _, _, _, _, _, _, _, _, _, _, rfl⟩, HOwn.out, HB2.out⟩)
  · rintro a wr ⟨i, l, hi0, hU, hll, v, ⟨u1, u2, u3, u6, u7, u8, u9, u10, u11, u12, u13, u14, u15, u16, u17, u18, u19, u20, u21, u22, u23, u24, u25, u26, u27, u28, u29, u30, u31, u32, u33, u34, u35, u36, u37, u38, u39, u40, u41, u42, u43, u44, u45, u46, u47, u48, u49, u50, u51, u52, u53, u54, u55, u56, u57, u58, u59, u60, u61, u62, u63, u64, u65, u66, u67, u68, u69, u70, u71, u72, u73, u74, u75, u76, u77, u78, u79, u80, u81, u82, u83, u84, u85, u86, u87, u88, u89, u90, u91, rfl⟩, hO, hB⟩
    have HU := Lib.hid hU
    have HO := Lib.hid hO
    have HB := Lib.hid hB
    have hszs := hB.size
    have K3 := Lib.hid (show l.length + 1 ≤ maxLen by unfold maxLen; omega)
    have K4 := Lib.hid (show (l.length + 1) * 1 ≤ 140737488355328 by omega)
    have K5 := Lib.hid (show ∀ o, w.heap.size ≤ (wr.alloc o).heap.size from fun o => by simp; omega)
    clear hU hO hB HC HT b0 b1 d0 e1 e2
    by_cases hlt : i < t.size
    · have hbx := t[i].toNat_lt
      have bne : ((i : Int) == (t.size : Int)) = false := beq_eq_false_iff_ne.2 (by omega)
      cases hst : stopB t[i] with
      | true =>
        have HN := Lib.hid (unqV_none (HU.out.stop (b_at hlt) hst))
        have hx := stop_cases hst
        clear hst
        rcases hx with hx | hx | hx | hx
        · have dc34 : (((t[i].toNat : Nat) : Int) == 34) = true := beq_iff_eq.2 (by omega)
          have dc9 : (((t[i].toNat : Nat) : Int) == 9) = false := beq_eq_false_iff_ne.2 (by omega)
          have dc10 : (((t[i].toNat : Nat) : Int) == 10) = false := beq_eq_false_iff_ne.2 (by omega)
          have dc13 : (((t[i].toNat : Nat) : Int) == 13) = false := beq_eq_false_iff_ne.2 (by omega)
          clear hx
          go_wp2
          simp only [twoJumps]
          go_ret2
          exact ⟨(congrArg Ending.returned (HTt.out.trans HN.out)).symm, HB.out⟩
        · have dc34 : (((t[i].toNat : Nat) : Int) == 34) = false := beq_eq_false_iff_ne.2 (by omega)
          have dc9 : (((t[i].toNat : Nat) : Int) == 9) = true := beq_iff_eq.2 (by omega)
          have dc10 : (((t[i].toNat : Nat) : Int) == 10) = false := beq_eq_false_iff_ne.2 (by omega)
          have dc13 : (((t[i].toNat : Nat) : Int) == 13) = false := beq_eq_false_iff_ne.2 (by omega)
          clear hx
          go_wp2
          simp only [twoJumps]
          go_ret2
          exact ⟨(congrArg Ending.returned (HTt.out.trans HN.out)).symm, HB.out⟩
        · have dc34 : (((t[i].toNat : Nat) : Int) == 34) = false := beq_eq_false_iff_ne.2 (by omega)
          have dc9 : (((t[i].toNat : Nat) : Int) == 9) = false := beq_eq_false_iff_ne.2 (by omega)
          have dc10 : (((t[i].toNat : Nat) : Int) == 10) = true := beq_iff_eq.2 (by omega)
          have dc13 : (((t[i].toNat : Nat) : Int) == 13) = false := beq_eq_false_iff_ne.2 (by omega)
          clear hx
          go_wp2
          simp only [twoJumps]
          go_ret2
          exact ⟨(congrArg Ending.returned (HTt.out.trans HN.out)).symm, HB.out⟩
        · have dc34 : (((t[i].toNat : Nat) : Int) == 34) = false := beq_eq_false_iff_ne.2 (by omega)
          have dc9 : (((t[i].toNat : Nat) : Int) == 9) = false := beq_eq_false_iff_ne.2 (by omega)
          have dc10 : (((t[i].toNat : Nat) : Int) == 10) = false := beq_eq_false_iff_ne.2 (by omega)
          have dc13 : (((t[i].toNat : Nat) : Int) == 13) = true := beq_iff_eq.2 (by omega)
          clear hx
          go_wp2
          simp only [twoJumps]
          go_ret2
          exact ⟨(congrArg Ending.returned (HTt.out.trans HN.out)).symm, HB.out⟩
      | false =>
        have hx := stop_no hst
        obtain ⟨x1, x2, x3, x4⟩ := hx
        have dc34 : (((t[i].toNat : Nat) : Int) == 34) = false := beq_eq_false_iff_ne.2 (by omega)
        have dc9 : (((t[i].toNat : Nat) : Int) == 9) = false := beq_eq_false_iff_ne.2 (by omega)
        have dc10 : (((t[i].toNat : Nat) : Int) == 10) = false := beq_eq_false_iff_ne.2 (by omega)
        have dc13 : (((t[i].toNat : Nat) : Int) == 13) = false := beq_eq_false_iff_ne.2 (by omega)
        clear x1 x2 x3 x4
        by_cases h92 : t[i] = 92
        · have hc92 : t.data.toList[i]? = some 92 := by rw [b_at hlt, h92]
          have h92n : t[i].toNat = 92 := by rw [h92]; rfl
          have d92 : (((t[i].toNat : Nat) : Int) == 92) = true := beq_iff_eq.2 (by omega)
          have HC92 := Lib.hid hc92
          clear h92 h92n hst hc92
          go_wp2
          go_step3
          exact Or.inr ⟨rfl, ⟨i, l, ⟨hi0, HU.out, hll, _, ⟨_, _, _, _, _, _, _, _, _, _, _, _, _, _, _, _, _, _, _, _, _, _, _, _, _, _, _, _, _, _, _, _, _, _, _, _, _, _, _, _, _, _, _, _, _, _, _, _, _, _, _, _, _, _, _, _, _, _, _, _, _, _, _, _, _, _, _, _, _, _, _, _, _, _, _, _, _, _, _, _, _, _, _, _, _, _, _, _, _, rfl⟩, HO.out, HB.out⟩, HC92.out⟩, by simp [intOf]⟩
        · have HU2 := Lib.hid (HU.out.plain (b_at hlt) hst h92)
          have h92n : t[i].toNat ≠ 92 := fun e => h92 (UInt8.toNat_inj.1 e)
          have d92 : (((t[i].toNat : Nat) : Int) == 92) = false := beq_eq_false_iff_ne.2 (by omega)
          clear h92 h92n hst
          go_wp2_with (at_builtin; refine wpList_append_own _ rfl _ _ 42 rfl w.heap.size 5 i0 (.int .u8 0) 1 1 Tryd.underlying42 hi hz0 hz1 hz2 rfl (by decide) _ _ _ rfl (HO.out.alloc _) ⟨wr.heap.size, 0, none⟩ 1 1 [.int .u8 t[i].toNat] rfl rfl (lit_cells _ _ _) (by intro u hu; simp at hu; subst hu; rfl) K3.out K4.out (K5.out _) ?_; intro v' w1 hown1 hgrow1 hnil1)
          have hb1 := below_own (HB.out.alloc hszs _) (K5.out _) (HO.out.alloc _) hgrow1
          have HOwn := Lib.hid (show w1.ownsRow w.heap.size 5 1 v' (l ++ [t[i]]).length ((l ++ [t[i]]).map b8) by
            rw [List.length_append, List.map_append]
            exact hown1)
          have HB2 := Lib.hid hb1
          clear hown1 hgrow1 hnil1 hb1
          go_wp2
          go_step3
          exact Or.inl ⟨rfl, ⟨i + 1, l ++ [t[i]], ⟨by omega, HU2.out, by first | exact hll | (rw [List.length_append]; simp; omega), _, by first | exact ⟨_, _, _, _, _, _, _, _, _, _, _, _, _, _, _, _, _, _, _, _, _, _, _, _, _, _, _, _, _, _, _, _, _, _, _, _, _, _, _, _, _, _, _, _, _, _, _, _, _, _, _, _, _, _, _, _, _, _, _, _, _, _, _, _, _, _, _, _, _, _, _, _, _, _, _, _, _, _, _, _, _, _, _, _, _, _, _, _, _, rfl⟩ | (rw [show ((i + 1 : Nat) : Int) = (i : Int) + 1 from by omega]; exact ⟨_, _, _, _, _, _, _, _, _, _, _, _, _, _, _, _, _, _, _, _, _, _, _, _, _, _, _, _, _, _, _, _, _, _, _, _, _, _, _, _, _, _, _, _, _, _, _, _, _, _, _, _, _, _, _, _, _, _, _, _, _, _, _, _, _, _, _, _, _, _, _, _, _, _, _, _, _, _, _, _, _, _, _, _, _, _, _, _, _, rfl⟩), HOwn.out, HB2.out⟩⟩, by simp [intOf]; omega⟩
    · have HN := Lib.hid (unqV_some (HU.out.done (by rw [size_list]; omega)))
      have beq : ((i : Int) == (t.size : Int)) = true := beq_iff_eq.2 (by omega)
      have hstr := own_str (P := Tryd.prog) (src := 42) (dst := 9) Tryd.underlying42 Tryd.underlying5 Tryd.underlying9 HO.out
      go_wp2
      simp only [twoJumps]
      go_ret2
      exact ⟨(congrArg Ending.returned (HTt.out.trans HN.out)).symm, HB.out⟩
  · rintro a wr ⟨i, l, ⟨hi0, hU, hll, v, ⟨u1, u2, u3, u6, u7, u8, u9, u10, u11, u12, u13, u14, u15, u16, u17, u18, u19, u20, u21, u22, u23, u24, u25, u26, u27, u28, u29, u30, u31, u32, u33, u34, u35, u36, u37, u38, u39, u40, u41, u42, u43, u44, u45, u46, u47, u48, u49, u50, u51, u52, u53, u54, u55, u56, u57, u58, u59, u60, u61, u62, u63, u64, u65, u66, u67, u68, u69, u70, u71, u72, u73, u74, u75, u76, u77, u78, u79, u80, u81, u82, u83, u84, u85, u86, u87, u88, u89, u90, u91, rfl⟩, hO, hB⟩, hc92⟩
    have hlt : i < t.size := by rw [← size_list]; exact (List.getElem?_eq_some_iff.1 hc92).1
    have HU := Lib.hid hU
    have HO := Lib.hid hO
    have HB := Lib.hid hB
    have hszs := hB.size
    have K3 := Lib.hid (show l.length + 1 ≤ maxLen by unfold maxLen; omega)
    have K4 := Lib.hid (show (l.length + 1) * 1 ≤ 140737488355328 by omega)
    have K5 := Lib.hid (show ∀ o, w.heap.size ≤ (wr.alloc o).heap.size from fun o => by simp; omega)
    clear hU hO hB HC HT b0 b1 d0 e1 e2
    by_cases hlast : i + 1 = t.size
    · have HN := Lib.hid (unqV_none (HU.out.last hc92 (by rw [size_list]; exact hlast)))
      have beq : ((i : Int) + 1 == (t.size : Int)) = true := beq_iff_eq.2 (by omega)
      clear hlast hc92
      go_wp2
      simp only [twoJumps]
      go_ret2
      exact ⟨(congrArg Ending.returned (HTt.out.trans HN.out)).symm, HB.out⟩
    · have hlt1 : i + 1 < t.size := by omega
      have bne : ((i : Int) + 1 == (t.size : Int)) = false := beq_eq_false_iff_ne.2 (by omega)
      have hdx := t[i + 1].toNat_lt
      clear hlast
      rcases esc_cases t[i + 1] with ⟨hd, he⟩ | ⟨hd, he⟩ | ⟨hd, he⟩ | ⟨hd, he⟩ | ⟨hd, he⟩ | ⟨⟨y1, y2, y3, y4, y5⟩, he⟩
      · have HU2 := Lib.hid (HU.out.esc hc92 (b_at hlt1) he)
        have de34 : (((t[i + 1].toNat : Nat) : Int) == 34) = true := beq_iff_eq.2 (by omega)
        have de92 : (((t[i + 1].toNat : Nat) : Int) == 92) = false := beq_eq_false_iff_ne.2 (by omega)
        have de110 : (((t[i + 1].toNat : Nat) : Int) == 110) = false := beq_eq_false_iff_ne.2 (by omega)
        have de114 : (((t[i + 1].toNat : Nat) : Int) == 114) = false := beq_eq_false_iff_ne.2 (by omega)
        have de116 : (((t[i + 1].toNat : Nat) : Int) == 116) = false := beq_eq_false_iff_ne.2 (by omega)
        clear hc92 hd he
        go_wp2_with (at_builtin; refine wpList_append_own _ rfl _ _ 42 rfl w.heap.size 5 i0 (.int .u8 0) 1 1 Tryd.underlying42 hi hz0 hz1 hz2 rfl (by decide) _ _ _ rfl (HO.out.alloc _) ⟨wr.heap.size, 0, none⟩ 1 1 [.int .u8 t[i + 1].toNat] rfl rfl (lit_cells _ _ _) (by intro u hu; simp at hu; subst hu; rfl) K3.out K4.out (K5.out _) ?_; intro v' w1 hown1 hgrow1 hnil1)
        have hb1 := below_own (HB.out.alloc hszs _) (K5.out _) (HO.out.alloc _) hgrow1
        have HOwn := Lib.hid (show w1.ownsRow w.heap.size 5 1 v' (l ++ [t[i + 1]]).length ((l ++ [t[i + 1]]).map b8) by
          rw [List.length_append, List.map_append]
          exact hown1)
        have HB2 := Lib.hid hb1
        clear hown1 hgrow1 hnil1 hb1
        go_wp2
        go_step3
        exact Or.inl ⟨rfl, ⟨i + 2, l ++ [t[i + 1]], ⟨by omega, HU2.out, by first | exact hll | (rw [List.length_append]; simp; omega), _, by first | exact ⟨_, _, _, _, _, _, _, _, _, _, _, _, _, _, _, _, _, _, _, _, _, _, _, _, _, _, _, _, _, _, _, _, _, _, _, _, _, _, _, _, _, _, _, _, _, _, _, _, _, _, _, _, _, _, _, _, _, _, _, _, _, _, _, _, _, _, _, _, _, _, _, _, _, _, _, _, _, _, _, _, _, _, _, _, _, _, _, _, _, rfl⟩ | (rw [show ((i + 2 : Nat) : Int) = (i : Int) + 2 from by omega]; exact ⟨_, _, _, _, _, _, _, _, _, _, _, _, _, _, _, _, _, _, _, _, _, _, _, _, _, _, _, _, _, _, _, _, _, _, _, _, _, _, _, _, _, _, _, _, _, _, _, _, _, _, _, _, _, _, _, _, _, _, _, _, _, _, _, _, _, _, _, _, _, _, _, _, _, _, _, _, _, _, _, _, _, _, _, _, _, _, _, _, _, rfl⟩), HOwn.out, HB2.out⟩⟩, by simp [intOf]; omega⟩
      · have HU2 := Lib.hid (HU.out.esc hc92 (b_at hlt1) he)
        have de34 : (((t[i + 1].toNat : Nat) : Int) == 34) = false := beq_eq_false_iff_ne.2 (by omega)
        have de92 : (((t[i + 1].toNat : Nat) : Int) == 92) = true := beq_iff_eq.2 (by omega)
        have de110 : (((t[i + 1].toNat : Nat) : Int) == 110) = false := beq_eq_false_iff_ne.2 (by omega)
        have de114 : (((t[i + 1].toNat : Nat) : Int) == 114) = false := beq_eq_false_iff_ne.2 (by omega)
        have de116 : (((t[i + 1].toNat : Nat) : Int) == 116) = false := beq_eq_false_iff_ne.2 (by omega)
        clear hc92 hd he
        go_wp2_with (at_builtin; refine wpList_append_own _ rfl _ _ 42 rfl w.heap.size 5 i0 (.int .u8 0) 1 1 Tryd.underlying42 hi hz0 hz1 hz2 rfl (by decide) _ _ _ rfl (HO.out.alloc _) ⟨wr.heap.size, 0, none⟩ 1 1 [.int .u8 t[i + 1].toNat] rfl rfl (lit_cells _ _ _) (by intro u hu; simp at hu; subst hu; rfl) K3.out K4.out (K5.out _) ?_; intro v' w1 hown1 hgrow1 hnil1)
        have hb1 := below_own (HB.out.alloc hszs _) (K5.out _) (HO.out.alloc _) hgrow1
        have HOwn := Lib.hid (show w1.ownsRow w.heap.size 5 1 v' (l ++ [t[i + 1]]).length ((l ++ [t[i + 1]]).map b8) by
          rw [List.length_append, List.map_append]
          exact hown1)
        have HB2 := Lib.hid hb1
        clear hown1 hgrow1 hnil1 hb1
        go_wp2
        go_step3
        exact Or.inl ⟨rfl, ⟨i + 2, l ++ [t[i + 1]], ⟨by omega, HU2.out, by first | exact hll | (rw [List.length_append]; simp; omega), _, by first | exact ⟨_, _, _, _, _, _, _, _, _, _, _, _, _, _, _, _, _, _, _, _, _, _, _, _, _, _, _, _, _, _, _, _, _, _, _, _, _, _, _, _, _, _, _, _, _, _, _, _, _, _, _, _, _, _, _, _, _, _, _, _, _, _, _, _, _, _, _, _, _, _, _, _, _, _, _, _, _, _, _, _, _, _, _, _, _, _, _, _, _, rfl⟩ | (rw [show ((i + 2 : Nat) : Int) = (i : Int) + 2 from by omega]; exact ⟨_, _, _, _, _, _, _, _, _, _, _, _, _, _, _, _, _, _, _, _, _, _, _, _, _, _, _, _, _, _, _, _, _, _, _, _, _, _, _, _, _, _, _, _, _, _, _, _, _, _, _, _, _, _, _, _, _, _, _, _, _, _, _, _, _, _, _, _, _, _, _, _, _, _, _, _, _, _, _, _, _, _, _, _, _, _, _, _, _, rfl⟩), HOwn.out, HB2.out⟩⟩, by simp [intOf]; omega⟩
      · have HU2 := Lib.hid (HU.out.esc hc92 (b_at hlt1) he)
        have de34 : (((t[i + 1].toNat : Nat) : Int) == 34) = false := beq_eq_false_iff_ne.2 (by omega)
        have de92 : (((t[i + 1].toNat : Nat) : Int) == 92) = false := beq_eq_false_iff_ne.2 (by omega)
        have de110 : (((t[i + 1].toNat : Nat) : Int) == 110) = true := beq_iff_eq.2 (by omega)
        have de114 : (((t[i + 1].toNat : Nat) : Int) == 114) = false := beq_eq_false_iff_ne.2 (by omega)
        have de116 : (((t[i + 1].toNat : Nat) : Int) == 116) = false := beq_eq_false_iff_ne.2 (by omega)
        clear hc92 hd he
        go_wp2_with (at_builtin; refine wpList_append_own _ rfl _ _ 42 rfl w.heap.size 5 i0 (.int .u8 0) 1 1 Tryd.underlying42 hi hz0 hz1 hz2 rfl (by decide) _ _ _ rfl (HO.out.alloc _) ⟨wr.heap.size, 0, none⟩ 1 1 [.int .u8 10] rfl rfl (lit_cells _ _ _) (by intro u hu; simp at hu; subst hu; rfl) K3.out K4.out (K5.out _) ?_; intro v' w1 hown1 hgrow1 hnil1)
        have hb1 := below_own (HB.out.alloc hszs _) (K5.out _) (HO.out.alloc _) hgrow1
        have HOwn := Lib.hid (show w1.ownsRow w.heap.size 5 1 v' (l ++ [10]).length ((l ++ [10]).map b8) by
          rw [List.length_append, List.map_append]
          exact hown1)
        have HB2 := Lib.hid hb1
        clear hown1 hgrow1 hnil1 hb1
        go_wp2
        go_step3
        exact Or.inl ⟨rfl, ⟨i + 2, l ++ [10], ⟨by omega, HU2.out, by first | exact hll | (rw [List.length_append]; simp; omega), _, by first | exact ⟨_, _, _, _, _, _, _, _, _, _, _, _, _, _, _, _, _, _, _, _, _, _, _, _, _, _, _, _, _, _, _, _, _, _, _, _, _, _, _, _, _, _, _, _, _, _, _, _, _, _, _, _, _, _, _, _, _, _, _, _, _, _, _, _, _, _, _, _, _, _, _, _, _, _, _, _, _, _, _, _, _, _, _, _, _, _, _, _, _, rfl⟩ | (rw [show ((i + 2 : Nat) : Int) = (i : Int) + 2 from by omega]; exact ⟨_, _, _, _, _, _, _, _, _, _, _, _, _, _, _, _, _, _, _, _, _, _, _, _, _, _, _, _, _, _, _, _, _, _, _, _, _, _, _, _, _, _, _, _, _, _, _, _, _, _, _, _, _, _, _, _, _, _, _, _, _, _, _, _, _, _, _, _, _, _, _, _, _, _, _, _, _, _, _, _, _, _, _, _, _, _, _, _, _, rfl⟩), HOwn.out, HB2.out⟩⟩, by simp [intOf]; omega⟩
      · have HU2 := Lib.hid (HU.out.esc hc92 (b_at hlt1) he)
        have de34 : (((t[i + 1].toNat : Nat) : Int) == 34) = false := beq_eq_false_iff_ne.2 (by omega)
        have de92 : (((t[i + 1].toNat : Nat) : Int) == 92) = false := beq_eq_false_iff_ne.2 (by omega)
        have de110 : (((t[i + 1].toNat : Nat) : Int) == 110) = false := beq_eq_false_iff_ne.2 (by omega)
        have de114 : (((t[i + 1].toNat : Nat) : Int) == 114) = true := beq_iff_eq.2 (by omega)
        have de116 : (((t[i + 1].toNat : Nat) : Int) == 116) = false := beq_eq_false_iff_ne.2 (by omega)
        clear hc92 hd he
        go_wp2_with (at_builtin; refine wpList_append_own _ rfl _ _ 42 rfl w.heap.size 5 i0 (.int .u8 0) 1 1 Tryd.underlying42 hi hz0 hz1 hz2 rfl (by decide) _ _ _ rfl (HO.out.alloc _) ⟨wr.heap.size, 0, none⟩ 1 1 [.int .u8 13] rfl rfl (lit_cells _ _ _) (by intro u hu; simp at hu; subst hu; rfl) K3.out K4.out (K5.out _) ?_; intro v' w1 hown1 hgrow1 hnil1)
        have hb1 := below_own (HB.out.alloc hszs _) (K5.out _) (HO.out.alloc _) hgrow1
        have HOwn := Lib.hid (show w1.ownsRow w.heap.size 5 1 v' (l ++ [13]).length ((l ++ [13]).map b8) by
          rw [List.length_append, List.map_append]
          exact hown1)
        have HB2 := Lib.hid hb1
        clear hown1 hgrow1 hnil1 hb1
        go_wp2
        go_step3
        exact Or.inl ⟨rfl, ⟨i + 2, l ++ [13], ⟨by omega, HU2.out, by first | exact hll | (rw [List.length_append]; simp; omega), _, by first | exact ⟨_, _, _, _, _, _, _, _, _, _, _, _, _, _, _, _, _, _, _, _, _, _, _, _, _, _, _, _, _, _, _, _, _, _, _, _, _, _, _, _, _, _, _, _, _, _, _, _, _, _, _, _, _, _, _, _, _, _, _, _, _, _, _, _, _, _, _, _, _, _, _, _, _, _, _, _, _, _, _, _, _, _, _, _, _, _, _, _, _, rfl⟩ | (rw [show ((i + 2 : Nat) : Int) = (i : Int) + 2 from by omega]; exact ⟨_, _, _, _, _, _, _, _, _, _, _, _, _, _, _, _, _, _, _, _, _, _, _, _, _, _, _, _, _, _, _, _, _, _, _, _, _, _, _, _, _, _, _, _, _, _, _, _, _, _, _, _, _, _, _, _, _, _, _, _, _, _, _, _, _, _, _, _, _, _, _, _, _, _, _, _, _, _, _, _, _, _, _, _, _, _, _, _, _, rfl⟩), HOwn.out, HB2.out⟩⟩, by simp [intOf]; omega⟩
      · have HU2 := Lib.hid (HU.out.esc hc92 (b_at hlt1) he)
        have de34 : (((t[i + 1].toNat : Nat) : Int) == 34) = false := beq_eq_false_iff_ne.2 (by omega)
        have de92 : (((t[i + 1].toNat : Nat) : Int) == 92) = false := beq_eq_false_iff_ne.2 (by omega)
        have de110 : (((t[i + 1].toNat : Nat) : Int) == 110) = false := beq_eq_false_iff_ne.2 (by omega)
        have de114 : (((t[i + 1].toNat : Nat) : Int) == 114) = false := beq_eq_false_iff_ne.2 (by omega)
        have de116 : (((t[i + 1].toNat : Nat) : Int) == 116) = true := beq_iff_eq.2 (by omega)
        clear hc92 hd he
        go_wp2_with (at_builtin; refine wpList_append_own _ rfl _ _ 42 rfl w.heap.size 5 i0 (.int .u8 0) 1 1 Tryd.underlying42 hi hz0 hz1 hz2 rfl (by decide) _ _ _ rfl (HO.out.alloc _) ⟨wr.heap.size, 0, none⟩ 1 1 [.int .u8 9] rfl rfl (lit_cells _ _ _) (by intro u hu; simp at hu; subst hu; rfl) K3.out K4.out (K5.out _) ?_; intro v' w1 hown1 hgrow1 hnil1)
        have hb1 := below_own (HB.out.alloc hszs _) (K5.out _) (HO.out.alloc _) hgrow1
        have HOwn := Lib.hid (show w1.ownsRow w.heap.size 5 1 v' (l ++ [9]).length ((l ++ [9]).map b8) by
          rw [List.length_append, List.map_append]
          exact hown1)
        have HB2 := Lib.hid hb1
        clear hown1 hgrow1 hnil1 hb1
        go_wp2
        go_step3
        exact Or.inl ⟨rfl, ⟨i + 2, l ++ [9], ⟨by omega, HU2.out, by first | exact hll | (rw [List.length_append]; simp; omega), _, by first | exact ⟨_, _, _, _, _, _, _, _, _, _, _, _, _, _, _, _, _, _, _, _, _, _, _, _, _, _, _, _, _, _, _, _, _, _, _, _, _, _, _, _, _, _, _, _, _, _, _, _, _, _, _, _, _, _, _, _, _, _, _, _, _, _, _, _, _, _, _, _, _, _, _, _, _, _, _, _, _, _, _, _, _, _, _, _, _, _, _, _, _, rfl⟩ | (rw [show ((i + 2 : Nat) : Int) = (i : Int) + 2 from by omega]; exact ⟨_, _, _, _, _, _, _, _, _, _, _, _, _, _, _, _, _, _, _, _, _, _, _, _, _, _, _, _, _, _, _, _, _, _, _, _, _, _, _, _, _, _, _, _, _, _, _, _, _, _, _, _, _, _, _, _, _, _, _, _, _, _, _, _, _, _, _, _, _, _, _, _, _, _, _, _, _, _, _, _, _, _, _, _, _, _, _, _, _, rfl⟩), HOwn.out, HB2.out⟩⟩, by simp [intOf]; omega⟩
      · have HN := Lib.hid (unqV_none (HU.out.bad hc92 (b_at hlt1) he))
        have de34 : (((t[i + 1].toNat : Nat) : Int) == 34) = false := beq_eq_false_iff_ne.2 (by omega)
        have de92 : (((t[i + 1].toNat : Nat) : Int) == 92) = false := beq_eq_false_iff_ne.2 (by omega)
        have de110 : (((t[i + 1].toNat : Nat) : Int) == 110) = false := beq_eq_false_iff_ne.2 (by omega)
        have de114 : (((t[i + 1].toNat : Nat) : Int) == 114) = false := beq_eq_false_iff_ne.2 (by omega)
        have de116 : (((t[i + 1].toNat : Nat) : Int) == 116) = false := beq_eq_false_iff_ne.2 (by omega)
        clear hc92 he y1 y2 y3 y4 y5
        go_wp2
        simp only [twoJumps]
        go_ret2
        exact ⟨(congrArg Ending.returned (HTt.out.trans HN.out)).symm, HB.out⟩
end Go.Proofs.YtamimkekjcjcjaaDoor
