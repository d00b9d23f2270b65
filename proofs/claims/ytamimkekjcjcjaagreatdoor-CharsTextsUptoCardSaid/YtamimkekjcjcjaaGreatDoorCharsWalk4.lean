/- The walks over Upper and Lower, of the package and of the reference. -/
import Derived.Test.YtamimkekjcjcjaaGreatDoorCharsWalk3
namespace Go.Proofs.YtamimkekjcjcjaaGreatDoor
open Go.RowKit
set_option linter.unusedVariables false
set_option maxRecDepth 100000

theorem rpart_zero (s : ByteArray) (a b : Int) (w : World) (hs : s.size ≤ 1099511627776) (ha : a < 0) (hb3 : 0 ≤ b) (hc : chars s.data.toList = some []) :
    Calls Tryz.prog 10 #[.string s, .int .i64 a, .int .i64 b] w fun e w' => e = .returned (.tuple #[.string ⟨#[]⟩, .int .i64 0]) ∧ Below w.heap.size w w' := by
  have HC := Lib.hid (rChars_any s w hs)
  have HT := Lib.hid (text_of_some hc)
  have Hc := Lib.hid hc
  have ba : (a == 0) = false := beq_eq_false_iff_ne.2 (by omega)
  have db : decide (b < 0) = false := decide_eq_false (by omega)
  have h0 : ¬ 0 ≤ a := by omega
  clear hc
  go_enter Tryz.func10, Tryz.ntmps10
  go_wp2_with fail
  refine HC.out.mono ?_
  rintro e w1 ⟨v, rfl, hb, hown⟩
  obtain ⟨g, cap, hv⟩ : ∃ g cap, v = .slice (some ⟨g, 0, none⟩) 1 cap := by
    obtain ⟨g, cap, cur, hv, _⟩ := (hown [] Hc.out).2.resolve_left (fun h => by have h2 := h.2; simp at h2)
    exact ⟨g, cap, hv⟩
  subst hv
  rw [HT.out]
  clear hown
  go_wp2
  go_ret2
  exact ⟨rfl, hb⟩

/-- What Part answers: the reference's. -/
theorem rpart_any (s : ByteArray) (a b : Int) (w : World) (hs : s.size ≤ 1099511627776) (ha : -9223372036854775808 ≤ a ∧ a ≤ 9223372036854775807) (hb : -9223372036854775808 ≤ b ∧ b ≤ 9223372036854775807) :
    Calls Tryz.prog 10 #[.string s, .int .i64 a, .int .i64 b] w fun e w' => e = .returned (partV s a b) ∧ Below w.heap.size w w' := by
  obtain ⟨ha1, ha2⟩ := ha
  obtain ⟨hb1, hb2⟩ := hb
  by_cases ha0 : a = 0
  · have HV := Lib.hid (partV_arg (s := s) (b := b) (.inl ha0))
    subst ha0
    go_enter Tryz.func10, Tryz.ntmps10
    go_wp2
    go_ret2
    exact ⟨(congrArg Ending.returned HV.out).symm, Below.refl _ _⟩
  have ba : (a == 0) = false := beq_eq_false_iff_ne.2 ha0
  by_cases hb0 : b < 0
  · have HV := Lib.hid (partV_arg (s := s) (a := a) (.inr hb0))
    clear ha0
    go_enter Tryz.func10, Tryz.ntmps10
    go_wp2
    go_ret2
    exact ⟨(congrArg Ending.returned HV.out).symm, Below.refl _ _⟩
  have hN : ¬ (a = 0 ∨ b < 0) := by omega
  cases hc : chars s.data.toList with
  | none =>
    have HC := Lib.hid (rChars_any s w hs)
    have HT := Lib.hid (text_of_none hc)
    have HV := Lib.hid (partV_none hN hc)
    have db : decide (b < 0) = false := decide_eq_false hb0
    clear hc ha0 hb0 hN ha1 hb1
    go_enter Tryz.func10, Tryz.ntmps10
    go_wp2_with fail
    refine HC.out.mono ?_
    rintro e w1 ⟨v, rfl, hb, -⟩
    rw [HT.out]
    go_wp2
    go_ret2
    exact ⟨(congrArg Ending.returned HV.out).symm, hb⟩
  | some cs =>
    by_cases hpos : 0 < a
    · have hf : (if a < 0 then ((cs.length : Int) + a).toNat else (a - 1).toNat) = (a - 1).toNat := if_neg (by omega)
      by_cases hlt : (a - 1).toNat < cs.length
      · exact (rpart_in s a b w hs (by omega) (by omega) hc (f := (a - 1).toNat) (m := min b.toNat (cs.length - (a - 1).toNat)) (.inl ⟨hpos, by omega⟩) hlt rfl).mono fun e w' ⟨he, hw⟩ => ⟨by rw [he, partV_in hN hc hf (by omega) rfl], hw⟩
      · exact (rpart_out s a b w hs (by omega) ha2 (by omega) hc hpos (by omega)).mono fun e w' ⟨he, hw⟩ => ⟨by rw [he, partV_out hN hc hf (by omega)], hw⟩
    · have hneg : a < 0 := by omega
      have hf : (if a < 0 then ((cs.length : Int) + a).toNat else (a - 1).toNat) = ((cs.length : Int) + a).toNat := if_pos hneg
      by_cases hL : cs.length = 0
      · obtain rfl : cs = [] := List.eq_nil_of_length_eq_zero hL
        exact (rpart_zero s a b w hs hneg (by omega) hc).mono fun e w' ⟨he, hw⟩ => ⟨by rw [he, partV_out hN hc hf (Nat.zero_le _)], hw⟩
      · exact (rpart_in s a b w hs (by omega) (by omega) hc (f := ((cs.length : Int) + a).toNat) (m := min b.toNat (cs.length - ((cs.length : Int) + a).toNat)) (by unfold RFirst; omega) (by omega) rfl).mono fun e w' ⟨he, hw⟩ => ⟨by rw [he, partV_in hN hc hf (by omega) rfl], hw⟩

/-- A byte between two moved. -/
def upB (c : UInt8) : UInt8 := if 97 ≤ c.toNat ∧ c.toNat ≤ 122 then UInt8.ofNat (c.toNat - 32) else c
def lowB (c : UInt8) : UInt8 := if 65 ≤ c.toNat ∧ c.toNat ≤ 90 then UInt8.ofNat (c.toNat + 32) else c
theorem ofNat_toNat {n : Nat} (h : n < 256) : (UInt8.ofNat n).toNat = n := by rw [UInt8.toNat_ofNat']; exact Nat.mod_eq_of_lt h
theorem upB_in {c : UInt8} (h : 97 ≤ c.toNat ∧ c.toNat ≤ 122) : ((upB c).toNat : Int) = (c.toNat : Int) - 32 := by unfold upB; rw [if_pos h, ofNat_toNat (by omega)]; omega
theorem upB_out {c : UInt8} (h : ¬ (97 ≤ c.toNat ∧ c.toNat ≤ 122)) : upB c = c := if_neg h
theorem lowB_in {c : UInt8} (h : 65 ≤ c.toNat ∧ c.toNat ≤ 90) : ((lowB c).toNat : Int) = (c.toNat : Int) + 32 := by unfold lowB; rw [if_pos h, ofNat_toNat (by omega)]; omega
theorem lowB_out {c : UInt8} (h : ¬ (65 ≤ c.toNat ∧ c.toNat ≤ 90)) : lowB c = c := if_neg h
theorem ret_u8 {a b : Int} (h : a = b) : Ending.returned (.int .u8 a) = .returned (.int .u8 b) := by rw [h]

theorem up_fn (c : UInt8) (w : World) : Calls Tryz.prog 30 #[.int .u8 c.toNat] w fun e w' => e = .returned (.int .u8 (upB c).toNat) ∧ w = w' := by
  have hc := c.toNat_lt
  by_cases h : 97 ≤ c.toNat ∧ c.toNat ≤ 122
  · have HV := Lib.hid (upB_in h)
    obtain ⟨h1, h2⟩ := h
    generalize c.toNat = n at *
    go_enter Tryz.func30, Tryz.ntmps30
    go_wp2
    go_ret
    exact ⟨(ret_u8 HV.out).symm, rfl⟩
  · have HV := Lib.hid (upB_out h)
    by_cases h1 : 97 ≤ c.toNat
    · have h2 : ¬ c.toNat ≤ 122 := fun x => h ⟨h1, x⟩
      clear h
      rw [HV.out]
      go_enter Tryz.func30, Tryz.ntmps30
      go_wp2
      go_ret
      exact ⟨rfl, rfl⟩
    · clear h
      rw [HV.out]
      go_enter Tryz.func30, Tryz.ntmps30
      go_wp2
      go_ret
      exact ⟨rfl, rfl⟩
theorem low_fn (c : UInt8) (w : World) : Calls Tryz.prog 31 #[.int .u8 c.toNat] w fun e w' => e = .returned (.int .u8 (lowB c).toNat) ∧ w = w' := by
  have hc := c.toNat_lt
  by_cases h : 65 ≤ c.toNat ∧ c.toNat ≤ 90
  · have HV := Lib.hid (lowB_in h)
    obtain ⟨h1, h2⟩ := h
    generalize c.toNat = n at *
    go_enter Tryz.func31, Tryz.ntmps31
    go_wp2
    go_ret
    exact ⟨(ret_u8 HV.out).symm, rfl⟩
  · have HV := Lib.hid (lowB_out h)
    by_cases h1 : 65 ≤ c.toNat
    · have h2 : ¬ c.toNat ≤ 90 := fun x => h ⟨h1, x⟩
      clear h
      rw [HV.out]
      go_enter Tryz.func31, Tryz.ntmps31
      go_wp2
      go_ret
      exact ⟨rfl, rfl⟩
    · clear h
      rw [HV.out]
      go_enter Tryz.func31, Tryz.ntmps31
      go_wp2
      go_ret
      exact ⟨rfl, rfl⟩

/-- A text with a byte put in the place of each. -/
def caseV (s : ByteArray) (f : UInt8 → UInt8) : Value := match chars s.data.toList with
  | some _ => .tuple #[.string ⟨(s.data.toList.map f).toArray⟩, .int .i64 0]
  | none => .tuple #[.string ⟨#[]⟩, .int .i64 2]
theorem caseV_some {s : ByteArray} {f : UInt8 → UInt8} {cs : List Nat} (h : chars s.data.toList = some cs) : caseV s f = .tuple #[.string ⟨(s.data.toList.map f).toArray⟩, .int .i64 0] := by unfold caseV; rw [h]
theorem caseV_none {s : ByteArray} {f : UInt8 → UInt8} (h : chars s.data.toList = none) : caseV s f = .tuple #[.string ⟨#[]⟩, .int .i64 2] := by unfold caseV; rw [h]
theorem at_byte {s : ByteArray} {k : Nat} (h : k < s.size) : s.data.toList[k]? = some s[k] := by
  rw [List.getElem?_eq_getElem (by simpa using h)]; rfl

set_option maxHeartbeats 1000000 in
theorem each_any (g : FuncId) (f : UInt8 → UInt8) (eg : ∀ args w, (callFunc g args).run Tryz.prog w = .ok (.enter g args) w) (hf : ∀ (c : UInt8) (W : World), Calls Tryz.prog g #[.int .u8 c.toNat] W fun e w' => e = .returned (.int .u8 (f c).toNat) ∧ W = w')
    (s : ByteArray) (w : World) (hs : s.size ≤ 1099511627776) (hT : U8 w) :
    Calls Tryz.prog 29 #[.string s, .func (.func g) #[] #[]] w fun e w' => e = .returned (caseV s f) ∧ Below w.heap.size w w' := by
  have HC := Lib.hid (valid_any s w (by omega) hT)
  have HF := Lib.hid hf
  cases hc : chars s.data.toList with
  | none =>
    have HT := Lib.hid (text_of_none hc)
    have HV := Lib.hid (caseV_none (f := f) hc)
    clear hc hf eg
    go_enter Tryz.func29, Tryz.ntmps29
    go_wp2_with fail
    refine HC.out.mono ?_
    rintro e w1 ⟨rfl, hb⟩
    rw [HT.out]
    go_wp2
    go_ret2
    exact ⟨(congrArg Ending.returned HV.out).symm, hb⟩
  | some cs =>
    have HT := Lib.hid (text_of_some hc)
    have HV := Lib.hid (caseV_some (f := f) hc)
    clear hc hf
    go_enter Tryz.func29, Tryz.ntmps29
    go_wp2_with fail
    refine HC.out.mono ?_
    rintro e w1 ⟨rfl, hb⟩
    rw [HT.out]
    have hrun := run_bytes_of_string (P := Tryz.prog) w1 9 43 5 s Tryz.underlying9 Tryz.underlying43 Tryz.underlying5
    have hge := grownCap_ge w1 s.size 0 5
    generalize grownCap w1 s.size 0 5 = cap at *
    have HMade := Lib.hid (BytesAt.made w1 5 s cap hge)
    have hb2 : Below w.heap.size w (w1.drew.alloc (.cells (bytesRow s cap) 5 ((bytesRow s cap).size, (bytesRow s cap).size + 1))) := hb.drew.alloc hb.size _
    have hszw := hb.size
    obtain ⟨g1, hg1⟩ : ∃ g1, w1.heap.size = g1 := ⟨_, rfl⟩
    have hgw : w.heap.size ≤ g1 := by omega
    have HSz := Lib.hid (show g1 < (w1.drew.alloc (.cells (bytesRow s cap) 5 ((bytesRow s cap).size, (bytesRow s cap).size + 1))).heap.size by simp; omega)
    rw [hg1] at hrun HMade
    generalize w1.drew.alloc (.cells (bytesRow s cap) 5 ((bytesRow s cap).size, (bytesRow s cap).size + 1)) = w2 at *
    have HB := Lib.hid hb2
    clear hb hb2 hg1 hszw
    go_wp2
    go_loopw [7, 8, 16] (fun _ _ iv wr => ∃ k : Nat, k ≤ s.size ∧ iv = .int .i64 k ∧ Hid (BytesAt wr g1 5 (mapK f s.data.toList k) (cap - s.size)) ∧ Hid (Below w.heap.size w wr)) (fun _ _ iv _ => s.size - (intOf iv).toNat)
    case atStart => exact ⟨0, by omega, rfl, (show BytesAt _ _ _ _ _ by rw [mapK_zero]; exact HMade.out), HB⟩
    case round =>
      obtain ⟨k, hk, rfl, HR, HBl⟩ := hrel
      by_cases hlt : k < s.size
      · have hat := mapK_at f (at_byte hlt)
        have HSet := Lib.hid (mapK_set f (at_byte hlt))
        have hcell := HR.out.cell hat
        have hfree := HR.out.free (j := k) (by rw [mapK_len, size_list]; exact hlt)
        have HPut := Lib.hid (HR.out.put (j := k) (by rw [mapK_len, size_list]; exact hlt) (f s[k]))
        clear hat
        go_wp2_with fail
        refine (HF.out s[k] wr).mono ?_
        rintro e w' ⟨rfl, rfl⟩
        go_wp2
        go_roundw
        case rel =>
          refine ⟨k + 1, by omega, by go_num, ?_, Below.setCell (p := ⟨g1, k, none⟩) HBl.out hgw _⟩
          show BytesAt _ _ _ _ _
          rw [← HSet.out]
          exact HPut.out
        case measure => simp [intOf]; omega
      · have HK := Lib.hid (mapK_all f s.data.toList (k := k) (by rw [size_list]; omega))
        have hR2 := HR.out
        rw [HK.out] at hR2
        have hsz : (s.data.toList.map f).length = s.size := by rw [List.length_map, size_list]
        have hadd : ∀ j, (⟨g1, 0, none⟩ : Addr).add j = ⟨g1, j, none⟩ := fun j => by unfold Addr.add; split <;> simp_all
        have hback := run_convert_bytes_back (P := Tryz.prog) wr 43 9 5 ⟨g1, 0, none⟩ cap (s.data.toList.map f) Tryz.underlying43 Tryz.underlying5 Tryz.underlying9 (fun j hj => by
          rw [hadd, hR2.cell (List.getElem?_eq_getElem hj)])
        rw [hsz] at hback
        clear hsz hR2 hadd
        go_wp2
        go_ret2
        exact ⟨(congrArg Ending.returned HV.out).symm, HBl.out⟩

set_option maxHeartbeats 1000000 in
theorem moved_any (lo hi : Nat) (d : Int) (f : UInt8 → UInt8) (hh : lo < 256 ∧ hi < 256) (hd : -255 ≤ d ∧ d ≤ 255) (hin : ∀ c : UInt8, lo ≤ c.toNat ∧ c.toNat ≤ hi → ((f c).toNat : Int) = (c.toNat : Int) + d) (hout : ∀ c : UInt8, ¬ (lo ≤ c.toNat ∧ c.toNat ≤ hi) → f c = c)
    (s : ByteArray) (w : World) (hs : s.size ≤ 1099511627776) :
    Calls Tryz.prog 28 #[.string s, .int .u8 lo, .int .u8 hi, .int .i64 d] w fun e w' => e = .returned (caseV s f) ∧ Below w.heap.size w w' := by
  obtain ⟨hh1, hh2⟩ := hh
  obtain ⟨hd1, hd2⟩ := hd
  have HC := Lib.hid (rValid_any s w hs)
  have HIn := Lib.hid hin
  have HOut := Lib.hid hout
  cases hc : chars s.data.toList with
  | none =>
    have HT := Lib.hid (text_of_none hc)
    have HV := Lib.hid (caseV_none (f := f) hc)
    clear hc hin hout
    go_enter Tryz.func28, Tryz.ntmps28
    go_wp2_with fail
    refine HC.out.mono ?_
    rintro e w1 ⟨rfl, hb⟩
    rw [HT.out]
    go_wp2
    go_ret2
    exact ⟨(congrArg Ending.returned HV.out).symm, hb⟩
  | some cs =>
    have HT := Lib.hid (text_of_some hc)
    have HV := Lib.hid (caseV_some (f := f) hc)
    clear hc hin hout
    go_enter Tryz.func28, Tryz.ntmps28
    go_wp2_with fail
    refine HC.out.mono ?_
    rintro e w1 ⟨rfl, hb⟩
    rw [HT.out]
    have hrun := run_bytes_of_string (P := Tryz.prog) w1 9 43 5 s Tryz.underlying9 Tryz.underlying43 Tryz.underlying5
    have hge := grownCap_ge w1 s.size 0 5
    generalize grownCap w1 s.size 0 5 = cap at *
    have HMade := Lib.hid (BytesAt.made w1 5 s cap hge)
    have hb2 : Below w.heap.size w (w1.drew.alloc (.cells (bytesRow s cap) 5 ((bytesRow s cap).size, (bytesRow s cap).size + 1))) := hb.drew.alloc hb.size _
    have hszw := hb.size
    obtain ⟨g1, hg1⟩ : ∃ g1, w1.heap.size = g1 := ⟨_, rfl⟩
    have hgw : w.heap.size ≤ g1 := by omega
    rw [hg1] at hrun HMade
    generalize w1.drew.alloc (.cells (bytesRow s cap) 5 ((bytesRow s cap).size, (bytesRow s cap).size + 1)) = w2 at *
    have HB := Lib.hid hb2
    clear hb hb2 hg1 hszw
    go_wp2
    go_loopw [11] (fun iv wr => ∃ k : Nat, k ≤ s.size ∧ iv = .int .i64 k ∧ Hid (BytesAt wr g1 5 (mapK f s.data.toList k) (cap - s.size)) ∧ Hid (Below w.heap.size w wr)) (fun iv _ => s.size - (intOf iv).toNat)
    case atStart => exact ⟨0, by omega, rfl, (show BytesAt _ _ _ _ _ by rw [mapK_zero]; exact HMade.out), HB⟩
    case round =>
      obtain ⟨k, hk, rfl, HR, HBl⟩ := hrel
      by_cases hlt : k < s.size
      · have hat := mapK_at f (at_byte hlt)
        have HSet := Lib.hid (mapK_set f (at_byte hlt))
        have hcell := HR.out.cell hat
        have hfree := HR.out.free (j := k) (by rw [mapK_len, size_list]; exact hlt)
        have HPut := Lib.hid (HR.out.put (j := k) (by rw [mapK_len, size_list]; exact hlt) (f s[k]))
        have hbx := s[k].toNat_lt
        clear hat
        by_cases hr : lo ≤ s[k].toNat ∧ s[k].toNat ≤ hi
        · have hfx := HIn.out _ hr
          have hfl := (f s[k]).toNat_lt
          have HFx := Lib.hid hfx
          have hb0 : 0 ≤ (s[k].toNat : Int) + d := by omega
          have hb1 : (s[k].toNat : Int) + d < 256 := by omega
          obtain ⟨hr1, hr2⟩ := hr
          clear hfx hfl
          go_wp2
          go_roundw
          case rel =>
            refine ⟨k + 1, by omega, by go_num, ?_, Below.setCell (p := ⟨g1, k, none⟩) HBl.out hgw _⟩
            show BytesAt _ _ _ _ _
            rw [← HSet.out, ← HFx.out]
            exact HPut.out
          case measure => simp [intOf]; omega
        · have HKeep := Lib.hid (mapK_keep f (at_byte hlt) (HOut.out _ hr))
          by_cases hr1 : lo ≤ s[k].toNat
          · have hr2 : ¬ s[k].toNat ≤ hi := fun x => hr ⟨hr1, x⟩
            clear hr
            go_wp2
            go_roundw
            case rel => exact ⟨k + 1, by omega, by go_num, (show BytesAt _ _ _ _ _ by rw [HKeep.out]; exact HR.out), HBl⟩
            case measure => simp [intOf]; omega
          · clear hr
            go_wp2
            go_roundw
            case rel => exact ⟨k + 1, by omega, by go_num, (show BytesAt _ _ _ _ _ by rw [HKeep.out]; exact HR.out), HBl⟩
            case measure => simp [intOf]; omega
      · have HK := Lib.hid (mapK_all f s.data.toList (k := k) (by rw [size_list]; omega))
        have hR2 := HR.out
        rw [HK.out] at hR2
        have hsz : (s.data.toList.map f).length = s.size := by rw [List.length_map, size_list]
        have hadd : ∀ j, (⟨g1, 0, none⟩ : Addr).add j = ⟨g1, j, none⟩ := fun j => by unfold Addr.add; split <;> simp_all
        have hback := run_convert_bytes_back (P := Tryz.prog) wr 43 9 5 ⟨g1, 0, none⟩ cap (s.data.toList.map f) Tryz.underlying43 Tryz.underlying5 Tryz.underlying9 (fun j hj => by
          rw [hadd, hR2.cell (List.getElem?_eq_getElem hj)])
        rw [hsz] at hback
        clear hsz hR2 hadd
        go_wp2
        go_ret2
        exact ⟨(congrArg Ending.returned HV.out).symm, HBl.out⟩

theorem upper_any (s : ByteArray) (w : World) (hs : s.size ≤ 1099511627776) (hT : U8 w) :
    Calls Tryz.prog 13 #[.string s] w fun e w' => e = .returned (caseV s upB) ∧ Below w.heap.size w w' := by
  have HE := Lib.hid (each_any 30 upB (enters_of Tryz.func30 (by kernel_rfl) rfl) up_fn s w hs hT)
  have hcases : ∃ x y, caseV s upB = .tuple #[x, y] := by unfold caseV; split <;> exact ⟨_, _, rfl⟩
  obtain ⟨x, y, hxy⟩ := hcases
  rw [hxy] at HE ⊢
  clear hxy
  go_enter Tryz.func13, Tryz.ntmps13
  go_wp2_with fail
  refine HE.out.mono ?_
  rintro e w1 ⟨rfl, hb⟩
  go_wp2
  go_ret2
  exact ⟨rfl, hb⟩
theorem lower_any (s : ByteArray) (w : World) (hs : s.size ≤ 1099511627776) (hT : U8 w) :
    Calls Tryz.prog 15 #[.string s] w fun e w' => e = .returned (caseV s lowB) ∧ Below w.heap.size w w' := by
  have HE := Lib.hid (each_any 31 lowB (enters_of Tryz.func31 (by kernel_rfl) rfl) low_fn s w hs hT)
  have hcases : ∃ x y, caseV s lowB = .tuple #[x, y] := by unfold caseV; split <;> exact ⟨_, _, rfl⟩
  obtain ⟨x, y, hxy⟩ := hcases
  rw [hxy] at HE ⊢
  clear hxy
  go_enter Tryz.func15, Tryz.ntmps15
  go_wp2_with fail
  refine HE.out.mono ?_
  rintro e w1 ⟨rfl, hb⟩
  go_wp2
  go_ret2
  exact ⟨rfl, hb⟩
theorem rupper_any (s : ByteArray) (w : World) (hs : s.size ≤ 1099511627776) :
    Calls Tryz.prog 12 #[.string s] w fun e w' => e = .returned (caseV s upB) ∧ Below w.heap.size w w' := by
  have HE := Lib.hid (moved_any 97 122 (-32) upB (by omega) (by omega) (fun c h => by rw [upB_in h]; omega) (fun c h => upB_out h) s w hs)
  have hcases : ∃ x y, caseV s upB = .tuple #[x, y] := by unfold caseV; split <;> exact ⟨_, _, rfl⟩
  obtain ⟨x, y, hxy⟩ := hcases
  rw [hxy] at HE ⊢
  clear hxy
  go_enter Tryz.func12, Tryz.ntmps12
  go_wp2_with fail
  refine HE.out.mono ?_
  rintro e w1 ⟨rfl, hb⟩
  go_wp2
  go_ret2
  exact ⟨rfl, hb⟩
theorem rlower_any (s : ByteArray) (w : World) (hs : s.size ≤ 1099511627776) :
    Calls Tryz.prog 14 #[.string s] w fun e w' => e = .returned (caseV s lowB) ∧ Below w.heap.size w w' := by
  have HE := Lib.hid (moved_any 65 90 32 lowB (by omega) (by omega) (fun c h => by rw [lowB_in h]) (fun c h => lowB_out h) s w hs)
  have hcases : ∃ x y, caseV s lowB = .tuple #[x, y] := by unfold caseV; split <;> exact ⟨_, _, rfl⟩
  obtain ⟨x, y, hxy⟩ := hcases
  rw [hxy] at HE ⊢
  clear hxy
  go_enter Tryz.func14, Tryz.ntmps14
  go_wp2_with fail
  refine HE.out.mono ?_
  rintro e w1 ⟨rfl, hb⟩
  go_wp2
  go_ret2
  exact ⟨rfl, hb⟩
end Go.Proofs.YtamimkekjcjcjaaGreatDoor
