/- What a reference between & and ; stands for: meant. (short) meant, a reference in hexadecimal digits. (short) meant, a reference in decimal digits. (short) What a reference between & and ; stands for: meant. (short) -/
import Derived.Test.YtanncakdlflopaaGreatDoorNumA
import Derived.Shelf.Strings.SlTrimAscii
namespace Go.Proofs.YtanncakdlflopaaGreatDoor
open Go.RowKit
set_option linter.unusedVariables false
set_option linter.unusedSimpArgs false
set_option maxRecDepth 100000

/-- A variable that holds an error, or none. -/
def ErrIn (w : World) (g : Nat) : Prop := ∃ ev, w.cell? ⟨g, 0, none⟩ = some ev ∧ (ev = .nilIface ∨ ∃ te pe, ev = .iface te pe)
def ErrsAt (w : World) : Prop := ErrIn w 3 ∧ ErrIn w 4
theorem ErrIn.below {w w' : World} {g : Nat} (h : ErrIn w g) (hb : Below w.heap.size w w') : ErrIn w' g := by
 obtain ⟨ev, h1, h2⟩ := h
 exact ⟨ev, (hb.cell (block_lt_of_cell h1)).trans h1, h2⟩
theorem ErrsAt.below {w w' : World} (h : ErrsAt w) (hb : Below w.heap.size w w') : ErrsAt w' := ⟨h.1.below hb, h.2.below hb⟩

/-- What ParseUint answers. -/
def NumPost (b : Nat) (s : ByteArray) (w : World) (e : Ending) (w' : World) : Prop :=
 ((∃ n, valB b 0 s.data.toList = some n ∧ e = .returned (.tuple #[.int .u64 n, .nilIface])) ∨ (valB b 0 s.data.toList = none ∧ ∃ (v : Int) (t : TypeId) (p : Value), e = .returned (.tuple #[.int .u64 v, .iface t p]))) ∧ Below w.heap.size w w'

set_option maxHeartbeats 8000000 in
theorem par_of (b : Nat) (s : ByteArray) (w : World) (hs : s.size ≤ 1099511627776) (hE : ErrsAt w)
  (hI : Calls Tryz.prog 142 #[.string s, .int .i64 b, .int .i64 32] w fun e w' => IntPost b s w e w') :
  Calls Tryz.prog 132 #[.string s, .int .i64 b, .int .i64 32] w fun e w' => NumPost b s w e w' := by
 have HE := Lib.hid hE
 have HI := Lib.hid hI
 clear hE hI
 go_enter Tryz.func132, Tryz.ntmps132
 go_wp2_with fail
 refine HI.out.mono ?_
 rintro e w1 ⟨⟨n, hv, rfl⟩ | ⟨hv, v, k, rfl | rfl, rfl⟩, hb⟩
 ·have HV := Lib.hid hv
  have HB := Lib.hid hb
  clear hv hb
  go_wp2_with fail
  go_ret2
  exact ⟨.inl ⟨n, HV.out, rfl⟩, HB.out⟩
 ·have HV := Lib.hid hv
  have HB := Lib.hid hb
  obtain ⟨ev, hc, hev⟩ := (HE.out.below hb).2
  have HT := Lib.hid (Tryz.strconv_toError_range ⟨#[80, 97, 114, 115, 101, 85, 105, 110, 116]⟩ s b 32 ev w1 (by omega) hc hev)
  clear hv hb hc hev
  go_wp2_with fail
  refine HT.out.mono ?_
  rintro e w2 ⟨N1, rfl, -, -, hb2⟩
  go_wp2_with fail
  go_ret2
  exact ⟨.inr ⟨HV.out, _, _, _, rfl⟩, HB.out.trans (hb2.mono HB.out.size)⟩
 ·have HV := Lib.hid hv
  have HB := Lib.hid hb
  obtain ⟨ev, hc, hev⟩ := (HE.out.below hb).1
  have HT := Lib.hid (Tryz.strconv_toError_syntax ⟨#[80, 97, 114, 115, 101, 85, 105, 110, 116]⟩ s b 32 ev w1 (by omega) hc hev)
  clear hv hb hc hev
  go_wp2_with fail
  refine HT.out.mono ?_
  rintro e w2 ⟨N1, rfl, -, -, hb2⟩
  go_wp2_with fail
  go_ret2
  exact ⟨.inr ⟨HV.out, _, _, _, rfl⟩, HB.out.trans (hb2.mono HB.out.size)⟩
theorem par16 (s : ByteArray) (w : World) (hs : s.size ≤ 1099511627776) (hE : ErrsAt w) (h0 : 0 < s.size) (hx : digsB s.data.toList = true) :
  Calls Tryz.prog 132 #[.string s, .int .i64 16, .int .i64 32] w fun e w' => NumPost 16 s w e w' := par_of 16 s w hs hE (ipar16_any s w hs h0 hx)
theorem par10 (s : ByteArray) (w : World) (hs : s.size ≤ 1099511627776) (hE : ErrsAt w) (h0 : 0 < s.size) (hx : digsB s.data.toList = true) :
  Calls Tryz.prog 132 #[.string s, .int .i64 10, .int .i64 32] w fun e w' => NumPost 10 s w e w' := par_of 10 s w hs hE (ipar10_any s w hs h0 hx)

/-- What meant answers. -/
def meanV (s : ByteArray) : Value := match meanL s.data.toList with
 | some b => .tuple #[.string ⟨b.toArray⟩, .bool true]
 | none => .tuple #[.string ⟨#[]⟩, .bool false]
theorem meanV_some {s : ByteArray} {b : List UInt8} (h : meanL s.data.toList = some b) : meanV s = .tuple #[.string ⟨b.toArray⟩, .bool true] := by unfold meanV; rw [h]
theorem meanV_none {s : ByteArray} (h : meanL s.data.toList = none) : meanV s = .tuple #[.string ⟨#[]⟩, .bool false] := by unfold meanV; rw [h]
theorem eq_false_of {s : ByteArray} {l : List UInt8} (h : s.data.toList ≠ l) : (s.toList == l) = false := by
 rw [Lib.toList_data]; exact beq_eq_false_iff_ne.2 h
theorem isE {s : ByteArray} : (s.toList == []) = decide (s.size = 0) := by
 rw [Lib.toList_data, ← size_list]
 cases s.data.toList with
 | nil => rfl
 | cons a r => rfl
/-- The cut of one byte ahead. -/
theorem pre_one (s : ByteArray) (c : UInt8) : Lib.hasPrefix s.data.toList [c] = decide (s.data.toList.head? = some c) ∧ (s.data.toList.head? = some c → Lib.trimPrefix s.data.toList [c] = s.data.toList.drop 1) := by
 unfold Lib.trimPrefix Lib.hasPrefix
 cases s.data.toList with
 | nil => simp
 | cons a r =>
  by_cases h : c = a
  ·subst h; simp
  ·simp [h, Ne.symm h, List.isPrefixOf]

end Go.Proofs.YtanncakdlflopaaGreatDoor

namespace Go.Proofs.YtanncakdlflopaaGreatDoor
open Go.RowKit
set_option linter.unusedVariables false
set_option linter.unusedSimpArgs false
set_option maxRecDepth 100000

set_option maxHeartbeats 16000000 in
theorem meant16 (s D X : ByteArray) (w : World) (hs : s.size ≤ 1099511627776) (hE : ErrsAt w) (q1 : (s.toList == [108, 116]) = false) (q2 : (s.toList == [103, 116]) = false) (q3 : (s.toList == [97, 109, 112]) = false) (q4 : (s.toList == [113, 117, 111, 116]) = false) (q5 : (s.toList == [97, 112, 111, 115]) = false) (hDs : D.size ≤ s.size) (hXs : X.size ≤ s.size)
  (HP2 : Hid (∀ W, Calls Tryz.prog 131 #[.string s, .string ⟨#[35]⟩] W fun e w' => e = .returned (.tuple #[.string D, .bool true]) ∧ w' = W))
  (HX2 : Hid (∀ W, Calls Tryz.prog 131 #[.string D, .string ⟨#[120]⟩] W fun e w' => e = .returned (.tuple #[.string X, .bool true]) ∧ w' = W))
  (hM : meanL s.data.toList = numL 16 X.data.toList) :
  Calls Tryz.prog 117 #[.string s] w fun e w' => e = .returned (meanV s) ∧ Below w.heap.size w w' := by
 by_cases hX0 : X.size = 0
 ·as_aux_lemma =>
  have q0 : (X.toList == []) = true := by rw [isE]; exact decide_eq_true hX0
  have HV := Lib.hid (meanV_none (hM.trans (by
   have : X.data.toList = [] := List.eq_nil_of_length_eq_zero (by rw [size_list]; exact hX0)
   rw [this]; rfl)))
  clear hX0 hM
  go_enter Tryz.func117, Tryz.ntmps117
  go_wp2_with (first | (go_at_call 131; (with_reducible refine (HP2.out _).mono ?_); rintro e w2 ⟨rfl, rfl⟩) | (go_at_call 131; (with_reducible refine (HX2.out _).mono ?_); rintro e w2 ⟨rfl, rfl⟩))
  go_ret2
  exact ⟨congrArg Ending.returned HV.out.symm, Below.refl _ _⟩
 ·have q0 : (X.toList == []) = false := by rw [isE]; exact decide_eq_false hX0
  obtain ⟨T, hT⟩ : ∃ T : ByteArray, (⟨(Lib.trimS X.data.toList hexS).toArray⟩ : ByteArray) = T := ⟨_, rfl⟩
  have hTe : (T.toList == []) = digsB X.data.toList := by rw [← hT, Lib.toList_data]; exact trim_digs _
  have hTr : ∀ W, Calls Tryz.prog 43 #[.string X, .string ⟨#[48, 49, 50, 51, 52, 53, 54, 55, 56, 57, 97, 98, 99, 100, 101, 102, 65, 66, 67, 68, 69, 70]⟩] W fun e w' => e = .returned (.string T) ∧ Below W.heap.size W w' := fun W => by
   have := Any.strings_Trim_laid Tryz.lays160 (by kernel_rfl) X ⟨hexS.toArray⟩ W (by omega) (by decide) (ascii_of_all (by decide))
   rw [show (⟨hexS.toArray⟩ : ByteArray).data.toList = hexS from rfl, hT] at this
   exact this
  have HTr := Lib.hid hTr
  clear hTr
  clear hT
  cases hg : digsB X.data.toList with
  | false =>
   as_aux_lemma =>
   rw [hg] at hTe
   have HV := Lib.hid (meanV_none (hM.trans (digs_not hg 16)))
   clear hg hM hX0
   go_enter Tryz.func117, Tryz.ntmps117
   go_wp2_with (first | (go_at_call 131; (with_reducible refine (HP2.out _).mono ?_); rintro e w2 ⟨rfl, rfl⟩) | (go_at_call 131; (with_reducible refine (HX2.out _).mono ?_); rintro e w2 ⟨rfl, rfl⟩) | (go_at_call 43; (with_reducible refine (HTr.out _).mono ?_); rintro e w2 ⟨rfl, hb⟩))
   go_ret2
   exact ⟨congrArg Ending.returned HV.out.symm, hb⟩
  | true =>
   as_aux_lemma =>
   rw [hg] at hTe
   have HU := Lib.hid (fun W hE => par16 X W (by omega) hE (by omega) hg)
   have HE := Lib.hid hE
   have hne : X.data.toList ≠ [] := fun h => hX0 (by rw [← size_list, h]; rfl)
   clear hg hX0 hE
   go_enter Tryz.func117, Tryz.ntmps117
   go_wp2_with (first | (go_at_call 131; (with_reducible refine (HP2.out _).mono ?_); rintro e w2 ⟨rfl, rfl⟩) | (go_at_call 131; (with_reducible refine (HX2.out _).mono ?_); rintro e w2 ⟨rfl, rfl⟩) | (go_at_call 43; (with_reducible refine (HTr.out _).mono ?_); rintro e w2 ⟨rfl, hb⟩; have HB := Lib.hid hb; clear hb))
   refine (HU.out _ (HE.out.below HB.out)).mono ?_
   rintro e w4 ⟨⟨n, hv, rfl⟩ | ⟨hv, v, t, p, rfl⟩, hb⟩
   ·by_cases hn : n ≤ 1114111
    ·have HCh := Lib.hid (fun W => char_any (n : Int) W (by omega) (by omega))
     have hgt : decide ((n : Int) > 1114111) = false := decide_eq_false (by omega)
     cases hch : charB n with
     | true =>
      rw [hch] at HCh
      have HV := Lib.hid (meanV_some (hM.trans ((numL_some (by decide) hne hv).trans (by rw [hch]; rfl))))
      have HB2 := Lib.hid (HB.out.trans (hb.mono HB.out.size))
      have hen : (Utf8.encode (n : Int)) = ⟨(encL n).toArray⟩ := ba_eq rfl
      have HEn := Lib.hid hen
      clear hv hb hM hne hch hen
      go_wp2_with (first | (go_at_call 62; (with_reducible refine (HCh.out _).mono ?_); rintro e w5 ⟨rfl, rfl⟩))
      go_ret2
      exact ⟨by rw [HV.out, HEn.out]; rfl, HB2.out⟩
     | false =>
      rw [hch] at HCh
      have HV := Lib.hid (meanV_none (hM.trans ((numL_some (by decide) hne hv).trans (by rw [hch]; rfl))))
      have HB2 := Lib.hid (HB.out.trans (hb.mono HB.out.size))
      clear hv hb hM hne hch
      go_wp2_with (first | (go_at_call 62; (with_reducible refine (HCh.out _).mono ?_); rintro e w5 ⟨rfl, rfl⟩))
      go_ret2
      exact ⟨congrArg Ending.returned HV.out.symm, HB2.out⟩
    ·have HV := Lib.hid (meanV_none (hM.trans ((numL_some (by decide) hne hv).trans (by rw [big_char (by omega)]; rfl))))
     have HB2 := Lib.hid (HB.out.trans (hb.mono HB.out.size))
     have hgt : decide ((n : Int) > 1114111) = true := decide_eq_true (by omega)
     clear hv hb hM hne
     go_wp2_with fail
     go_ret2
     exact ⟨congrArg Ending.returned HV.out.symm, HB2.out⟩
   ·have HV := Lib.hid (meanV_none (hM.trans (numL_none (by decide) hv)))
    have HB2 := Lib.hid (HB.out.trans (hb.mono HB.out.size))
    clear hv hb hM hne
    go_wp2_with fail
    go_ret2
    exact ⟨congrArg Ending.returned HV.out.symm, HB2.out⟩
end Go.Proofs.YtanncakdlflopaaGreatDoor

namespace Go.Proofs.YtanncakdlflopaaGreatDoor
open Go.RowKit
set_option linter.unusedVariables false
set_option linter.unusedSimpArgs false
set_option maxRecDepth 100000

set_option maxHeartbeats 16000000 in
theorem meant10 (s D : ByteArray) (w : World) (hs : s.size ≤ 1099511627776) (hE : ErrsAt w) (q1 : (s.toList == [108, 116]) = false) (q2 : (s.toList == [103, 116]) = false) (q3 : (s.toList == [97, 109, 112]) = false) (q4 : (s.toList == [113, 117, 111, 116]) = false) (q5 : (s.toList == [97, 112, 111, 115]) = false) (hDs : D.size ≤ s.size)
  (HP2 : Hid (∀ W, Calls Tryz.prog 131 #[.string s, .string ⟨#[35]⟩] W fun e w' => e = .returned (.tuple #[.string D, .bool true]) ∧ w' = W))
  (HX2 : Hid (∀ W, Calls Tryz.prog 131 #[.string D, .string ⟨#[120]⟩] W fun e w' => (∃ Y, e = .returned (.tuple #[.string Y, .bool false])) ∧ w' = W))
  (hM : meanL s.data.toList = numL 10 D.data.toList) :
  Calls Tryz.prog 117 #[.string s] w fun e w' => e = .returned (meanV s) ∧ Below w.heap.size w w' := by
 by_cases hX0 : D.size = 0
 ·as_aux_lemma =>
  have q0 : (D.toList == []) = true := by rw [isE]; exact decide_eq_true hX0
  have HV := Lib.hid (meanV_none (hM.trans (by
   have : D.data.toList = [] := List.eq_nil_of_length_eq_zero (by rw [size_list]; exact hX0)
   rw [this]; rfl)))
  clear hX0 hM
  go_enter Tryz.func117, Tryz.ntmps117
  go_wp2_with (first | (go_at_call 131; (with_reducible refine (HP2.out _).mono ?_); rintro e w2 ⟨rfl, rfl⟩) | (go_at_call 131; (with_reducible refine (HX2.out _).mono ?_); rintro e w2 ⟨⟨Y, rfl⟩, rfl⟩))
  go_ret2
  exact ⟨congrArg Ending.returned HV.out.symm, Below.refl _ _⟩
 ·have q0 : (D.toList == []) = false := by rw [isE]; exact decide_eq_false hX0
  obtain ⟨T, hT⟩ : ∃ T : ByteArray, (⟨(Lib.trimS D.data.toList hexS).toArray⟩ : ByteArray) = T := ⟨_, rfl⟩
  have hTe : (T.toList == []) = digsB D.data.toList := by rw [← hT, Lib.toList_data]; exact trim_digs _
  have hTr : ∀ W, Calls Tryz.prog 43 #[.string D, .string ⟨#[48, 49, 50, 51, 52, 53, 54, 55, 56, 57, 97, 98, 99, 100, 101, 102, 65, 66, 67, 68, 69, 70]⟩] W fun e w' => e = .returned (.string T) ∧ Below W.heap.size W w' := fun W => by
   have := Any.strings_Trim_laid Tryz.lays160 (by kernel_rfl) D ⟨hexS.toArray⟩ W (by omega) (by decide) (ascii_of_all (by decide))
   rw [show (⟨hexS.toArray⟩ : ByteArray).data.toList = hexS from rfl, hT] at this
   exact this
  have HTr := Lib.hid hTr
  clear hTr
  clear hT
  cases hg : digsB D.data.toList with
  | false =>
   as_aux_lemma =>
   rw [hg] at hTe
   have HV := Lib.hid (meanV_none (hM.trans (digs_not hg 10)))
   clear hg hM hX0
   go_enter Tryz.func117, Tryz.ntmps117
   go_wp2_with (first | (go_at_call 131; (with_reducible refine (HP2.out _).mono ?_); rintro e w2 ⟨rfl, rfl⟩) | (go_at_call 131; (with_reducible refine (HX2.out _).mono ?_); rintro e w2 ⟨⟨Y, rfl⟩, rfl⟩) | (go_at_call 43; (with_reducible refine (HTr.out _).mono ?_); rintro e w2 ⟨rfl, hb⟩))
   go_ret2
   exact ⟨congrArg Ending.returned HV.out.symm, hb⟩
  | true =>
   as_aux_lemma =>
   rw [hg] at hTe
   have HU := Lib.hid (fun W hE => par10 D W (by omega) hE (by omega) hg)
   have HE := Lib.hid hE
   have hne : D.data.toList ≠ [] := fun h => hX0 (by rw [← size_list, h]; rfl)
   clear hg hX0 hE
   go_enter Tryz.func117, Tryz.ntmps117
   go_wp2_with (first | (go_at_call 131; (with_reducible refine (HP2.out _).mono ?_); rintro e w2 ⟨rfl, rfl⟩) | (go_at_call 131; (with_reducible refine (HX2.out _).mono ?_); rintro e w2 ⟨⟨Y, rfl⟩, rfl⟩) | (go_at_call 43; (with_reducible refine (HTr.out _).mono ?_); rintro e w2 ⟨rfl, hb⟩; have HB := Lib.hid hb; clear hb))
   refine (HU.out _ (HE.out.below HB.out)).mono ?_
   rintro e w4 ⟨⟨n, hv, rfl⟩ | ⟨hv, v, t, p, rfl⟩, hb⟩
   ·by_cases hn : n ≤ 1114111
    ·have HCh := Lib.hid (fun W => char_any (n : Int) W (by omega) (by omega))
     have hgt : decide ((n : Int) > 1114111) = false := decide_eq_false (by omega)
     cases hch : charB n with
     | true =>
      rw [hch] at HCh
      have HV := Lib.hid (meanV_some (hM.trans ((numL_some (by decide) hne hv).trans (by rw [hch]; rfl))))
      have HB2 := Lib.hid (HB.out.trans (hb.mono HB.out.size))
      have hen : (Utf8.encode (n : Int)) = ⟨(encL n).toArray⟩ := ba_eq rfl
      have HEn := Lib.hid hen
      clear hv hb hM hne hch hen
      go_wp2_with (first | (go_at_call 62; (with_reducible refine (HCh.out _).mono ?_); rintro e w5 ⟨rfl, rfl⟩))
      go_ret2
      exact ⟨by rw [HV.out, HEn.out]; rfl, HB2.out⟩
     | false =>
      rw [hch] at HCh
      have HV := Lib.hid (meanV_none (hM.trans ((numL_some (by decide) hne hv).trans (by rw [hch]; rfl))))
      have HB2 := Lib.hid (HB.out.trans (hb.mono HB.out.size))
      clear hv hb hM hne hch
      go_wp2_with (first | (go_at_call 62; (with_reducible refine (HCh.out _).mono ?_); rintro e w5 ⟨rfl, rfl⟩))
      go_ret2
      exact ⟨congrArg Ending.returned HV.out.symm, HB2.out⟩
    ·have HV := Lib.hid (meanV_none (hM.trans ((numL_some (by decide) hne hv).trans (by rw [big_char (by omega)]; rfl))))
     have HB2 := Lib.hid (HB.out.trans (hb.mono HB.out.size))
     have hgt : decide ((n : Int) > 1114111) = true := decide_eq_true (by omega)
     clear hv hb hM hne
     go_wp2_with fail
     go_ret2
     exact ⟨congrArg Ending.returned HV.out.symm, HB2.out⟩
   ·have HV := Lib.hid (meanV_none (hM.trans (numL_none (by decide) hv)))
    have HB2 := Lib.hid (HB.out.trans (hb.mono HB.out.size))
    clear hv hb hM hne
    go_wp2_with fail
    go_ret2
    exact ⟨congrArg Ending.returned HV.out.symm, HB2.out⟩
end Go.Proofs.YtanncakdlflopaaGreatDoor

namespace Go.Proofs.YtanncakdlflopaaGreatDoor
open Go.RowKit
set_option linter.unusedVariables false
set_option linter.unusedSimpArgs false
set_option maxRecDepth 100000

set_option maxHeartbeats 16000000 in
theorem meant_any (s : ByteArray) (w : World) (hs : s.size ≤ 1099511627776) (hE : ErrsAt w) :
  Calls Tryz.prog 117 #[.string s] w fun e w' => e = .returned (meanV s) ∧ Below w.heap.size w w' := by
 by_cases h1 : s.data.toList = [108, 116]
 ·obtain rfl : s = ⟨#[108, 116]⟩ := ba_eq h1
  as_aux_lemma =>
  have HV := Lib.hid (meanV_some (s := ⟨#[108, 116]⟩) (b := [60]) (by decide))
  go_enter Tryz.func117, Tryz.ntmps117
  go_wp2_with fail
  go_ret2
  exact ⟨congrArg Ending.returned HV.out.symm, Below.refl _ _⟩
 by_cases h2 : s.data.toList = [103, 116]
 ·obtain rfl : s = ⟨#[103, 116]⟩ := ba_eq h2
  as_aux_lemma =>
  have HV := Lib.hid (meanV_some (s := ⟨#[103, 116]⟩) (b := [62]) (by decide))
  go_enter Tryz.func117, Tryz.ntmps117
  go_wp2_with fail
  go_ret2
  exact ⟨congrArg Ending.returned HV.out.symm, Below.refl _ _⟩
 by_cases h3 : s.data.toList = [97, 109, 112]
 ·obtain rfl : s = ⟨#[97, 109, 112]⟩ := ba_eq h3
  as_aux_lemma =>
  have HV := Lib.hid (meanV_some (s := ⟨#[97, 109, 112]⟩) (b := [38]) (by decide))
  go_enter Tryz.func117, Tryz.ntmps117
  go_wp2_with fail
  go_ret2
  exact ⟨congrArg Ending.returned HV.out.symm, Below.refl _ _⟩
 by_cases h4 : s.data.toList = [113, 117, 111, 116]
 ·obtain rfl : s = ⟨#[113, 117, 111, 116]⟩ := ba_eq h4
  as_aux_lemma =>
  have HV := Lib.hid (meanV_some (s := ⟨#[113, 117, 111, 116]⟩) (b := [34]) (by decide))
  go_enter Tryz.func117, Tryz.ntmps117
  go_wp2_with fail
  go_ret2
  exact ⟨congrArg Ending.returned HV.out.symm, Below.refl _ _⟩
 by_cases h5 : s.data.toList = [97, 112, 111, 115]
 ·obtain rfl : s = ⟨#[97, 112, 111, 115]⟩ := ba_eq h5
  as_aux_lemma =>
  have HV := Lib.hid (meanV_some (s := ⟨#[97, 112, 111, 115]⟩) (b := [39]) (by decide))
  go_enter Tryz.func117, Tryz.ntmps117
  go_wp2_with fail
  go_ret2
  exact ⟨congrArg Ending.returned HV.out.symm, Below.refl _ _⟩
 have q1 := eq_false_of h1
 have q2 := eq_false_of h2
 have q3 := eq_false_of h3
 have q4 := eq_false_of h4
 have q5 := eq_false_of h5
 have HP := Lib.hid (fun W => Tryz.strings_CutPrefix s ⟨#[35]⟩ W)
 have hp := pre_one s 35
 by_cases hh : s.data.toList.head? = some 35
 ·obtain ⟨D, hD⟩ : ∃ D : ByteArray, (⟨(s.data.toList.drop 1).toArray⟩ : ByteArray) = D := ⟨_, rfl⟩
  have hDl : D.data.toList = s.data.toList.drop 1 := by rw [← hD]
  have hM : meanL s.data.toList = if D.data.toList.head? = some 120 then numL 16 (D.data.toList.drop 1) else numL 10 D.data.toList := by
   unfold meanL
   rw [if_neg h1, if_neg h2, if_neg h3, if_neg h4, if_neg h5, if_pos hh, hDl, List.drop_drop]
   have : (s.data.toList.drop 1).head? = s.data.toList[1]? := by rw [List.head?_drop]
   rw [this]
  have hp2 : ∀ W, Calls Tryz.prog 131 #[.string s, .string ⟨#[35]⟩] W fun e w' => e = .returned (.tuple #[.string D, .bool true]) ∧ w' = W := fun W => by
   have := HP.out W
   rw [show (⟨#[35]⟩ : ByteArray).data.toList = [35] from rfl, hp.1, decide_eq_true hh, hp.2 hh, hD] at this
   exact this
  have hDs : D.size ≤ s.size := by rw [← size_list, hDl, List.length_drop, size_list]; omega
  have HP2 := Lib.hid hp2
  clear hp2 hp HP h1 h2 h3 h4 h5 hh hD hDl
  have HX := Lib.hid (fun W => Tryz.strings_CutPrefix D ⟨#[120]⟩ W)
  have hx := pre_one D 120
  by_cases hd : D.data.toList.head? = some 120
  ·obtain ⟨X, hX⟩ : ∃ X : ByteArray, (⟨(D.data.toList.drop 1).toArray⟩ : ByteArray) = X := ⟨_, rfl⟩
   have hXl : X.data.toList = D.data.toList.drop 1 := by rw [← hX]
   rw [if_pos hd, ← hXl] at hM
   have hx2 : ∀ W, Calls Tryz.prog 131 #[.string D, .string ⟨#[120]⟩] W fun e w' => e = .returned (.tuple #[.string X, .bool true]) ∧ w' = W := fun W => by
    have := HX.out W
    rw [show (⟨#[120]⟩ : ByteArray).data.toList = [120] from rfl, hx.1, decide_eq_true hd, hx.2 hd, hX] at this
    exact this
   have hXs : X.size ≤ s.size := by have := size_list X; rw [hXl, List.length_drop, size_list] at this; omega
   have HX2 := Lib.hid hx2
   clear hx2 hx HX hd hX hXl
   exact meant16 s D X w hs hE q1 q2 q3 q4 q5 hDs hXs HP2 HX2 hM
  ·rw [if_neg hd] at hM
   have hx2 : ∀ W, Calls Tryz.prog 131 #[.string D, .string ⟨#[120]⟩] W fun e w' => (∃ Y, e = .returned (.tuple #[.string Y, .bool false])) ∧ w' = W := fun W => by
    have := HX.out W
    rw [show (⟨#[120]⟩ : ByteArray).data.toList = [120] from rfl, hx.1, decide_eq_false hd] at this
    exact this.mono fun e w' ⟨h1, h2⟩ => ⟨⟨_, h1⟩, h2⟩
   have HX2 := Lib.hid hx2
   clear hx2 hx HX hd
   exact meant10 s D w hs hE q1 q2 q3 q4 q5 hDs HP2 HX2 hM
 ·have hM : meanL s.data.toList = none := by
   unfold meanL
   rw [if_neg h1, if_neg h2, if_neg h3, if_neg h4, if_neg h5, if_neg hh]
  have HV := Lib.hid (meanV_none hM)
  have hp2 : ∀ W, Calls Tryz.prog 131 #[.string s, .string ⟨#[35]⟩] W fun e w' => (∃ Y, e = .returned (.tuple #[.string Y, .bool false])) ∧ w' = W := fun W => by
   have := HP.out W
   rw [show (⟨#[35]⟩ : ByteArray).data.toList = [35] from rfl, hp.1, decide_eq_false hh] at this
   exact this.mono fun e w' ⟨h1, h2⟩ => ⟨⟨_, h1⟩, h2⟩
  have HP2 := Lib.hid hp2
  clear hp2 hp HP h1 h2 h3 h4 h5 hh hM
  as_aux_lemma =>
  go_enter Tryz.func117, Tryz.ntmps117
  go_wp2_with (first | (go_at_call 131; (with_reducible refine (HP2.out _).mono ?_); rintro e w2 ⟨⟨Y, rfl⟩, rfl⟩))
  go_ret2
  exact ⟨congrArg Ending.returned HV.out.symm, Below.refl _ _⟩
end Go.Proofs.YtanncakdlflopaaGreatDoor
