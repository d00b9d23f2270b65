/- The reference's plain, escape and DocEscape. (short) The reference's digit, number and Bytes. (short) -/
import Derived.Test.YtanncakdlflopaaGreatDoorEscPlain
import Derived.Test.YtanncakdlflopaaGreatDoorTrieB
import Derived.Test.YtanncakdlflopaaGreatDoorReplA
import Derived.Test.YtanncakdlflopaaGreatDoorNumA
namespace Go.Proofs.YtanncakdlflopaaGreatDoor
open Go.RowKit
set_option linter.unusedVariables false
set_option linter.unusedSimpArgs false
set_option maxRecDepth 100000

theorem at_byte3 {s : ByteArray} {k : Nat} (h : k < s.size) : s.data.toList[k]? = some s[k] := by
 rw [List.getElem?_eq_getElem (by simpa using h)]; rfl
theorem ne13 {c : UInt8} {k : UInt8} (h : c ≠ k) : ((c.toNat : Int) == (k.toNat : Int)) = false := by
 rw [beq_eq_false_iff_ne]
 intro e
 exact h (UInt8.toNat_inj.1 (by omega))

set_option maxHeartbeats 8000000 in
theorem resc_any (c : UInt8) (at_ : Bool) (w : World) :
  Calls Tryz.prog 46 #[.int .u8 c.toNat, .bool at_] w fun e w' => e = .returned (.string ⟨(escC at_ c).toArray⟩) ∧ Below w.heap.size w w' := by
 have hcv := fun W t => conv_one W t c
 have hb1 := c.toNat_lt
 by_cases h38 : c = 38
 ·subst h38
  cases at_ with
  | true =>
   as_aux_lemma =>
   go_enter Tryz.func46, Tryz.ntmps46
   go_wp2
   go_ret
   exact ⟨rfl, Below.refl _ _⟩
  | false =>
   as_aux_lemma =>
   have hcv2 : ∀ (W : World) (t : TypeId), (convert 62 9 (.slice (some ⟨W.heap.size, 0, none⟩) 1 1)).run Tryz.prog (W.alloc (.cells #[.int .u8 38] t)) = .ok (.string ⟨#[38]⟩) (W.alloc (.cells #[.int .u8 38] t)) := fun W t => conv_one W t 38
   go_enter Tryz.func46, Tryz.ntmps46
   go_wp2
   go_ret
   exact ⟨rfl, Below.refl _ _⟩
 by_cases h60 : c = 60
 ·subst h60
  cases at_ with
  | true =>
   as_aux_lemma =>
   go_enter Tryz.func46, Tryz.ntmps46
   go_wp2
   go_ret
   exact ⟨rfl, Below.refl _ _⟩
  | false =>
   as_aux_lemma =>
   have hcv2 : ∀ (W : World) (t : TypeId), (convert 62 9 (.slice (some ⟨W.heap.size, 0, none⟩) 1 1)).run Tryz.prog (W.alloc (.cells #[.int .u8 60] t)) = .ok (.string ⟨#[60]⟩) (W.alloc (.cells #[.int .u8 60] t)) := fun W t => conv_one W t 60
   go_enter Tryz.func46, Tryz.ntmps46
   go_wp2
   go_ret
   exact ⟨rfl, Below.refl _ _⟩
 by_cases h62 : c = 62
 ·subst h62
  cases at_ with
  | true =>
   as_aux_lemma =>
   go_enter Tryz.func46, Tryz.ntmps46
   go_wp2
   go_ret
   exact ⟨rfl, Below.refl _ _⟩
  | false =>
   as_aux_lemma =>
   have hcv2 : ∀ (W : World) (t : TypeId), (convert 62 9 (.slice (some ⟨W.heap.size, 0, none⟩) 1 1)).run Tryz.prog (W.alloc (.cells #[.int .u8 62] t)) = .ok (.string ⟨#[62]⟩) (W.alloc (.cells #[.int .u8 62] t)) := fun W t => conv_one W t 62
   go_enter Tryz.func46, Tryz.ntmps46
   go_wp2
   go_ret
   exact ⟨rfl, Below.refl _ _⟩
 by_cases h13 : c = 13
 ·subst h13
  cases at_ with
  | true =>
   as_aux_lemma =>
   go_enter Tryz.func46, Tryz.ntmps46
   go_wp2
   go_ret
   exact ⟨rfl, Below.refl _ _⟩
  | false =>
   as_aux_lemma =>
   have hcv2 : ∀ (W : World) (t : TypeId), (convert 62 9 (.slice (some ⟨W.heap.size, 0, none⟩) 1 1)).run Tryz.prog (W.alloc (.cells #[.int .u8 13] t)) = .ok (.string ⟨#[13]⟩) (W.alloc (.cells #[.int .u8 13] t)) := fun W t => conv_one W t 13
   go_enter Tryz.func46, Tryz.ntmps46
   go_wp2
   go_ret
   exact ⟨rfl, Below.refl _ _⟩
 by_cases h34 : c = 34
 ·subst h34
  cases at_ with
  | true =>
   as_aux_lemma =>
   go_enter Tryz.func46, Tryz.ntmps46
   go_wp2
   go_ret
   exact ⟨rfl, Below.refl _ _⟩
  | false =>
   as_aux_lemma =>
   have hcv2 : ∀ (W : World) (t : TypeId), (convert 62 9 (.slice (some ⟨W.heap.size, 0, none⟩) 1 1)).run Tryz.prog (W.alloc (.cells #[.int .u8 34] t)) = .ok (.string ⟨#[34]⟩) (W.alloc (.cells #[.int .u8 34] t)) := fun W t => conv_one W t 34
   go_enter Tryz.func46, Tryz.ntmps46
   go_wp2
   go_ret
   exact ⟨rfl, (Below.refl _ w).alloc (Nat.le_refl _) _⟩
 by_cases h9 : c = 9
 ·subst h9
  cases at_ with
  | true =>
   as_aux_lemma =>
   go_enter Tryz.func46, Tryz.ntmps46
   go_wp2
   go_ret
   exact ⟨rfl, Below.refl _ _⟩
  | false =>
   as_aux_lemma =>
   have hcv2 : ∀ (W : World) (t : TypeId), (convert 62 9 (.slice (some ⟨W.heap.size, 0, none⟩) 1 1)).run Tryz.prog (W.alloc (.cells #[.int .u8 9] t)) = .ok (.string ⟨#[9]⟩) (W.alloc (.cells #[.int .u8 9] t)) := fun W t => conv_one W t 9
   go_enter Tryz.func46, Tryz.ntmps46
   go_wp2
   go_ret
   exact ⟨rfl, (Below.refl _ w).alloc (Nat.le_refl _) _⟩
 by_cases h10 : c = 10
 ·subst h10
  cases at_ with
  | true =>
   as_aux_lemma =>
   go_enter Tryz.func46, Tryz.ntmps46
   go_wp2
   go_ret
   exact ⟨rfl, Below.refl _ _⟩
  | false =>
   as_aux_lemma =>
   have hcv2 : ∀ (W : World) (t : TypeId), (convert 62 9 (.slice (some ⟨W.heap.size, 0, none⟩) 1 1)).run Tryz.prog (W.alloc (.cells #[.int .u8 10] t)) = .ok (.string ⟨#[10]⟩) (W.alloc (.cells #[.int .u8 10] t)) := fun W t => conv_one W t 10
   go_enter Tryz.func46, Tryz.ntmps46
   go_wp2
   go_ret
   exact ⟨rfl, (Below.refl _ w).alloc (Nat.le_refl _) _⟩
 have hE : escC at_ c = [c] := by
  unfold escC
  simp [h38, h60, h62, h13, h34, h9, h10]
 have q38 : ((c.toNat : Int) == 38) = false := ne13 h38
 have q60 : ((c.toNat : Int) == 60) = false := ne13 h60
 have q62 : ((c.toNat : Int) == 62) = false := ne13 h62
 have q13 : ((c.toNat : Int) == 13) = false := ne13 h13
 have q34 : ((c.toNat : Int) == 34) = false := ne13 h34
 have q9 : ((c.toNat : Int) == 9) = false := ne13 h9
 have q10 : ((c.toNat : Int) == 10) = false := ne13 h10
 have HE := Lib.hid hE
 clear hE h38 h60 h62 h13 h34 h9 h10
 cases at_ with
 | true =>
  as_aux_lemma =>
  go_enter Tryz.func46, Tryz.ntmps46
  go_wp2
  go_ret
  exact ⟨by rw [HE.out]; rfl, (Below.refl _ w).alloc (Nat.le_refl _) _⟩
 | false =>
  as_aux_lemma =>
  go_enter Tryz.func46, Tryz.ntmps46
  go_wp2
  go_ret
  exact ⟨by rw [HE.out]; rfl, (Below.refl _ w).alloc (Nat.le_refl _) _⟩

/-- What Escape answers. -/
def escV (at_ : Bool) (s : ByteArray) : Value := match chars s.data.toList with
 | some _ => .tuple #[.string ⟨(escT at_ s.data.toList).toArray⟩, .int .i64 0]
 | none => .tuple #[.string ⟨#[]⟩, .int .i64 2]
theorem escV_some {at_ : Bool} {s : ByteArray} {cs : List Nat} (h : chars s.data.toList = some cs) : escV at_ s = .tuple #[.string ⟨(escT at_ s.data.toList).toArray⟩, .int .i64 0] := by unfold escV; rw [h]
theorem escV_none {at_ : Bool} {s : ByteArray} (h : chars s.data.toList = none) : escV at_ s = .tuple #[.string ⟨#[]⟩, .int .i64 2] := by unfold escV; rw [h]
theorem escT_take {at_ : Bool} {l : List UInt8} {k : Nat} {c : UInt8} (h : l[k]? = some c) : escT at_ (l.take (k + 1)) = escT at_ (l.take k) ++ escC at_ c := by
 rw [escT_map, escT_map, List.take_add_one, h]
 simp
theorem escC_len (at_ : Bool) (c : UInt8) : (escC at_ c).length ≤ 6 := by
 unfold escC
 repeat' split
 all_goals simp

set_option maxHeartbeats 8000000 in
theorem rescape_any (s : ByteArray) (at_ : Bool) (w : World) (hs : s.size ≤ 1073741824) :
  Calls Tryz.prog 31 #[.string s, .bool at_] w fun e w' => e = .returned (escV at_ s) ∧ Below w.heap.size w w' := by
 have HC := Lib.hid (rValid_any s w (by omega))
 cases hc : chars s.data.toList with
 | none =>
  have HT := Lib.hid (text_of_none hc)
  have HV := Lib.hid (escV_none (at_ := at_) hc)
  clear hc
  go_enter Tryz.func31, Tryz.ntmps31
  go_wp2_with fail
  refine HC.out.mono ?_
  rintro e w1 ⟨rfl, hb⟩
  rw [HT.out]
  go_wp2_with fail
  go_ret2
  exact ⟨(congrArg Ending.returned HV.out).symm, hb⟩
 | some cs =>
  have HT := Lib.hid (text_of_some hc)
  have HV := Lib.hid (escV_some (at_ := at_) hc)
  have HEs := Lib.hid (fun c W => resc_any c at_ W)
  clear hc
  go_enter Tryz.func31, Tryz.ntmps31
  go_wp2_with fail
  refine HC.out.mono ?_
  rintro e w1 ⟨rfl, hb⟩
  rw [HT.out]
  have HB1 := Lib.hid hb
  have HM := Lib.hid ((Mem.start w1).row0 5 1)
  clear hb HC
  go_wp2_with fail
  go_loopw [6, 7] (fun ov iv wr => ∃ (k : Nat) (o : List UInt8) (p : Option Addr) (cap : Nat), ov = .slice p o.length cap ∧ iv = .int .i64 k ∧ k ≤ s.size ∧ o.length ≤ 6 * k ∧ Hid (o = escT at_ (s.data.toList.take k)) ∧ Hid (Mem w1 wr [.row p cap 5 1 o.length (bC o)])) (fun _ iv _ => s.size - (intOf iv).toNat)
  case atStart => exact ⟨0, [], none, 0, rfl, rfl, by omega, by simp, Lib.hid (by cases at_ <;> rfl), HM⟩
  case round =>
   clear HM
   obtain ⟨k, o, p, cap, rfl, rfl, hk, hol, HO, HM⟩ := hrel
   by_cases hlt : k < s.size
   ·as_aux_lemma =>
    have HAt := Lib.hid (at_byte3 hlt)
    have HO2 := Lib.hid (escT_take (at_ := at_) (at_byte3 hlt))
    have hel := escC_len at_ s[k]
    generalize s[k] = c at *
    have hel2 : (⟨(escC at_ c).toArray⟩ : ByteArray).size = (escC at_ c).length := mk_size _
    obtain ⟨E, hE⟩ : ∃ E : ByteArray, (⟨(escC at_ c).toArray⟩ : ByteArray) = E := ⟨_, rfl⟩
    have HEl := Lib.hid (show E.data.toList = escC at_ c by rw [← hE])
    have HEs2 := Lib.hid (fun W => by have := HEs.out c W; rw [hE] at this; exact this)
    rw [hE] at hel2
    clear hE
    go_wp2_with (first | ((with_reducible refine iat 20 ?_); (refine six rfl rfl rfl HAt.out ?_)) | (go_at_call 46; (refine (HEs2.out _).mono ?_); rintro e w2 ⟨rfl, hb⟩; have HM1 := HM.out.next hb; clear hb HM; have HM := Lib.hid HM1; clear HM1) | ((with_reducible refine iat 23 ?_); (refine aps rfl (by kernel_rfl) HM.out 0 rfl rfl rfl (by omega) ?_; intro p1 cap1 W1 HM1; replace HM := Lib.hid HM1; clear HM1; simp only [List.set] at HM)))
    go_roundw
    case rel => exact ⟨k + 1, o ++ E.data.toList, p1, cap1, by rw [List.length_append, size_list], by go_num, by omega, by rw [List.length_append, size_list]; omega, Lib.hid (by rw [HO2.out, HEl.out, HO.out]), Lib.hid (by rw [List.length_append, size_list, bC_append]; exact HM.out)⟩
    case measure => simp [intOf]; omega
   ·have HN := Lib.hid (show escT at_ s.data.toList = o by rw [HO.out, List.take_of_length_le (by rw [size_list]; omega)])
    as_aux_lemma =>
    go_wp2_with (first | ((with_reducible refine iat 25 ?_); (refine cvr (l := o) (by kernel_rfl) (by kernel_rfl) (by kernel_rfl) rfl rfl (HM.out.get (k := 0) rfl) ?_)))
    go_ret2
    exact ⟨by rw [HV.out, HN.out]; rfl, HB1.out.trans (HM.out.below.mono HB1.out.size)⟩
end Go.Proofs.YtanncakdlflopaaGreatDoor

namespace Go.Proofs.YtanncakdlflopaaGreatDoor
open Go.RowKit
set_option linter.unusedVariables false
set_option linter.unusedSimpArgs false
set_option maxRecDepth 100000

end Go.Proofs.YtanncakdlflopaaGreatDoor
