/- More on unes, plain: what holds a < means nothing; lengths. The walk over Unescape. (short) -/
import Derived.Test.YtanncakdlflopaaGreatDoorNumA
import Derived.Test.YtanncakdlflopaaGreatDoorMeantB
import Derived.Test.YtanncakdlflopaaGreatDoorBldAt
import Derived.Test.YtanncakdlflopaaGreatDoorByteBR
import Derived.Test.YtanncakdlflopaaGreatDoorReplA
namespace Go.Proofs.YtanncakdlflopaaGreatDoor
set_option linter.unusedVariables false
set_option maxRecDepth 100000

theorem numL_has {b : Nat} {l v : List UInt8} (h : numL b l = some v) : l ≠ [] ∧ v.length ≤ 4 ∧ ∀ x ∈ l, digV x ≠ none := by
 refine ⟨fun e => ?_, ?_, fun x hx e => ?_⟩
 ·subst e; simp [numL] at h
 ·unfold numL at h
  by_cases h0 : l = []
  ·rw [if_pos h0] at h; cases h
  rw [if_neg h0] at h
  cases hv : valL b 0 l with
  | none => rw [hv] at h; simp at h
  | some n =>
   rw [hv] at h
   simp only at h
   by_cases hc : charB n = true
   ·rw [if_pos hc] at h
    obtain rfl := Option.some.inj h
    rcases encL_cases n (charB_lt hc) with ⟨_, e⟩ | ⟨_, _, e⟩ | ⟨_, _, e⟩ | ⟨_, e⟩ <;> rw [e] <;> simp
   ·rw [if_neg hc] at h; cases h
 ·rw [numL_not e hx] at h; cases h
theorem mean_has {r v : List UInt8} (h : meanL r = some v) : v.length ≤ r.length + 2 ∧ 60 ∉ r ∧ 38 ∉ r := by
 unfold meanL at h
 split at h
 ·rename_i e; subst e; obtain rfl := Option.some.inj h; decide
 split at h
 ·rename_i e; subst e; obtain rfl := Option.some.inj h; decide
 split at h
 ·rename_i e; subst e; obtain rfl := Option.some.inj h; decide
 split at h
 ·rename_i e; subst e; obtain rfl := Option.some.inj h; decide
 split at h
 ·rename_i e; subst e; obtain rfl := Option.some.inj h; decide
 split at h
 ·rename_i h35
  cases r with
  | nil => simp at h35
  | cons a r =>
   obtain rfl : a = 35 := by simpa using h35
   split at h
   ·rename_i h120
    cases r with
    | nil => simp at h120
    | cons a r =>
     obtain rfl : a = 120 := by simpa using h120
     have h' : numL 16 r = some v := by simpa using h
     obtain ⟨h1, h2, h3⟩ := numL_has h'
     refine ⟨by simp; omega, fun hm => ?_, fun hm => ?_⟩
     ·simp at hm; exact h3 60 hm (by decide)
     ·simp at hm; exact h3 38 hm (by decide)
   ·have h' : numL 10 r = some v := by simpa using h
    obtain ⟨h1, h2, h3⟩ := numL_has h'
    have : 1 ≤ r.length := List.length_pos_iff.2 h1
    refine ⟨by simp; omega, fun hm => ?_, fun hm => ?_⟩
    ·simp at hm; exact h3 60 hm (by decide)
    ·simp at hm; exact h3 38 hm (by decide)
 ·cases h
theorem unes_mem : ∀ (k : Nat) (l : List UInt8), l.length ≤ k → 60 ∈ l → unes l = none
 | 0, l, hk, h => by
  have : l = [] := List.eq_nil_of_length_eq_zero (by omega)
  subst this; simp at h
 | k + 1, [], _, h => by simp at h
 | k + 1, c :: r, hk, h => by
  have hr : r.length ≤ k := by simpa using hk
  by_cases h60 : c = 60
  ·subst h60; exact unes_lt r
  have hm : 60 ∈ r := by
   rcases List.mem_cons.1 h with e | h
   ·exact absurd e.symm h60
   ·exact h
  by_cases h38 : c = 38
  ·subst h38
   cases hc : cutL 59 r with
   | none => exact unes_open hc
   | some p =>
    obtain ⟨m, t⟩ := p
    rw [unes_amp hc]
    cases hv : meanL m with
    | none => rfl
    | some v =>
     obtain ⟨e, _⟩ := cutL_some hc
     have ht : 60 ∈ t := by
      rw [e] at hm
      rcases List.mem_append.1 hm with h | h
      ·exact absurd h (mean_has hv).2.1
      ·rcases List.mem_cons.1 h with h | h
       ·exact absurd h (by decide)
       ·exact h
     have := cutL_len hc
     simp only
     rw [unes_mem k t (by omega) ht]; rfl
  ·rw [unes_other h60 h38, unes_mem k r hr hm]; rfl
/-- Does a text hold a byte? -/
theorem has_cut (c : UInt8) (l : List UInt8) : decide (0 ≤ Lib.indexByte l c) = (cutL c l).isSome := by
 rw [idx_cut]
 cases cutL c l with
 | none => rfl
 | some p => exact decide_eq_true (by simp only; omega)
theorem has_some {c : UInt8} {l : List UInt8} (h : (cutL c l).isSome = true) : c ∈ l := by
 obtain ⟨p, hp⟩ := Option.isSome_iff_exists.1 h
 obtain ⟨e, _⟩ := cutL_some (m := p.1) (t := p.2) hp
 rw [e]; simp
theorem plainL_len (at_ : Bool) (l : List UInt8) : (plainL at_ l).length ≤ l.length := by
 have := nlL_len l
 unfold plainL
 cases at_ <;> simp <;> omega
/-- A round of Unescape. -/
theorem unes_last {S : List UInt8} (h60 : 60 ∉ S) (h : cutL 38 S = none) : unes S = some S := by
 have := unes_app h60 (cutL_none h) []
 rw [List.append_nil, unes_nil] at this
 simpa using this
theorem unes_cut {S m r : List UInt8} (h60 : 60 ∉ S) (h : cutL 38 S = some (m, r)) : unes S = (unes (38 :: r)).map (m ++ ·) := by
 obtain ⟨e, h38⟩ := cutL_some h
 have hm : 60 ∉ m := fun hm => h60 (by rw [e]; simp [hm])
 rw [e, unes_app hm h38]
theorem unes_more {S m r x t v : List UInt8} (h60 : 60 ∉ S) (h : cutL 38 S = some (m, r)) (h2 : cutL 59 r = some (x, t)) (hv : meanL x = some v) : unes S = (unes t).map (m ++ v ++ ·) ∧ 60 ∉ t ∧ m.length + v.length + t.length ≤ S.length ∧ t.length < S.length := by
 obtain ⟨e, h38⟩ := cutL_some h
 obtain ⟨e2, h59⟩ := cutL_some h2
 refine ⟨?_, fun ht => h60 (by rw [e, e2]; simp [ht]), ?_⟩
 ·rw [unes_cut h60 h, unes_amp h2, hv]
  simp only
  rw [Option.map_map]
  congr 1
  funext z
  simp
 ·have := (mean_has hv).1
  rw [e, e2]
  simp
  omega
theorem unes_bad1 {S m r : List UInt8} (h60 : 60 ∉ S) (h : cutL 38 S = some (m, r)) (h2 : cutL 59 r = none) : unes S = none := by
 rw [unes_cut h60 h, unes_open h2]; rfl
theorem unes_bad2 {S m r x t : List UInt8} (h60 : 60 ∉ S) (h : cutL 38 S = some (m, r)) (h2 : cutL 59 r = some (x, t)) (hv : meanL x = none) : unes S = none := by
 rw [unes_cut h60 h, unes_amp h2, hv]; rfl
end Go.Proofs.YtanncakdlflopaaGreatDoor

namespace Go.Proofs.YtanncakdlflopaaGreatDoor
open Go.RowKit
set_option linter.unusedVariables false
set_option linter.unusedSimpArgs false
set_option maxRecDepth 100000

/-- What Unescape answers. -/
def unescV (at_ : Bool) (s : ByteArray) : Value := match chars s.data.toList with
 | none => .tuple #[.string ⟨#[]⟩, .int .i64 2]
 | some _ => match unes (plainL at_ s.data.toList) with
  | some r => .tuple #[.string ⟨r.toArray⟩, .int .i64 0]
  | none => .tuple #[.string ⟨#[]⟩, .int .i64 5]
theorem unescV_no {at_ : Bool} {s : ByteArray} (h : chars s.data.toList = none) : unescV at_ s = .tuple #[.string ⟨#[]⟩, .int .i64 2] := by unfold unescV; rw [h]
theorem unescV_bad {at_ : Bool} {s : ByteArray} {cs : List Nat} (h : chars s.data.toList = some cs) (h2 : unes (plainL at_ s.data.toList) = none) : unescV at_ s = .tuple #[.string ⟨#[]⟩, .int .i64 5] := by unfold unescV; rw [h]; simp only; rw [h2]
theorem unescV_ok {at_ : Bool} {s : ByteArray} {cs : List Nat} {r : List UInt8} (h : chars s.data.toList = some cs) (h2 : unes (plainL at_ s.data.toList) = some r) : unescV at_ s = .tuple #[.string ⟨r.toArray⟩, .int .i64 0] := by unfold unescV; rw [h]; simp only; rw [h2]
theorem crL_one : ∀ u ∈ crL, u.oneCell' = true := by intro u hu; simp [crL] at hu; rcases hu with rfl | rfl | rfl | rfl <;> rfl
theorem spL_one : ∀ u ∈ spL, u.oneCell' = true := by intro u hu; simp [spL] at hu; rcases hu with rfl | rfl | rfl | rfl <;> rfl
def strSz : Value → Nat
 | .string s => s.size
 | _ => 0
theorem BldAt.next {w0 W W' : World} {b : Nat} {out : List UInt8} {L : List Res} (h : BldAt w0 W b out L) (hb : Below W.heap.size W W') : BldAt w0 W' b out L := by
 obtain ⟨pv, p, cap, h1, h2, h3⟩ := h
 exact ⟨pv, p, cap, h1, h2, h3.next hb⟩
theorem BldAt.below {w0 W : World} {b : Nat} {out : List UInt8} {L : List Res} (h : BldAt w0 W b out L) : Below w0.heap.size w0 W := by
 obtain ⟨pv, p, cap, h1, h2, h3⟩ := h
 exact h3.below
theorem cut_no (s : ByteArray) (c : UInt8) (W : World) (hs : s.size ≤ 1099511627776) (h : cutL c s.data.toList = none) :
  Calls Tryz.prog 116 #[.string s, .string ⟨#[c]⟩] W fun e w' => e = .returned (.tuple #[.string s, .string ⟨#[]⟩, .bool false]) ∧ Below W.heap.size W w' := by
 have := cut_any s c W hs
 rw [cutV_none h] at this
 exact this
theorem cut_at (s A B : ByteArray) (c : UInt8) (W : World) (hs : s.size ≤ 1099511627776) (h : cutL c s.data.toList = some (A.data.toList, B.data.toList)) :
  Calls Tryz.prog 116 #[.string s, .string ⟨#[c]⟩] W fun e w' => e = .returned (.tuple #[.string A, .string B, .bool true]) ∧ Below W.heap.size W w' := by
 have := cut_any s c W hs
 rw [cutV_some h] at this
 exact this
theorem cut_split {c : UInt8} {l m t : List UInt8} (h : cutL c l = some (m, t)) : ∃ A B : ByteArray, A.data.toList = m ∧ B.data.toList = t := ⟨⟨m.toArray⟩, ⟨t.toArray⟩, rfl, rfl⟩
theorem meant_no (s : ByteArray) (W : World) (hs : s.size ≤ 1099511627776) (hE : ErrsAt W) (h : meanL s.data.toList = none) :
  Calls Tryz.prog 117 #[.string s] W fun e w' => e = .returned (.tuple #[.string ⟨#[]⟩, .bool false]) ∧ Below W.heap.size W w' := by
 have := meant_any s W hs hE
 rw [meanV_none h] at this
 exact this
theorem meant_ok (s V : ByteArray) (W : World) (hs : s.size ≤ 1099511627776) (hE : ErrsAt W) (h : meanL s.data.toList = some V.data.toList) :
  Calls Tryz.prog 117 #[.string s] W fun e w' => e = .returned (.tuple #[.string V, .bool true]) ∧ Below W.heap.size W w' := by
 have := meant_any s W hs hE
 rw [meanV_some h] at this
 exact this
/-- meant, whatever comes of it. -/
theorem meant_some (s : ByteArray) (W : World) (hs : s.size ≤ 1099511627776) (hE : ErrsAt W) :
  Calls Tryz.prog 117 #[.string s] W fun e w' => (∃ V b, e = .returned (.tuple #[.string V, .bool b])) ∧ Below W.heap.size W w' := by
 cases hm : meanL s.data.toList with
 | none => exact (meant_no s W hs hE hm).mono fun e w' ⟨h1, h2⟩ => ⟨⟨_, _, h1⟩, h2⟩
 | some v => exact (meant_ok s ⟨v.toArray⟩ W hs hE hm).mono fun e w' ⟨h1, h2⟩ => ⟨⟨_, _, h1⟩, h2⟩

set_option maxHeartbeats 4000000 in
theorem unescape_no (s : ByteArray) (at_ : Bool) (w : World) (hT : U8 w) (hs : s.size ≤ 1073741824) (hc : chars s.data.toList = none) :
  Calls Tryz.prog 98 #[.string s, .bool at_] w fun e w' => e = .returned (unescV at_ s) ∧ Below w.heap.size w w' := by
 have HC := Lib.hid (valid_any s w (by omega) hT)
 have HT := Lib.hid (text_of_none hc)
 have HV := Lib.hid (unescV_no (at_ := at_) hc)
 clear hc
 go_enter Tryz.func98, Tryz.ntmps98
 go_wp2_with fail
 refine HC.out.mono ?_
 rintro e w1 ⟨rfl, hb⟩
 rw [HT.out]
 go_wp2_with fail
 go_ret2
 exact ⟨(congrArg Ending.returned HV.out).symm, hb⟩

set_option maxHeartbeats 16000000 in
theorem unescape_false (s : ByteArray) (w : World) (hT : U8 w) (hE : ErrsAt w) (hs : s.size ≤ 1073741824) {cs : List Nat} (hc : chars s.data.toList = some cs) :
  Calls Tryz.prog 98 #[.string s, .bool false] w fun e w' => e = .returned (unescV false s) ∧ Below w.heap.size w w' := by
 have HC := Lib.hid (valid_any s w (by omega) hT)
 have HT := Lib.hid (text_of_some hc)
 have HE := Lib.hid hE
 have HBad := Lib.hid (unescV_bad (at_ := false) hc)
 have HOk := Lib.hid (fun r => unescV_ok (at_ := false) (r := r) hc)
 have Hss := Lib.hid (show s.size ≤ 1099511627776 by omega)
 obtain ⟨A, hA⟩ : ∃ A : ByteArray, (⟨(nlL s.data.toList).toArray⟩ : ByteArray) = A := ⟨_, rfl⟩
 have hAl : A.data.toList = nlL s.data.toList := by rw [← hA]
 have HAs := Lib.hid (show A.size ≤ 1099511627776 by have h1 := nlL_len s.data.toList; rw [← hAl, size_list, size_list] at h1; omega)
 obtain ⟨P, hP⟩ : ∃ P : ByteArray, (⟨(plainL false s.data.toList).toArray⟩ : ByteArray) = P := ⟨_, rfl⟩
 have hPl : P.data.toList = plainL false s.data.toList := by rw [← hP]
 have HPs := Lib.hid (show P.size ≤ 1099511627776 by have h1 := plainL_len false s.data.toList; rw [← hPl, size_list, size_list] at h1; omega)
 rw [← hPl] at HBad HOk
 have HA := Lib.hid hA
 have HPA := Lib.hid (show A = P by rw [← hA, ← hP]; rfl)
 clear hc hE hA hP hPl hAl hT
 go_enter Tryz.func98, Tryz.ntmps98
 go_wp2_with fail
 refine HC.out.mono ?_
 rintro e w1 ⟨rfl, hb⟩
 have HB1 := Lib.hid hb
 rw [HT.out]
 clear hb HC
 go_wp2_with fail
 refine (new_any w1.heap.size 4 crL _ rfl (by decide) (by omega) (by decide) (fun j u hu => cells_new w1 _ _ j u hu) crL_one).mono ?_
 rintro e w_ ⟨b, rfl, hnew, hb2⟩
 obtain ⟨g, cap, hbk, hgb, hcells, hBb⟩ := new_parts hnew (by decide)
 have HRp := Lib.hid (nlrep_any b g cap (.int .u32 0) s w_ hgb hbk hcells (by have := Hss.out; omega))
 have HB2 := Lib.hid (Below.trans (((HB1.out).alloc HB1.out.size (.cells #[.string ⟨#[13, 10]⟩, .string ⟨#[10]⟩, .string ⟨#[13]⟩, .string ⟨#[10]⟩] 9)).trans (hb2.mono ((HB1.out).alloc HB1.out.size (.cells #[.string ⟨#[13, 10]⟩, .string ⟨#[10]⟩, .string ⟨#[13]⟩, .string ⟨#[10]⟩] 9)).size)) (Below.refl _ _))
 have HBb := Lib.hid (Nat.le_trans ((HB1.out).alloc HB1.out.size (.cells #[.string ⟨#[13, 10]⟩, .string ⟨#[10]⟩, .string ⟨#[13]⟩, .string ⟨#[10]⟩] 9)).size hBb)
 clear hnew hbk hgb hcells hBb hb2 HB1
 go_wp2_with fail
 refine HRp.out.mono ?_
 rintro e w3 ⟨rfl, hb3⟩
 have HB1 := Lib.hid (HB2.out.trans (hb3.mono HBb.out))
 clear hb3 HB2 HBb HRp
 rw [HA.out]
 rw [HPA.out]
 have HCon := Lib.hid (fun W => Tryz.strings_Contains_one P 60 W)
 rw [has_cut] at HCon
 clear HA HPA HAs
 cases h60 : (cutL 60 P.data.toList).isSome with
 | true =>
  have HV := Lib.hid (HBad.out (unes_mem _ _ (Nat.le_refl _) (has_some h60)))
  rw [h60] at HCon
  clear h60 HBad HOk HE
  go_wp2_with fail
  refine (HCon.out _).mono ?_
  rintro e w6 ⟨rfl, rfl⟩
  go_wp2_with fail
  go_ret2
  exact ⟨congrArg Ending.returned HV.out.symm, HB1.out⟩
 | false =>
  have h0 : 60 ∉ P.data.toList := by
   cases hq : cutL 60 P.data.toList with
   | none => exact cutL_none hq
   | some p => rw [hq] at h60; cases h60
  rw [h60] at HCon
  clear h60
  have HM := Lib.hid (Mem.start w3)
  have HE5 := Lib.hid (HE.out.below HB1.out)
  clear HE
  go_wp2_with (first | (go_at_call 115; (refine (HCon.out _).mono ?_); rintro e w6 ⟨rfl, rfl⟩) | ((with_reducible refine skip_op ?_ ?_); exact rfl) | (refine mL ?_; clear HM; intro g1 W1 HM) | (refine hal (dst := some 6) HM rfl ?_; clear HM; intro g6 W1 HM))
  have HBd := Lib.hid (BldAt.start HM.out)
  clear HM
  go_loopw [0] (fun sv wr => ∃ (S : ByteArray) (o : List UInt8), sv = .string S ∧ o.length + S.size ≤ P.size ∧ Hid (60 ∉ S.data.toList ∧ unes P.data.toList = (unes S.data.toList).map (o ++ ·)) ∧ Hid (BldAt w6 wr g6 o [])) (fun sv _ => strSz sv)
  case atStart => exact ⟨P, [], rfl, by simp, Lib.hid ⟨h0, by simp⟩, HBd⟩
  case round =>
   clear HBd h0
   obtain ⟨S, o, rfl, hlen, HH, HBd⟩ := hrel
   obtain ⟨h60, hu⟩ := HH.out
   clear HH
   have HPs' := HPs.out
   cases h38 : cutL 38 S.data.toList with
   | none =>
    as_aux_lemma =>
    have HV := Lib.hid (HOk.out (o ++ S.data.toList) (by rw [hu, unes_last h60 h38]; rfl))
    have HCut := Lib.hid (fun W => cut_no S 38 W (by omega) h38)
    clear h38 hu h60
    go_wp2_with fail
    refine (HCut.out _).mono ?_
    rintro e wa ⟨rfl, hb⟩
    have HBd1 := Lib.hid (HBd.out.next hb)
    clear hb HBd
    go_wp2_with fail
    refine (bw_at HBd1.out S (by omega)).mono ?_
    rintro e wb ⟨rfl, hb⟩
    have HBd := Lib.hid hb
    clear hb HBd1
    go_wp2_with fail
    refine (bs_at HBd.out).mono ?_
    rintro e wc ⟨rfl, hM⟩
    have HM := Lib.hid hM
    clear hM HBd
    go_wp2_with fail
    go_ret2
    exact ⟨congrArg Ending.returned HV.out.symm, HB1.out.trans (HM.out.below.mono HB1.out.size)⟩
   | some p =>
    obtain ⟨m, r⟩ := p
    obtain ⟨M, R, rfl, rfl⟩ := cut_split h38
    have HCut := Lib.hid (fun W => cut_at S M R 38 W (by omega) h38)
    have hms : M.size + R.size < S.size := by
     obtain ⟨e, _⟩ := cutL_some h38
     have := congrArg List.length e
     simp at this
     omega
    cases h59 : cutL 59 R.data.toList with
    | none =>
     as_aux_lemma =>
     have HV := Lib.hid (HBad.out (by rw [hu, unes_bad1 h60 h38 h59]; rfl))
     have HCut2 := Lib.hid (fun W => cut_no R 59 W (by omega) h59)
     clear h38 h59 hu h60
     go_wp2_with fail
     refine (HCut.out _).mono ?_
     rintro e wa ⟨rfl, hb⟩
     have HBd1 := Lib.hid (HBd.out.next hb)
     clear hb HBd
     go_wp2_with fail
     refine (bw_at HBd1.out M (by omega)).mono ?_
     rintro e wb ⟨rfl, hb⟩
     have HBd := Lib.hid hb
     clear hb HBd1
     go_wp2_with fail
     refine (HCut2.out _).mono ?_
     rintro e wc ⟨rfl, hb⟩
     have HBd1 := Lib.hid (HBd.out.next hb)
     clear hb HBd
     go_wp2_with fail
     refine (meant_some R _ (by omega) (HE5.out.below HBd1.out.below)).mono ?_
     rintro e wd ⟨⟨V, b, rfl⟩, hb⟩
     have HBd := Lib.hid (HBd1.out.next hb)
     clear hb HBd1
     go_wp2_with fail
     go_ret2
     exact ⟨congrArg Ending.returned HV.out.symm, HB1.out.trans (HBd.out.below.mono HB1.out.size)⟩
    | some q =>
     obtain ⟨x, t⟩ := q
     obtain ⟨X, T, rfl, rfl⟩ := cut_split h59
     have HCut2 := Lib.hid (fun W => cut_at R X T 59 W (by omega) h59)
     have hxs : X.size + T.size < R.size := by
      obtain ⟨e, _⟩ := cutL_some h59
      have := congrArg List.length e
      simp at this
      omega
     cases hv : meanL X.data.toList with
     | none =>
      as_aux_lemma =>
      have HV := Lib.hid (HBad.out (by rw [hu, unes_bad2 h60 h38 h59 hv]; rfl))
      have HMn := Lib.hid (fun W h => meant_no X W (by omega) h hv)
      clear h38 h59 hu h60 hv
      go_wp2_with fail
      refine (HCut.out _).mono ?_
      rintro e wa ⟨rfl, hb⟩
      have HBd1 := Lib.hid (HBd.out.next hb)
      clear hb HBd
      go_wp2_with fail
      refine (bw_at HBd1.out M (by omega)).mono ?_
      rintro e wb ⟨rfl, hb⟩
      have HBd := Lib.hid hb
      clear hb HBd1
      go_wp2_with fail
      refine (HCut2.out _).mono ?_
      rintro e wc ⟨rfl, hb⟩
      have HBd1 := Lib.hid (HBd.out.next hb)
      clear hb HBd
      go_wp2_with fail
      refine (HMn.out _ (HE5.out.below HBd1.out.below)).mono ?_
      rintro e wd ⟨rfl, hb⟩
      have HBd := Lib.hid (HBd1.out.next hb)
      clear hb HBd1
      go_wp2_with fail
      go_ret2
      exact ⟨congrArg Ending.returned HV.out.symm, HB1.out.trans (HBd.out.below.mono HB1.out.size)⟩
     | some v =>
      as_aux_lemma =>
      obtain ⟨V, rfl⟩ : ∃ V : ByteArray, V.data.toList = v := ⟨⟨v.toArray⟩, rfl⟩
      obtain ⟨h1, h2, h3, h4⟩ := unes_more h60 h38 h59 hv
      rw [size_list, size_list, size_list, size_list] at h3
      rw [size_list, size_list] at h4
      have HMn := Lib.hid (fun W h => meant_ok X V W (by omega) h hv)
      have HN := Lib.hid (show 60 ∉ T.data.toList ∧ unes P.data.toList = (unes T.data.toList).map ((o ++ M.data.toList ++ V.data.toList) ++ ·) from ⟨h2, by rw [hu, h1, Option.map_map]; congr 1; funext z; simp⟩)
      clear h38 h59 hu h60 hv h1 h2
      go_wp2_with fail
      refine (HCut.out _).mono ?_
      rintro e wa ⟨rfl, hb⟩
      have HBd1 := Lib.hid (HBd.out.next hb)
      clear hb HBd
      go_wp2_with fail
      refine (bw_at HBd1.out M (by omega)).mono ?_
      rintro e wb ⟨rfl, hb⟩
      have HBd := Lib.hid hb
      clear hb HBd1
      go_wp2_with fail
      refine (HCut2.out _).mono ?_
      rintro e wc ⟨rfl, hb⟩
      have HBd1 := Lib.hid (HBd.out.next hb)
      clear hb HBd
      go_wp2_with fail
      refine (HMn.out _ (HE5.out.below HBd1.out.below)).mono ?_
      rintro e wd ⟨rfl, hb⟩
      have HBd := Lib.hid (HBd1.out.next hb)
      clear hb HBd1
      go_wp2_with fail
      refine (bw_at HBd.out V (by rw [List.length_append, size_list]; omega)).mono ?_
      rintro e we ⟨rfl, hb⟩
      have HBd1 := Lib.hid hb
      clear hb HBd
      go_wp2_with fail
      go_roundw
      case rel => exact ⟨T, o ++ M.data.toList ++ V.data.toList, rfl, by rw [List.length_append, List.length_append, size_list, size_list]; omega, HN, HBd1⟩
      case measure => simp [strSz]; omega

set_option maxHeartbeats 16000000 in
theorem unescape_true (s : ByteArray) (w : World) (hT : U8 w) (hE : ErrsAt w) (hs : s.size ≤ 1073741824) {cs : List Nat} (hc : chars s.data.toList = some cs) :
  Calls Tryz.prog 98 #[.string s, .bool true] w fun e w' => e = .returned (unescV true s) ∧ Below w.heap.size w w' := by
 have HC := Lib.hid (valid_any s w (by omega) hT)
 have HT := Lib.hid (text_of_some hc)
 have HE := Lib.hid hE
 have HBad := Lib.hid (unescV_bad (at_ := true) hc)
 have HOk := Lib.hid (fun r => unescV_ok (at_ := true) (r := r) hc)
 have Hss := Lib.hid (show s.size ≤ 1099511627776 by omega)
 obtain ⟨A, hA⟩ : ∃ A : ByteArray, (⟨(nlL s.data.toList).toArray⟩ : ByteArray) = A := ⟨_, rfl⟩
 have hAl : A.data.toList = nlL s.data.toList := by rw [← hA]
 have HAs := Lib.hid (show A.size ≤ 1099511627776 by have h1 := nlL_len s.data.toList; rw [← hAl, size_list, size_list] at h1; omega)
 obtain ⟨P, hP⟩ : ∃ P : ByteArray, (⟨(plainL true s.data.toList).toArray⟩ : ByteArray) = P := ⟨_, rfl⟩
 have hPl : P.data.toList = plainL true s.data.toList := by rw [← hP]
 have HPs := Lib.hid (show P.size ≤ 1099511627776 by have h1 := plainL_len true s.data.toList; rw [← hPl, size_list, size_list] at h1; omega)
 rw [← hPl] at HBad HOk
 have HA := Lib.hid hA
 have HPA := Lib.hid (show (⟨(A.data.toList.map spB).toArray⟩ : ByteArray) = P by rw [hAl, ← hP]; rfl)
 clear hc hE hA hP hPl hAl hT
 go_enter Tryz.func98, Tryz.ntmps98
 go_wp2_with fail
 refine HC.out.mono ?_
 rintro e w1 ⟨rfl, hb⟩
 have HB1 := Lib.hid hb
 rw [HT.out]
 clear hb HC
 go_wp2_with fail
 refine (new_any w1.heap.size 4 crL _ rfl (by decide) (by omega) (by decide) (fun j u hu => cells_new w1 _ _ j u hu) crL_one).mono ?_
 rintro e w_ ⟨b, rfl, hnew, hb2⟩
 obtain ⟨g, cap, hbk, hgb, hcells, hBb⟩ := new_parts hnew (by decide)
 have HRp := Lib.hid (nlrep_any b g cap (.int .u32 0) s w_ hgb hbk hcells (by have := Hss.out; omega))
 have HB2 := Lib.hid (Below.trans (((HB1.out).alloc HB1.out.size (.cells #[.string ⟨#[13, 10]⟩, .string ⟨#[10]⟩, .string ⟨#[13]⟩, .string ⟨#[10]⟩] 9)).trans (hb2.mono ((HB1.out).alloc HB1.out.size (.cells #[.string ⟨#[13, 10]⟩, .string ⟨#[10]⟩, .string ⟨#[13]⟩, .string ⟨#[10]⟩] 9)).size)) (Below.refl _ _))
 have HBb := Lib.hid (Nat.le_trans ((HB1.out).alloc HB1.out.size (.cells #[.string ⟨#[13, 10]⟩, .string ⟨#[10]⟩, .string ⟨#[13]⟩, .string ⟨#[10]⟩] 9)).size hBb)
 clear hnew hbk hgb hcells hBb hb2 HB1
 go_wp2_with fail
 refine HRp.out.mono ?_
 rintro e w3 ⟨rfl, hb3⟩
 have HB1 := Lib.hid (HB2.out.trans (hb3.mono HBb.out))
 clear hb3 HB2 HBb HRp
 rw [HA.out]
 go_wp2_with fail
 refine (new_any w3.heap.size 4 spL _ rfl (by decide) (by omega) (by decide) (fun j u hu => cells_new w3 _ _ j u hu) spL_one).mono ?_
 rintro e w_ ⟨b, rfl, hnew, hb2⟩
 obtain ⟨g, cap, hbk, hgb, hcells, hBb⟩ := new_parts hnew (by decide)
 have HRp := Lib.hid (sprep_any b g cap (.int .u32 0) A w_ hgb hbk hcells (by have := HAs.out; omega))
 have HB2 := Lib.hid (Below.trans (((HB1.out).alloc HB1.out.size (.cells #[.string ⟨#[9]⟩, .string ⟨#[32]⟩, .string ⟨#[10]⟩, .string ⟨#[32]⟩] 9)).trans (hb2.mono ((HB1.out).alloc HB1.out.size (.cells #[.string ⟨#[9]⟩, .string ⟨#[32]⟩, .string ⟨#[10]⟩, .string ⟨#[32]⟩] 9)).size)) (Below.refl _ _))
 have HBb := Lib.hid (Nat.le_trans ((HB1.out).alloc HB1.out.size (.cells #[.string ⟨#[9]⟩, .string ⟨#[32]⟩, .string ⟨#[10]⟩, .string ⟨#[32]⟩] 9)).size hBb)
 clear hnew hbk hgb hcells hBb hb2 HB1
 go_wp2_with fail
 refine HRp.out.mono ?_
 rintro e w5 ⟨rfl, hb3⟩
 have HB1 := Lib.hid (HB2.out.trans (hb3.mono HBb.out))
 clear hb3 HB2 HBb HRp
 rw [HPA.out]
 have HCon := Lib.hid (fun W => Tryz.strings_Contains_one P 60 W)
 rw [has_cut] at HCon
 clear HA HPA HAs
 cases h60 : (cutL 60 P.data.toList).isSome with
 | true =>
  have HV := Lib.hid (HBad.out (unes_mem _ _ (Nat.le_refl _) (has_some h60)))
  rw [h60] at HCon
  clear h60 HBad HOk HE
  go_wp2_with fail
  refine (HCon.out _).mono ?_
  rintro e w6 ⟨rfl, rfl⟩
  go_wp2_with fail
  go_ret2
  exact ⟨congrArg Ending.returned HV.out.symm, HB1.out⟩
 | false =>
  have h0 : 60 ∉ P.data.toList := by
   cases hq : cutL 60 P.data.toList with
   | none => exact cutL_none hq
   | some p => rw [hq] at h60; cases h60
  rw [h60] at HCon
  clear h60
  have HM := Lib.hid (Mem.start w5)
  have HE5 := Lib.hid (HE.out.below HB1.out)
  clear HE
  go_wp2_with (first | (go_at_call 115; (refine (HCon.out _).mono ?_); rintro e w6 ⟨rfl, rfl⟩) | ((with_reducible refine skip_op ?_ ?_); exact rfl) | (refine mL ?_; clear HM; intro g1 W1 HM) | (refine hal (dst := some 6) HM rfl ?_; clear HM; intro g6 W1 HM))
  have HBd := Lib.hid (BldAt.start HM.out)
  clear HM
  go_loopw [0] (fun sv wr => ∃ (S : ByteArray) (o : List UInt8), sv = .string S ∧ o.length + S.size ≤ P.size ∧ Hid (60 ∉ S.data.toList ∧ unes P.data.toList = (unes S.data.toList).map (o ++ ·)) ∧ Hid (BldAt w6 wr g6 o [])) (fun sv _ => strSz sv)
  case atStart => exact ⟨P, [], rfl, by simp, Lib.hid ⟨h0, by simp⟩, HBd⟩
  case round =>
   clear HBd h0
   obtain ⟨S, o, rfl, hlen, HH, HBd⟩ := hrel
   obtain ⟨h60, hu⟩ := HH.out
   clear HH
   have HPs' := HPs.out
   cases h38 : cutL 38 S.data.toList with
   | none =>
    as_aux_lemma =>
    have HV := Lib.hid (HOk.out (o ++ S.data.toList) (by rw [hu, unes_last h60 h38]; rfl))
    have HCut := Lib.hid (fun W => cut_no S 38 W (by omega) h38)
    clear h38 hu h60
    go_wp2_with fail
    refine (HCut.out _).mono ?_
    rintro e wa ⟨rfl, hb⟩
    have HBd1 := Lib.hid (HBd.out.next hb)
    clear hb HBd
    go_wp2_with fail
    refine (bw_at HBd1.out S (by omega)).mono ?_
    rintro e wb ⟨rfl, hb⟩
    have HBd := Lib.hid hb
    clear hb HBd1
    go_wp2_with fail
    refine (bs_at HBd.out).mono ?_
    rintro e wc ⟨rfl, hM⟩
    have HM := Lib.hid hM
    clear hM HBd
    go_wp2_with fail
    go_ret2
    exact ⟨congrArg Ending.returned HV.out.symm, HB1.out.trans (HM.out.below.mono HB1.out.size)⟩
   | some p =>
    obtain ⟨m, r⟩ := p
    obtain ⟨M, R, rfl, rfl⟩ := cut_split h38
    have HCut := Lib.hid (fun W => cut_at S M R 38 W (by omega) h38)
    have hms : M.size + R.size < S.size := by
     obtain ⟨e, _⟩ := cutL_some h38
     have := congrArg List.length e
     simp at this
     omega
    cases h59 : cutL 59 R.data.toList with
    | none =>
     as_aux_lemma =>
     have HV := Lib.hid (HBad.out (by rw [hu, unes_bad1 h60 h38 h59]; rfl))
     have HCut2 := Lib.hid (fun W => cut_no R 59 W (by omega) h59)
     clear h38 h59 hu h60
     go_wp2_with fail
     refine (HCut.out _).mono ?_
     rintro e wa ⟨rfl, hb⟩
     have HBd1 := Lib.hid (HBd.out.next hb)
     clear hb HBd
     go_wp2_with fail
     refine (bw_at HBd1.out M (by omega)).mono ?_
     rintro e wb ⟨rfl, hb⟩
     have HBd := Lib.hid hb
     clear hb HBd1
     go_wp2_with fail
     refine (HCut2.out _).mono ?_
     rintro e wc ⟨rfl, hb⟩
     have HBd1 := Lib.hid (HBd.out.next hb)
     clear hb HBd
     go_wp2_with fail
     refine (meant_some R _ (by omega) (HE5.out.below HBd1.out.below)).mono ?_
     rintro e wd ⟨⟨V, b, rfl⟩, hb⟩
     have HBd := Lib.hid (HBd1.out.next hb)
     clear hb HBd1
     go_wp2_with fail
     go_ret2
     exact ⟨congrArg Ending.returned HV.out.symm, HB1.out.trans (HBd.out.below.mono HB1.out.size)⟩
    | some q =>
     obtain ⟨x, t⟩ := q
     obtain ⟨X, T, rfl, rfl⟩ := cut_split h59
     have HCut2 := Lib.hid (fun W => cut_at R X T 59 W (by omega) h59)
     have hxs : X.size + T.size < R.size := by
      obtain ⟨e, _⟩ := cutL_some h59
      have := congrArg List.length e
      simp at this
      omega
     cases hv : meanL X.data.toList with
     | none =>
      as_aux_lemma =>
      have HV := Lib.hid (HBad.out (by rw [hu, unes_bad2 h60 h38 h59 hv]; rfl))
      have HMn := Lib.hid (fun W h => meant_no X W (by omega) h hv)
      clear h38 h59 hu h60 hv
      go_wp2_with fail
      refine (HCut.out _).mono ?_
      rintro e wa ⟨rfl, hb⟩
      have HBd1 := Lib.hid (HBd.out.next hb)
      clear hb HBd
      go_wp2_with fail
      refine (bw_at HBd1.out M (by omega)).mono ?_
      rintro e wb ⟨rfl, hb⟩
      have HBd := Lib.hid hb
      clear hb HBd1
      go_wp2_with fail
      refine (HCut2.out _).mono ?_
      rintro e wc ⟨rfl, hb⟩
      have HBd1 := Lib.hid (HBd.out.next hb)
      clear hb HBd
      go_wp2_with fail
      refine (HMn.out _ (HE5.out.below HBd1.out.below)).mono ?_
      rintro e wd ⟨rfl, hb⟩
      have HBd := Lib.hid (HBd1.out.next hb)
      clear hb HBd1
      go_wp2_with fail
      go_ret2
      exact ⟨congrArg Ending.returned HV.out.symm, HB1.out.trans (HBd.out.below.mono HB1.out.size)⟩
     | some v =>
      as_aux_lemma =>
      obtain ⟨V, rfl⟩ : ∃ V : ByteArray, V.data.toList = v := ⟨⟨v.toArray⟩, rfl⟩
      obtain ⟨h1, h2, h3, h4⟩ := unes_more h60 h38 h59 hv
      rw [size_list, size_list, size_list, size_list] at h3
      rw [size_list, size_list] at h4
      have HMn := Lib.hid (fun W h => meant_ok X V W (by omega) h hv)
      have HN := Lib.hid (show 60 ∉ T.data.toList ∧ unes P.data.toList = (unes T.data.toList).map ((o ++ M.data.toList ++ V.data.toList) ++ ·) from ⟨h2, by rw [hu, h1, Option.map_map]; congr 1; funext z; simp⟩)
      clear h38 h59 hu h60 hv h1 h2
      go_wp2_with fail
      refine (HCut.out _).mono ?_
      rintro e wa ⟨rfl, hb⟩
      have HBd1 := Lib.hid (HBd.out.next hb)
      clear hb HBd
      go_wp2_with fail
      refine (bw_at HBd1.out M (by omega)).mono ?_
      rintro e wb ⟨rfl, hb⟩
      have HBd := Lib.hid hb
      clear hb HBd1
      go_wp2_with fail
      refine (HCut2.out _).mono ?_
      rintro e wc ⟨rfl, hb⟩
      have HBd1 := Lib.hid (HBd.out.next hb)
      clear hb HBd
      go_wp2_with fail
      refine (HMn.out _ (HE5.out.below HBd1.out.below)).mono ?_
      rintro e wd ⟨rfl, hb⟩
      have HBd := Lib.hid (HBd1.out.next hb)
      clear hb HBd1
      go_wp2_with fail
      refine (bw_at HBd.out V (by rw [List.length_append, size_list]; omega)).mono ?_
      rintro e we ⟨rfl, hb⟩
      have HBd1 := Lib.hid hb
      clear hb HBd
      go_wp2_with fail
      go_roundw
      case rel => exact ⟨T, o ++ M.data.toList ++ V.data.toList, rfl, by rw [List.length_append, List.length_append, size_list, size_list]; omega, HN, HBd1⟩
      case measure => simp [strSz]; omega

theorem unescape_any (s : ByteArray) (at_ : Bool) (w : World) (hT : U8 w) (hE : ErrsAt w) (hs : s.size ≤ 1073741824) :
  Calls Tryz.prog 98 #[.string s, .bool at_] w fun e w' => e = .returned (unescV at_ s) ∧ Below w.heap.size w w' := by
 cases hc : chars s.data.toList with
 | none => exact unescape_no s at_ w hT hs hc
 | some cs =>
  cases at_ with
  | false => exact unescape_false s w hT hE hs hc
  | true => exact unescape_true s w hT hE hs hc
end Go.Proofs.YtanncakdlflopaaGreatDoor
