/- The walks over Count and Part, of the package and of the reference. -/
import Derived.Test.YtamimkekjcjcjaaDoorCharsRef2
import Derived.Lib.MinMax
import Derived.Outline
import Derived.Deep.QuietTactic
import Derived.BigQuiet
import Derived.IntWalk
import Derived.Laws.Cover4
import Derived.Laws.IdiomStrings
namespace Go.Proofs.YtamimkekjcjcjaaDoor
open Go.RowKit
set_option linter.unusedVariables false
set_option maxRecDepth 100000

theorem chars_len {s : ByteArray} {cs : List Nat} (h : chars s.data.toList = some cs) : s.data.toList = cs.flatMap encL ∧ (∀ c ∈ cs, charB c = true) ∧ cs.length ≤ s.size := by
  obtain ⟨h1, h2⟩ := chars_bytes _ _ cs (Nat.le_refl _) h
  refine ⟨h1, h2, ?_⟩
  rw [← size_list s, h1]
  clear h h1
  induction cs with
  | nil => simp
  | cons c cs ih =>
    have := (encL_len (charB_lt (h2 c (by simp)))).1
    have := ih (fun c hc => h2 c (by simp [hc]))
    rw [List.flatMap_cons, List.length_append, List.length_cons]
    omega

/-- What Count answers. -/
def countV (s : ByteArray) : Value := match chars s.data.toList with
  | some cs => .tuple #[.int .i64 (cs.length : Nat), .int .i64 0]
  | none => .tuple #[.int .i64 0, .int .i64 2]
theorem countV_some {s : ByteArray} {cs : List Nat} (h : chars s.data.toList = some cs) : countV s = .tuple #[.int .i64 (cs.length : Nat), .int .i64 0] := by unfold countV; rw [h]
theorem countV_none {s : ByteArray} (h : chars s.data.toList = none) : countV s = .tuple #[.int .i64 0, .int .i64 2] := by unfold countV; rw [h]

set_option maxHeartbeats 1000000 in
theorem count_any (s : ByteArray) (w : World) (hs : s.size ≤ 1099511627776) (hT : U8 w) :
    Calls Tryd.prog 11 #[.string s] w fun e w' => e = .returned (countV s) ∧ Below w.heap.size w w' := by
  have HC := Lib.hid (valid_any s w (by omega) hT)
  cases hc : chars s.data.toList with
  | none =>
    have HT := Lib.hid (text_of_none hc)
    have HV := Lib.hid (countV_none hc)
    clear hc
    go_enter Tryd.func11, Tryd.ntmps11
    go_wp2_with fail
    refine HC.out.mono ?_
    rintro e w1 ⟨rfl, hb⟩
    rw [HT.out]
    go_wp2
    go_ret2
    exact ⟨(congrArg Ending.returned HV.out).symm, hb⟩
  | some cs =>
    have HT := Lib.hid (text_of_some hc)
    have HV := Lib.hid (countV_some hc)
    have HR := Lib.hid (runes_all hc).2
    clear hc
    go_enter Tryd.func11, Tryd.ntmps11
    go_wp2_with fail
    refine HC.out.mono ?_
    rintro e w1 ⟨rfl, hb⟩
    rw [HT.out]
    go_wp2_with fail
    refine (Tryd.utf8_RuneCountInString s w1 (by omega)).mono ?_
    rintro e w2 ⟨rfl, pos, rfl⟩
    rw [HR.out]
    go_wp2
    go_ret2
    exact ⟨(congrArg Ending.returned HV.out).symm, hb.alloc hb.size _⟩

/-- The characters of a part. -/
def partL (cs : List Nat) (a b : Int) : List Nat := (cs.drop (if a < 0 then ((cs.length : Int) + a).toNat else (a - 1).toNat)).take b.toNat
/-- What Part answers. -/
def partV (s : ByteArray) (a b : Int) : Value := if a = 0 ∨ b < 0 then .tuple #[.string ⟨#[]⟩, .int .i64 1] else match chars s.data.toList with
  | some cs => .tuple #[.string ⟨((partL cs a b).flatMap encL).toArray⟩, .int .i64 0]
  | none => .tuple #[.string ⟨#[]⟩, .int .i64 2]
theorem partV_arg {s : ByteArray} {a b : Int} (h : a = 0 ∨ b < 0) : partV s a b = .tuple #[.string ⟨#[]⟩, .int .i64 1] := by unfold partV; rw [if_pos h]
theorem partV_none {s : ByteArray} {a b : Int} (h : ¬ (a = 0 ∨ b < 0)) (hc : chars s.data.toList = none) : partV s a b = .tuple #[.string ⟨#[]⟩, .int .i64 2] := by unfold partV; rw [if_neg h, hc]
theorem partV_out {s : ByteArray} {a b : Int} {cs : List Nat} (h : ¬ (a = 0 ∨ b < 0)) (hc : chars s.data.toList = some cs) {f : Nat} (hf : (if a < 0 then ((cs.length : Int) + a).toNat else (a - 1).toNat) = f) (hl : cs.length ≤ f) : partV s a b = .tuple #[.string ⟨#[]⟩, .int .i64 0] := by
  unfold partV
  rw [if_neg h, hc]
  show Value.tuple #[.string ⟨((partL cs a b).flatMap encL).toArray⟩, .int .i64 0] = _
  unfold partL
  rw [hf, List.drop_of_length_le hl]
  simp
theorem partV_in {s : ByteArray} {a b : Int} {cs : List Nat} (h : ¬ (a = 0 ∨ b < 0)) (hc : chars s.data.toList = some cs) {f m : Nat} (hf : (if a < 0 then ((cs.length : Int) + a).toNat else (a - 1).toNat) = f) (hl : f ≤ cs.length) (hm : m = min b.toNat (cs.length - f)) :
    partV s a b = .tuple #[.string ⟨(((cs.drop f).take m).flatMap encL).toArray⟩, .int .i64 0] := by
  unfold partV
  rw [if_neg h, hc]
  show Value.tuple #[.string ⟨((partL cs a b).flatMap encL).toArray⟩, .int .i64 0] = _
  unfold partL
  have e : (cs.drop f).take b.toNat = (cs.drop f).take m := by
    apply List.take_eq_take_iff.2
    rw [hm, List.length_drop]
    omega
  rw [hf, e]

/-- The row that []rune(s) lays. -/
def runeRow (cs : List Nat) (k : Nat) : Array Value := (cs.map fun c : Nat => Value.int .i32 (c : Int)).toArray ++ Array.replicate k (.int .i32 0)
theorem runes_at {w : World} {s : ByteArray} {cs : List Nat} (h : Conv.runesFrom s s.size 0 #[] = (cs.map fun c : Nat => Value.int .i32 (c : Int)).toArray) (hl : cs.length ≤ 70368744177664) :
    (convert 9 41 (.string s)).run Tryd.prog w = .ok (.slice (some ⟨w.heap.size, 0, none⟩) cs.length (grownCap w cs.length 0 21))
      (w.drew.alloc (.cells (runeRow cs (grownCap w cs.length 0 21 - cs.length)) 21)) := by
  unfold runeRow
  have h2 := run_runes_of_string (P := Tryd.prog) w 9 41 21 s Tryd.underlying9 Tryd.underlying41 Tryd.underlying21 (by rw [h]; simpa using hl)
  rw [h] at h2
  simpa using h2

/-- A row's part as a string. -/
theorem runes_str {w : World} {g f m c : Nat} {cs : List Nat} (hw : ∀ j, j < cs.length → w.cell? ⟨g, j, none⟩ = some (.int .i32 ((cs.getD j 0 : Nat) : Int))) (hm : f + m ≤ cs.length) :
    (convert 41 9 (.slice (some ⟨g, f, none⟩) m c)).run Tryd.prog w = .ok (.string ⟨(((cs.drop f).take m).flatMap encL).toArray⟩) w := by
  have hadd : ∀ j, (⟨g, f, none⟩ : Addr).add j = ⟨g, f + j, none⟩ := fun j => by unfold Addr.add; split <;> simp_all
  have h2 := run_convert_runes (P := Tryd.prog) w 41 9 21 ⟨g, f, none⟩ m c (((cs.drop f).take m).map fun c : Nat => (c : Int)) (by simp; omega) Tryd.underlying41 Tryd.underlying21 Tryd.underlying9 (by
    intro j hj
    have hj2 : j < m := by simp at hj; omega
    rw [hadd, hw (f + j) (by omega)]
    congr 2
    simp [List.getD, hj2, List.getElem?_drop, show f + j < cs.length by omega])
  rw [h2, List.take_of_length_le (by simp; omega), runesBytes_enc]

set_option maxHeartbeats 1000000 in
theorem part_any (s : ByteArray) (a b : Int) (w : World) (hs : s.size ≤ 1099511627776) (hT : U8 w) (ha : -9223372036854775808 ≤ a ∧ a ≤ 9223372036854775807) (hb : -9223372036854775808 ≤ b ∧ b ≤ 9223372036854775807) :
    Calls Tryd.prog 15 #[.string s, .int .i64 a, .int .i64 b] w fun e w' => e = .returned (partV s a b) ∧ Below w.heap.size w w' := by
  obtain ⟨ha1, ha2⟩ := ha
  obtain ⟨hb1, hb2⟩ := hb
  have HC := Lib.hid (valid_any s w (by omega) hT)
  by_cases ha0 : a = 0
  · have HV := Lib.hid (partV_arg (s := s) (b := b) (.inl ha0))
    subst ha0
    go_enter Tryd.func15, Tryd.ntmps15
    go_wp2
    go_ret2
    exact ⟨(congrArg Ending.returned HV.out).symm, Below.refl _ _⟩
  have ba : (a == 0) = false := beq_eq_false_iff_ne.2 ha0
  by_cases hb0 : b < 0
  · have HV := Lib.hid (partV_arg (s := s) (a := a) (.inr hb0))
    clear ha0
    go_enter Tryd.func15, Tryd.ntmps15
    go_wp2
    go_ret2
    exact ⟨(congrArg Ending.returned HV.out).symm, Below.refl _ _⟩
  have hb3 : 0 ≤ b := by omega
  have db : decide (b < 0) = false := decide_eq_false hb0
  have HN := Lib.hid (show ¬ (a = 0 ∨ b < 0) by omega)
  cases hc : chars s.data.toList with
  | none =>
    have HT := Lib.hid (text_of_none hc)
    have HV := Lib.hid (partV_none HN.out hc)
    clear hc ha0 hb0
    go_enter Tryd.func15, Tryd.ntmps15
    go_wp2_with fail
    refine HC.out.mono ?_
    rintro e w1 ⟨rfl, hb⟩
    rw [HT.out]
    go_wp2
    go_ret2
    exact ⟨(congrArg Ending.returned HV.out).symm, hb⟩
  | some cs =>
    have HT := Lib.hid (text_of_some hc)
    have hl := (chars_len hc).2.2
    have HR := Lib.hid (fun W => runes_at (w := W) (runes_all hc).1 (by omega))
    have Hc := Lib.hid hc
    clear hc ha0 hb0
    have HCells := Lib.hid (show ∀ (W : World) (x : Nat) (j : Nat), j < cs.length → (W.alloc (.cells (runeRow cs x) 21)).cell? ⟨W.heap.size, j, none⟩ = some (.int .i32 ((cs.getD j 0 : Nat) : Int)) from fun W x j hj => by
      unfold runeRow
      rw [cell_of_row _ _ _ _ _ _ (MapKept.heap_alloc W _).1, Array.getElem?_append_left (by simpa using hj)]
      simp [List.getD, hj])
    by_cases hapos : 0 < a
    · obtain ⟨f, hf⟩ : ∃ f : Nat, (f : Int) = a - 1 := ⟨(a - 1).toNat, by omega⟩
      have Hf := Lib.hid (show (if a < 0 then ((cs.length : Int) + a).toNat else (a - 1).toNat) = f by rw [if_neg (by omega)]; omega)
      obtain rfl : a = (f : Int) + 1 := by omega
      clear hf
      by_cases hlt : f < cs.length
      · obtain ⟨m, hm⟩ : ∃ m, m = min b.toNat (cs.length - f) := ⟨_, rfl⟩
        have HV := Lib.hid (partV_in HN.out Hc.out Hf.out (by omega) hm)
        have hmin : min b ((cs.length : Int) - (f : Int)) = (m : Int) := by omega
        have hml : f + m ≤ cs.length := by omega
        clear hm
        have hrun := HR.out
        go_enter Tryd.func15, Tryd.ntmps15
        go_wp2_with fail
        refine HC.out.mono ?_
        rintro e w1 ⟨rfl, hb⟩
        rw [HT.out]
        have hge := grownCap_ge w1 cs.length 0 21
        have hback := fun c => runes_str (w := (w1.alloc (.cells (runeRow cs (grownCap w1 cs.length 0 21 - cs.length)) 21)).drew) (f := f) (m := m) (c := c) (HCells.out w1 _) hml
        have hr1 := hrun w1
        generalize grownCap w1 cs.length 0 21 = cap at *
        have hfc : ¬ cap = f := by omega
        have hfc2 : f + m ≤ cap := by omega
        clear ha1 ha2 hb1 hb2 hrun
        go_wp2
        go_ret2
        refine ⟨(congrArg Ending.returned HV.out).symm, (hb.alloc hb.size _).drew⟩
      · have HV := Lib.hid (partV_out HN.out Hc.out Hf.out (by omega))
        have hf9 : f ≤ 9223372036854775806 := by omega
        have hrun := HR.out
        go_enter Tryd.func15, Tryd.ntmps15
        go_wp2_with fail
        refine HC.out.mono ?_
        rintro e w1 ⟨rfl, hb⟩
        rw [HT.out]
        have hr1 := hrun w1
        generalize grownCap w1 cs.length 0 21 = cap at *
        clear ha1 ha2 hb1 hb2 hrun
        go_wp2
        go_ret2
        refine ⟨(congrArg Ending.returned HV.out).symm, (hb.alloc hb.size _).drew⟩
    · have ha3 : a < 0 := by have := HN.out; omega
      by_cases hL : cs.length = 0
      · have HV := Lib.hid (partV_out HN.out Hc.out (f := ((cs.length : Int) + a).toNat) (if_pos ha3) (by rw [hL]; exact Nat.zero_le _))
        obtain rfl : cs = [] := List.eq_nil_of_length_eq_zero hL
        have hrun := HR.out
        have hx1 : max a 0 = 0 := by omega
        clear hL
        go_enter Tryd.func15, Tryd.ntmps15
        go_wp2_with fail
        refine HC.out.mono ?_
        rintro e w1 ⟨rfl, hb⟩
        rw [HT.out]
        have hr1 := hrun w1
        rw [List.length_nil] at hr1
        generalize grownCap w1 0 0 21 = cap at *
        clear ha1 ha2 hb1 hb2 hrun
        go_wp2
        go_ret2
        refine ⟨(congrArg Ending.returned HV.out).symm, (hb.alloc hb.size _).drew⟩
      by_cases hge0 : -(cs.length : Int) ≤ a
      · obtain ⟨f, hf⟩ : ∃ f : Nat, (f : Int) = (cs.length : Int) + a := ⟨((cs.length : Int) + a).toNat, by omega⟩
        have Hf := Lib.hid (show (if a < 0 then ((cs.length : Int) + a).toNat else (a - 1).toNat) = f by rw [if_pos ha3]; omega)
        have hlt : f < cs.length := by omega
        have hx1 : max a (-(cs.length : Int)) = a := by omega
        have hx2 : max ((cs.length : Int) + a) 0 = (f : Int) := by omega
        obtain ⟨m, hm⟩ : ∃ m, m = min b.toNat (cs.length - f) := ⟨_, rfl⟩
        have HV := Lib.hid (partV_in HN.out Hc.out Hf.out (by omega) hm)
        have hmin : min b ((cs.length : Int) - (f : Int)) = (m : Int) := by omega
        have hml : f + m ≤ cs.length := by omega
        have hrun := HR.out
        have hL1 : 0 ≤ (cs.length : Int) + a := by omega
        have hL2 : (cs.length : Int) + a ≤ cs.length := by omega
        clear hm hf hL
        go_enter Tryd.func15, Tryd.ntmps15
        go_wp2_with fail
        refine HC.out.mono ?_
        rintro e w1 ⟨rfl, hb⟩
        rw [HT.out]
        have hge := grownCap_ge w1 cs.length 0 21
        have hback := fun c => runes_str (w := (w1.alloc (.cells (runeRow cs (grownCap w1 cs.length 0 21 - cs.length)) 21)).drew) (f := f) (m := m) (c := c) (HCells.out w1 _) hml
        have hr1 := hrun w1
        generalize grownCap w1 cs.length 0 21 = cap at *
        have hfc : ¬ cap = f := by omega
        have hfc2 : f + m ≤ cap := by omega
        clear ha1 ha2 hb1 hb2 hrun
        go_wp2
        go_ret2
        refine ⟨(congrArg Ending.returned HV.out).symm, (hb.alloc hb.size _).drew⟩
      · have Hf := Lib.hid (show (if a < 0 then ((cs.length : Int) + a).toNat else (a - 1).toNat) = 0 by rw [if_pos ha3]; omega)
        have hlt : 0 < cs.length := by omega
        have hx1 : max a (-(cs.length : Int)) = -(cs.length : Int) := by omega
        have hx2 : (cs.length : Int) + -(cs.length : Int) = 0 := by omega
        obtain ⟨m, hm⟩ : ∃ m, m = min b.toNat (cs.length - 0) := ⟨_, rfl⟩
        have HV := Lib.hid (partV_in HN.out Hc.out Hf.out (by omega) hm)
        have hmin : min b (cs.length : Int) = (m : Int) := by omega
        have hml : 0 + m ≤ cs.length := by omega
        have hne : ¬ cs = [] := fun h => hL (by rw [h]; rfl)
        have hrun := HR.out
        clear hm hL
        go_enter Tryd.func15, Tryd.ntmps15
        go_wp2_with fail
        refine HC.out.mono ?_
        rintro e w1 ⟨rfl, hb⟩
        rw [HT.out]
        have hge := grownCap_ge w1 cs.length 0 21
        have hback := fun c => runes_str (w := (w1.alloc (.cells (runeRow cs (grownCap w1 cs.length 0 21 - cs.length)) 21)).drew) (f := 0) (m := m) (c := c) (HCells.out w1 _) hml
        have hr1 := hrun w1
        generalize grownCap w1 cs.length 0 21 = cap at *
        have hfc : ¬ cap = 0 := by omega
        have hfc2 : 0 + m ≤ cap := by omega
        clear ha1 ha2 hb1 hb2 hrun
        go_wp2
        go_ret2
        refine ⟨by rw [HV.out, List.drop_zero]; rfl, (hb.alloc hb.size _).drew⟩

theorem cell_offs {w : World} {B g cap n : Nat} {cs : List Nat} (h : w.ownsRow B 3 1 (.slice (some ⟨g, 0, none⟩) n cap) n (offsV cs n)) {j : Nat} (hj : j < n) : w.cell? ⟨g, j, none⟩ = some (.int .i64 (offC cs j : Nat)) := by
  obtain ⟨_, ⟨h0, _⟩ | ⟨g', cap', cur, hv, _, hh, _, _, _, htk⟩⟩ := h
  · cases h0
  · simp only [Value.slice.injEq, Option.some.injEq, Addr.mk.injEq, and_true] at hv
    obtain ⟨rfl, _, rfl⟩ := hv
    rw [cell_of_row _ _ _ _ _ _ hh]
    have e : (offsV cs n)[j]? = some (.int .i64 (offC cs j : Nat)) := by
      unfold offsV
      rw [List.getElem?_map, List.getElem?_range hj]
      rfl
    rw [← htk, List.getElem?_take_of_lt (by omega)] at e
    simpa using e

theorem ext_part {s : ByteArray} {cs : List Nat} (h : s.data.toList = cs.flatMap encL) {i k : Nat} (hik : i ≤ k) : s.extract (offC cs i) (offC cs k) = ⟨(((cs.drop i).take (k - i)).flatMap encL).toArray⟩ := by
  apply ba_eq
  rw [ByteArray.data_extract, Array.toList_extract, h]
  exact offC_part cs hik

end Go.Proofs.YtamimkekjcjcjaaDoor
