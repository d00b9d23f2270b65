/- What a reference between & and ; stands for: meant. (short) -/
import Derived.Test.YtfnodoepeiknhaaGreatDoorParseNum
import Derived.Shelf.Strings.SlTrimAscii
namespace Go.Proofs.YtfnodoepeiknhaaGreatDoor
open Go.RowKit
set_option linter.unusedVariables false
set_option linter.unusedSimpArgs false
set_option maxRecDepth 100000

/-- A variable that holds an error, or none. -/
def ErrIn (w : World) (g : Nat) : Prop := ∃ ev, w.cell? ⟨g, 0, none⟩ = some ev ∧ (ev = .nilIface ∨ ∃ te pe, ev = .iface te pe)
def ErrsAt (w : World) : Prop := ErrIn w 3 ∧ ErrIn w 4
theorem ErrIn.below {w w' : World} {g : Nat} (h : ErrIn w g) (hb : Below w.heap.size w w') : ErrIn w' g := by
  obtain ⟨ev, h1, h2⟩ := h
  exact ⟨ev, (hb.cell (block_lt_of_cell h1)).trans h1, h2⟩
theorem ErrsAt.below {w w' : World} (h : ErrsAt w) (hb : Below w.heap.size w w') : ErrsAt w' := ⟨h.1.below hb, h.2.below hb⟩

/-- What ParseUint answers. -/
def NumPost (b : Nat) (s : ByteArray) (w : World) (e : Ending) (w' : World) : Prop :=
  ((∃ n, valB b 0 s.data.toList = some n ∧ e = .returned (.tuple #[.int .u64 n, .nilIface])) ∨ (valB b 0 s.data.toList = none ∧ ∃ (v : Int) (t : TypeId) (p : Value), e = .returned (.tuple #[.int .u64 v, .iface t p]))) ∧ Below w.heap.size w w'

set_option maxHeartbeats 8000000 in
theorem par_of (b : Nat) (s : ByteArray) (w : World) (hs : s.size ≤ 1099511627776) (hE : ErrsAt w)
    (hI : Calls Tryz.prog 91 #[.string s, .int .i64 b, .int .i64 32] w fun e w' => IntPost b s w e w') :
    Calls Tryz.prog 57 #[.string s, .int .i64 b, .int .i64 32] w fun e w' => NumPost b s w e w' := by
  have HE := Lib.hid hE
  have HI := Lib.hid hI
  clear hE hI
  go_enter Tryz.func57, Tryz.ntmps57
  go_wp2_with fail
  refine HI.out.mono ?_
  rintro e w1 ⟨⟨n, hv, rfl⟩ | ⟨hv, v, k, rfl | rfl, rfl⟩, hb⟩
  · have HV := Lib.hid hv
    have HB := Lib.hid hb
    clear hv hb
    go_wp2_with fail
    go_ret2
    exact ⟨.inl ⟨n, HV.out, rfl⟩, HB.out⟩
  · have HV := Lib.hid hv
    have HB := Lib.hid hb
    obtain ⟨ev, hc, hev⟩ := (HE.out.below hb).2
    have HT := Lib.hid (Tryz.strconv_toError_range ⟨#[80, 97, 114, 115, 101, 85, 105, 110, 116]⟩ s b 32 ev w1 (by omega) hc hev)
    clear hv hb hc hev
    go_wp2_with fail
    refine HT.out.mono ?_
    rintro e w2 ⟨N1, rfl, -, -, hb2⟩
    go_wp2_with fail
    go_ret2
    exact ⟨.inr ⟨HV.out, _, _, _, rfl⟩, HB.out.trans (hb2.mono HB.out.size)⟩
  · have HV := Lib.hid hv
    have HB := Lib.hid hb
    obtain ⟨ev, hc, hev⟩ := (HE.out.below hb).1
    have HT := Lib.hid (Tryz.strconv_toError_syntax ⟨#[80, 97, 114, 115, 101, 85, 105, 110, 116]⟩ s b 32 ev w1 (by omega) hc hev)
    clear hv hb hc hev
    go_wp2_with fail
    refine HT.out.mono ?_
    rintro e w2 ⟨N1, rfl, -, -, hb2⟩
    go_wp2_with fail
    go_ret2
    exact ⟨.inr ⟨HV.out, _, _, _, rfl⟩, HB.out.trans (hb2.mono HB.out.size)⟩
theorem par16 (s : ByteArray) (w : World) (hs : s.size ≤ 1099511627776) (hE : ErrsAt w) (h0 : 0 < s.size) (hx : digsB s.data.toList = true) :
    Calls Tryz.prog 57 #[.string s, .int .i64 16, .int .i64 32] w fun e w' => NumPost 16 s w e w' := par_of 16 s w hs hE (ipar16_any s w hs h0 hx)
theorem par10 (s : ByteArray) (w : World) (hs : s.size ≤ 1099511627776) (hE : ErrsAt w) (h0 : 0 < s.size) (hx : digsB s.data.toList = true) :
    Calls Tryz.prog 57 #[.string s, .int .i64 10, .int .i64 32] w fun e w' => NumPost 10 s w e w' := par_of 10 s w hs hE (ipar10_any s w hs h0 hx)

/-- What meant answers. -/
def meanV (s : ByteArray) : Value := match meanL s.data.toList with
  | some b => .tuple #[.string ⟨b.toArray⟩, .bool true]
  | none => .tuple #[.string ⟨#[]⟩, .bool false]
theorem meanV_some {s : ByteArray} {b : List UInt8} (h : meanL s.data.toList = some b) : meanV s = .tuple #[.string ⟨b.toArray⟩, .bool true] := by unfold meanV; rw [h]
theorem meanV_none {s : ByteArray} (h : meanL s.data.toList = none) : meanV s = .tuple #[.string ⟨#[]⟩, .bool false] := by unfold meanV; rw [h]
theorem eq_false_of {s : ByteArray} {l : List UInt8} (h : s.data.toList ≠ l) : (s.toList == l) = false := by
  rw [Lib.toList_data]; exact beq_eq_false_iff_ne.2 h
theorem isE {s : ByteArray} : (s.toList == []) = decide (s.size = 0) := by
  rw [Lib.toList_data, ← size_list]
  cases s.data.toList with
  | nil => rfl
  | cons a r => rfl
/-- The cut of one byte ahead. -/
theorem pre_one (s : ByteArray) (c : UInt8) : Lib.hasPrefix s.data.toList [c] = decide (s.data.toList.head? = some c) ∧ (s.data.toList.head? = some c → Lib.trimPrefix s.data.toList [c] = s.data.toList.drop 1) := by
  unfold Lib.trimPrefix Lib.hasPrefix
  cases s.data.toList with
  | nil => simp
  | cons a r =>
    by_cases h : c = a
    · subst h; simp
    · simp [h, Ne.symm h, List.isPrefixOf]

end Go.Proofs.YtfnodoepeiknhaaGreatDoor
