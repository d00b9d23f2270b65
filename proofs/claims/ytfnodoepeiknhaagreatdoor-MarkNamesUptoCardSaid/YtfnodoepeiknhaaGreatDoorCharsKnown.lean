/- The walk over tarifflaw04's fixed fact: an escape, names, a text, a keyword. -/
import Derived.Test.YtfnodoepeiknhaaGreatDoorReplRun
import Derived.Test.YtfnodoepeiknhaaGreatDoorCharsA
namespace Go.Proofs.YtfnodoepeiknhaaGreatDoor
open Go.RowKit
set_option linter.unusedVariables false

theorem new_parts {w0 w : World} {b : Nat} {strs : List Value} (h : IsNew w0 w b strs) (hp : 0 < strs.length) : ∃ g cap, w.heap[b]? = some (.cells #[.int .u32 0, .int .i32 0, .int .u32 0, .nilIface, .slice (some ⟨g, 0, none⟩) strs.length cap] 96 (0, 0)) ∧ g ≠ b ∧
    (∀ (j : Nat) (u : Value), strs[j]? = some u → w.cell? ⟨g, j, none⟩ = some u) ∧ w0.heap.size ≤ b := by
  obtain ⟨hB, v, hb, hl, ⟨_, h0⟩ | ⟨g, cap, cur, hv, hg, hh, hnc, hcm, hsz, htk⟩⟩ := h
  · omega
  · subst hv
    refine ⟨g, cap, hb, ?_, ?_, hB⟩
    · intro e
      subst e
      rw [hb] at hh
      injection hh with hh
      injection hh with _ h2 _
      exact absurd h2 (by decide)
    · intro j u hu
      rw [cell_of_row _ _ _ _ _ _ hh]
      rw [← htk, List.getElem?_take] at hu
      split at hu
      · simpa using hu
      · cases hu

theorem cells_new (w : World) (c : Array Value) (t : TypeId) (j : Nat) (u : Value) (h : c.toList[j]? = some u) : (w.alloc (.cells c t)).cell? ((⟨w.heap.size, 0, none⟩ : Addr).add j) = some u := by
  have hadd : (⟨w.heap.size, 0, none⟩ : Addr).add j = ⟨w.heap.size, j, none⟩ := by unfold Addr.add; split <;> simp_all
  rw [hadd, cell_of_row _ _ _ _ _ _ (MapKept.heap_alloc w _).1]
  simpa using h

theorem pairs_one (l : List (UInt8 × List UInt8)) : ∀ u ∈ pairL l, u.oneCell' = true := by
  induction l with
  | nil => intro u hu; cases hu
  | cons x r ih =>
    obtain ⟨o, nw⟩ := x
    intro u hu
    simp only [pairL, List.mem_cons] at hu
    rcases hu with rfl | rfl | hu
    · rfl
    · rfl
    · exact ih u hu

/-- The pairs of Escape's first step. -/
def escL : List (UInt8 × List UInt8) := [(38, [38, 97, 109, 112, 59]), (60, [38, 108, 116, 59]), (62, [38, 103, 116, 59]), (13, [38, 35, 49, 51, 59])]
def aless : ByteArray := ⟨#[97, 60]⟩

theorem esc_keys : keysOk escL := by
  intro i j x y hij hx hy
  have hj : j < 4 := (List.getElem?_eq_some_iff.1 hy).1
  have hi : i < 4 := by omega
  have hc : (i = 0 ∧ j = 1) ∨ (i = 0 ∧ j = 2) ∨ (i = 0 ∧ j = 3) ∨ (i = 1 ∧ j = 2) ∨ (i = 1 ∧ j = 3) ∨ (i = 2 ∧ j = 3) := by omega
  rcases hc with ⟨rfl, rfl⟩ | ⟨rfl, rfl⟩ | ⟨rfl, rfl⟩ | ⟨rfl, rfl⟩ | ⟨rfl, rfl⟩ | ⟨rfl, rfl⟩ <;> (simp [escL] at hx hy; subst hx hy; decide)

theorem esc_text : textB aless = true := by decide +kernel
theorem esc_repl : (⟨(replL escL aless.data.toList).toArray⟩ : ByteArray) = ⟨#[97, 38, 108, 116, 59]⟩ := by decide +kernel

set_option maxRecDepth 100000 in
set_option maxHeartbeats 2000000 in
theorem escape_known (w : World) (hT : U8 w) :
    Calls Tryz.prog 9 #[.string ⟨#[97, 60]⟩, .bool false] w fun e w' => e = .returned (.tuple #[.string ⟨#[97, 38, 108, 116, 59]⟩, .int .i64 0]) ∧ Below w.heap.size w w' := by
  have HT := Lib.hid hT
  have HV := Lib.hid esc_text
  have HR := Lib.hid esc_repl
  unfold aless at HV HR
  clear hT
  go_enter Tryz.func9, Tryz.ntmps9
  go_wp2_with fail
  refine (valid_any _ _ (by decide) HT.out).mono ?_
  rintro e w1 ⟨rfl, hb1⟩
  rw [HV.out]
  go_wp2_with fail
  refine (new_any w1.heap.size 8 (pairL escL) _ rfl (by decide) (by omega) (by omega) (fun j u hu => cells_new w1 _ _ j u hu) (pairs_one escL)).mono ?_
  rintro e w2 ⟨b, rfl, hnew, hb2⟩
  obtain ⟨g, cap, hbk, hgb, hcells, hBb⟩ := new_parts hnew (by decide)
  have HRp := Lib.hid (replace_short b g cap 8 (.int .u32 0) escL ⟨#[97, 60]⟩ w2 (by decide) (by decide) (by decide) (by decide) hgb hbk hcells (by decide) esc_keys (by decide) (by decide) (by decide))
  have HBb := Lib.hid hBb
  have HB2 := Lib.hid hb2
  have HB1 := Lib.hid hb1
  clear hnew hbk hgb hcells hBb hb2 hb1
  go_wp2_with fail
  refine HRp.out.mono ?_
  rintro e w3 ⟨rfl, hb3⟩
  rw [HR.out]
  go_wp2
  go_ret2
  have hs1 := HB1.out.size
  have hs3 := HBb.out
  have ha : Below w.heap.size w (w1.alloc (.cells #[.string ⟨#[38]⟩, .string ⟨#[38, 97, 109, 112, 59]⟩, .string ⟨#[60]⟩, .string ⟨#[38, 108, 116, 59]⟩, .string ⟨#[62]⟩, .string ⟨#[38, 103, 116, 59]⟩, .string ⟨#[13]⟩, .string ⟨#[38, 35, 49, 51, 59]⟩] 9)) := HB1.out.alloc hs1 _
  have hs0 := ha.size
  exact ⟨rfl, (ha.trans (HB2.out.mono hs0)).trans (hb3.mono (Nat.le_trans hs0 hs3))⟩

theorem known_name : nameB ⟨#[97, 95, 49]⟩ = true := by decide +kernel
theorem known_text : textB ⟨#[120]⟩ = true := by decide +kernel
theorem known_word : wordB (⟨#[105, 102]⟩ : ByteArray).toList = true := by decide +kernel

set_option maxRecDepth 100000 in
set_option maxHeartbeats 1000000 in
theorem known_any (w : World) (hT : U8 w) :
    Calls Tryz.prog 7 #[] w fun e w' => e = .returned (.bool true) ∧ Below w.heap.size w w' := by
  have HT := Lib.hid hT
  have H1 := Lib.hid known_name
  have H2 := Lib.hid known_text
  have H3 := Lib.hid known_word
  clear hT
  go_enter Tryz.func7, Tryz.ntmps7
  go_wp2_with fail
  refine (escape_known _ HT.out).mono ?_
  rintro e w1 ⟨rfl, hb1⟩
  have HT1 := Lib.hid (HT.out.below hb1)
  go_wp2_with fail
  refine (name_any _ _).mono ?_
  rintro e w' ⟨rfl, rfl⟩
  rw [H1.out]
  go_wp2_with fail
  refine (valid_any _ _ (by decide) HT1.out).mono ?_
  rintro e w2 ⟨rfl, hb2⟩
  rw [H2.out]
  go_wp2_with fail
  refine (word_any _ _).mono ?_
  rintro e w' ⟨rfl, rfl⟩
  rw [H3.out]
  go_wp2
  go_ret
  exact ⟨rfl, hb1.trans (hb2.mono hb1.size)⟩

end Go.Proofs.YtfnodoepeiknhaaGreatDoor
