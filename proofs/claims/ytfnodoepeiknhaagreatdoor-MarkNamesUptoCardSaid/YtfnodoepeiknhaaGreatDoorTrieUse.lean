/- strings.NewReplacer("\r\n", "\n", "\r", "\n"): built once, used once. (short) -/
import Derived.Test.YtfnodoepeiknhaaGreatDoorTrieRepl
import Derived.Test.YtfnodoepeiknhaaGreatDoorReplGen
namespace Go.Proofs.YtfnodoepeiknhaaGreatDoor
open Go.RowKit
set_option linter.unusedVariables false
set_option linter.unusedSimpArgs false
set_option maxRecDepth 100000

theorem crL_at {w : World} {g : Nat} (hS : Cells w ⟨g, 0, none⟩ crL) (j : Nat) (u : Value) (h : crL[j]? = some u) : w.cell? ⟨g, j, none⟩ = some u := cells_i hS j h

set_option maxHeartbeats 4000000 in
theorem gbuild_any (b g cap : Nat) (d0 d1 d2 : Value) (w : World)
    (hb : w.heap[b]? = some (.cells #[d0, d1, d2, .nilIface, .slice (some ⟨g, 0, none⟩) 4 cap] 96 (0, 0))) (hS : Cells w ⟨g, 0, none⟩ crL) :
    Calls Tryz.prog 80 #[.pointer (some ⟨b, 0, none⟩)] w fun e w' => ∃ R, e = .returned (.iface 148 (.pointer (some ⟨R, 0, none⟩))) ∧ (∃ T n m, w.heap.size ≤ R ∧ w.heap.size ≤ T ∧ w.heap.size ≤ n ∧ w.heap.size ≤ m ∧ TrieAt w' R T n m) ∧ Below w.heap.size w w' := by
  have c4 : w.cell? ⟨b, 4, none⟩ = some (.slice (some ⟨g, 0, none⟩) 4 cap) := by rw [cell_of_row _ _ _ _ _ _ hb]; rfl
  have e0 : w.cell? ⟨g, 0, none⟩ = some (.string ⟨#[13, 10]⟩) := cells_i hS 0 rfl
  have HS := Lib.hid hS
  clear hb hS
  go_enter Tryz.func80, Tryz.ntmps80
  go_wp2
  go_loopw [4, 5] (fun av iv wr => av = .bool true ∧ iv = .int .i64 0 ∧ wr = w) (fun _ _ _ => 0)
  case atStart => exact ⟨rfl, rfl, rfl⟩
  case round =>
    obtain ⟨rfl, rfl, rfl⟩ := hrel
    go_wp2_with (first | (go_at_call 103; (refine (mkgen_any ⟨g, 0, none⟩ cap _ HS.out).mono ?_); rintro e W2 ⟨R, T, n, m, rfl, hM⟩; have HM := Lib.hid hM; clear hM))
    go_ret
    exact ⟨R, rfl, ⟨T, n, m, ((HM.out.get (k := 2) rfl).lt rfl).1, ((HM.out.get (k := 1) rfl).lt rfl).1, ((HM.out.get (k := 0) rfl).lt rfl).1, ((HM.out.get (k := 3) rfl).lt rfl).1,
      ⟨box_cells (HM.out.get (k := 2) rfl) 0, (row_cells (HM.out.get (k := 1) rfl) 0).2.2, box_cells (HM.out.get (k := 0) rfl) 0, box_cells (HM.out.get (k := 3) rfl) 0⟩⟩, HM.out.below⟩

/-- The trie that lies above B. -/
def TrieIn (B R : Nat) (w : World) : Prop := ∃ T n m, B ≤ R ∧ B ≤ T ∧ B ≤ n ∧ B ≤ m ∧ TrieAt w R T n m
theorem cells_hold {w w' : World} {g : Nat} {v : Value} {cs : List Value} (h : Cells w ⟨g, 0, none⟩ (v :: cs)) (e : g < w.heap.size → w'.heap[g]? = w.heap[g]?) : Cells w' ⟨g, 0, none⟩ (v :: cs) := fun j u hj => by
  have hlt : g < w.heap.size := by
    have := block_lt_of_cell (h 0 v rfl)
    simpa [Addr.add] using this
  have := h j u hj
  rw [add_none] at this ⊢
  rw [World.cell?_of_block (w := w) (e hlt)]
  exact this
theorem trie_firm {B : Nat} (R : Nat) : Firm B (TrieIn B R) := by
  rintro w w' _ hk ⟨T, n, m, h1, h2, h3, h4, h⟩
  exact ⟨T, n, m, h1, h2, h3, h4, cells_hold h.root (hk R h1), cells_hold h.tab (hk T h2), cells_hold h.one (hk n h3), cells_hold h.two (hk m h4)⟩
theorem gmethod (d R : Nat) (w : World) : (method (d + 2) 148 (.pointer (some ⟨R, 0, none⟩)) "Replace").run Tryz.prog w = .ok (185, .pointer (some ⟨R, 0, none⟩)) w := by kernel_rfl

set_option maxHeartbeats 4000000 in
/-- (*Replacer).Replace of the line ends' Replacer, its first call. -/
theorem nlrep_any (b g cap : Nat) (d2 : Value) (s : ByteArray) (w : World) (hgb : g ≠ b)
    (hb : w.heap[b]? = some (.cells #[.int .u32 0, .int .i32 0, d2, .nilIface, .slice (some ⟨g, 0, none⟩) 4 cap] 96 (0, 0))) (hS : ∀ (j : Nat) (u : Value), crL[j]? = some u → w.cell? ⟨g, j, none⟩ = some u) (hs : s.size ≤ 1099511627776) :
    Calls Tryz.prog 27 #[.pointer (some ⟨b, 0, none⟩), .string s] w fun e w' => e = .returned (.string ⟨(nlL s.data.toList).toArray⟩) ∧ Below b w w' := by
  have hsz : (w.setCell ⟨b, 1, none⟩ (.int .i32 1)).heap.size = w.heap.size := by simp [World.setCell]
  have hbL := heap_setCell_same w b 1 _ _ (.int .i32 1) hb
  have hS2 : Cells (w.setCell ⟨b, 1, none⟩ (.int .i32 1)) ⟨g, 0, none⟩ crL := fun j u hj => by
    rw [add_none, Nat.zero_add, World.cell?_setCell_other _ _ _ _ (fun e => hgb (by have := congrArg Addr.block e; simpa using this.symm))]
    exact hS j u hj
  have hBld : Calls Tryz.prog 80 #[.pointer (some ⟨b, 0, none⟩)] (w.setCell ⟨b, 1, none⟩ (.int .i32 1)) fun e w' => ∃ R, e = .returned (.iface 148 (.pointer (some ⟨R, 0, none⟩))) ∧ TrieIn w.heap.size R w' ∧ Below (w.setCell ⟨b, 1, none⟩ (.int .i32 1)).heap.size (w.setCell ⟨b, 1, none⟩ (.int .i32 1)) w' := by
    refine (gbuild_any b g cap _ _ _ _ hbL hS2).mono ?_
    rintro e w' ⟨R, rfl, ⟨T, n, m, h1, h2, h3, h4, h5⟩, h6⟩
    rw [hsz] at h1 h2 h3 h4
    exact ⟨R, rfl, ⟨T, n, m, h1, h2, h3, h4, h5⟩, h6⟩
  have HD := Lib.hid (do_gen b d2 _ _ (fun R => .iface 148 (.pointer (some ⟨R, 0, none⟩))) (TrieIn w.heap.size) w (fun R => trie_firm R) hb (once_gen b _ _ _ _ 148 (TrieIn w.heap.size) _ (fun R => by rw [hsz]; exact trie_firm R) hbL hBld))
  have hbl := block_lt hb
  have hmf : ∀ (fn : Fn) (first cap : Array Value) (w : World), (Instr.makeFunc fn first cap).run Tryz.prog w = .ok (.func fn first cap) w := fun _ _ _ _ => rfl
  clear hb hS hS2 hBld hbL hsz
  go_enter Tryz.func27, Tryz.ntmps27
  go_wp2_with fail
  refine HD.out.mono ?_
  rintro e w1 ⟨R, rfl, htr, hbel, hbR⟩
  have c3 : w1.cell? ⟨b, 3, none⟩ = some (.iface 148 (.pointer (some ⟨R, 0, none⟩))) := by rw [cell_of_row _ _ _ _ _ _ hbR]; rfl
  have HR := Lib.hid htr
  have HBel := Lib.hid hbel
  clear htr hbel hbR
  have hmeth := gmethod
  go_wp2_with fail
  obtain ⟨T, n, m, _, _, _, _, hT⟩ := HR.out
  refine (grepl_any R T n m s _ hT hs).mono ?_
  rintro e w2 ⟨rfl, hb2⟩
  go_wp2
  go_ret
  exact ⟨rfl, HBel.out.trans (hb2.mono (by have := HBel.out.size; omega))⟩
end Go.Proofs.YtfnodoepeiknhaaGreatDoor
