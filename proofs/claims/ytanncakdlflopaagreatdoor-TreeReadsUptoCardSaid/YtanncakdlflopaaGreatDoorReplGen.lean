/- sync.Once as a Replacer uses it, its first time, whatever the build makes. -/
import Derived.Test.YtanncakdlflopaaGreatDoorReplA
namespace Go.Proofs.YtanncakdlflopaaGreatDoor
open Go.RowKit
set_option linter.unusedVariables false

/-- What stands while the blocks from B on stand. -/
def Firm (B : Nat) (P : World → Prop) : Prop := ∀ w w' : World, w.heap.size ≤ w'.heap.size → (∀ g, B ≤ g → g < w.heap.size → w'.heap[g]? = w.heap[g]?) → P w → P w'
theorem Firm.setCell {B : Nat} {P : World → Prop} (h : Firm B P) {w : World} {a : Addr} (ha : a.block < B) (v : Value) (hp : P w) : P (w.setCell a v) :=
  h _ _ (by simp [World.setCell]) (fun g hB _ => Below.heap_setCell _ _ _ _ (by omega)) hp
theorem Firm.drew {B : Nat} {P : World → Prop} (h : Firm B P) {w : World} (hp : P w) : P w.drew := h w w.drew (Nat.le_refl _) (fun _ _ _ => rfl) hp

set_option maxRecDepth 100000 in
set_option maxHeartbeats 1600000 in
theorem slow_gen (b : Nat) (d2 ov o : Value) (r : Nat → Value) (P : Nat → World → Prop) (w : World) (hP : ∀ R, Firm w.heap.size (P R))
    (hb : w.heap[b]? = some (.cells #[.int .u32 0, .int .i32 0, d2, .nilIface, ov] 163 (0, 0)))
    (hBO : Calls Tryz.prog 109 #[.pointer (some ⟨b, 0, none⟩)] (w.setCell ⟨b, 1, none⟩ (.int .i32 1)) fun e w' => ∃ R, e = .returned (.tuple #[]) ∧ P R w' ∧ Below b (w.setCell ⟨b, 1, none⟩ (.int .i32 1)) w' ∧ w'.heap[b]? = some (.cells #[.int .u32 0, .int .i32 1, d2, r R, o] 163 (0, 0))) :
    Calls Tryz.prog 123 #[.pointer (some ⟨b, 0, none⟩), .func (.func 109) #[.pointer (some ⟨b, 0, none⟩)] #[]] w fun e w' => ∃ R, e = .returned (.tuple #[]) ∧ P R w' ∧ Below b w w' ∧
      w'.heap[b]? = some (.cells #[.int .u32 1, .int .i32 0, d2, r R, o] 163 (0, 0)) := by
  have hbl := block_lt hb
  have hbL := heap_setCell_same w b 1 _ _ (.int .i32 1) hb
  have h0L : (w.setCell ⟨b, 1, none⟩ (.int .i32 1)).cell? ⟨b, 0, none⟩ = some (.int .u32 0) := by rw [cell_of_row _ _ _ _ _ _ hbL]; rfl
  have c1 : w.cell? ⟨b, 1, none⟩ = some (.int .i32 0) := by rw [cell_of_row _ _ _ _ _ _ hb]; rfl
  have z1 := frozen_of_row w b 1 _ _ hb
  have hnot : ∀ (x : Bool) (w : World), (Op.unary .not (.bool x)).run Tryz.prog w = .ok (.bool (!x)) w := fun _ _ => rfl
  have HBO := Lib.hid hBO
  have HP := Lib.hid hP
  clear hb hbL hBO hP
  go_enter_defers Tryz.func123, Tryz.ntmps123
  go_wp2_with (go_at_call 135; refine (s_lock ⟨b, 1, none⟩ _ c1 z1).mono ?_; rintro e w' ⟨rfl, rfl⟩)
  refine (s_load ⟨b, 0, none⟩ _ h0L).mono ?_
  rintro e w' ⟨rfl, rfl⟩
  go_wp2_with fail
  refine HBO.out.mono ?_
  rintro e w2 ⟨R, rfl, hp, hbel, hbR⟩
  have HR := Lib.hid hp
  have HBel := Lib.hid hbel
  have HbR := Lib.hid hbR
  clear hp hbel hbR
  go_wp2
  refine leaves_cons (f := 137) (args := #[.pointer (some ⟨b, 0, none⟩), .bool true]) (by simp) (by simp [go_sem]) ?_
  refine (s_store ⟨b, 0, none⟩ (.int .u32 0) .returning _ (by rw [cell_of_row _ _ _ _ _ _ HbR.out]; rfl) (frozen_of_row _ _ _ _ _ HbR.out)).mono ?_
  rintro e u' w'' ⟨rfl, rfl, rfl⟩
  have hb3 := heap_setCell_same w2.drew b 0 _ _ (.int .u32 1) HbR.out
  refine leaves_cons (f := 136) (args := #[.pointer (some ⟨b, 1, none⟩)]) (by simp [settle]) (by simp [go_sem]) ?_
  refine (s_unlock ⟨b, 1, none⟩ _ _ (by rw [cell_of_row _ _ _ _ _ _ hb3]; rfl) (frozen_of_row _ _ _ _ _ hb3)).mono ?_
  rintro e u' w'' ⟨rfl, rfl, rfl⟩
  have hb4 := heap_setCell_same _ b 1 _ _ (.int .i32 0) hb3
  have hfin : P R ((w2.drew.setCell ⟨b, 0, none⟩ (.int .u32 1)).setCell ⟨b, 1, none⟩ (.int .i32 0)) ∧ Below b w ((w2.drew.setCell ⟨b, 0, none⟩ (.int .u32 1)).setCell ⟨b, 1, none⟩ (.int .i32 0)) :=
    ⟨(HP.out R).setCell (a := ⟨b, 1, none⟩) hbl _ ((HP.out R).setCell (a := ⟨b, 0, none⟩) hbl _ ((HP.out R).drew HR.out)),
      Below.setCell (p := ⟨b, 1, none⟩) (Below.setCell (p := ⟨b, 0, none⟩) ((Below.setCell (p := ⟨b, 1, none⟩) (Below.refl b w) (Nat.le_refl _) _).trans HBel.out).drew (Nat.le_refl _) _) (Nat.le_refl _) _⟩
  have HF := Lib.hid hfin
  have HB4 := Lib.hid hb4
  clear hfin hb4 hb3
  have hres : ∀ (tm : Array Value) (W : World), (results Tryz.f123 tm).run Tryz.prog W = .ok (.tuple #[]) W := fun tm W => by simp [results, Tryz.results123]
  simp only [Leaves, settle, hres]
  exact ⟨_, rfl, R, rfl, HF.out.1, HF.out.2, HB4.out⟩

set_option maxRecDepth 100000 in
set_option maxHeartbeats 1600000 in
theorem do_gen (b : Nat) (d2 ov o : Value) (r : Nat → Value) (P : Nat → World → Prop) (w : World) (hP : ∀ R, Firm w.heap.size (P R))
    (hb : w.heap[b]? = some (.cells #[.int .u32 0, .int .i32 0, d2, .nilIface, ov] 163 (0, 0)))
    (hBO : Calls Tryz.prog 109 #[.pointer (some ⟨b, 0, none⟩)] (w.setCell ⟨b, 1, none⟩ (.int .i32 1)) fun e w' => ∃ R, e = .returned (.tuple #[]) ∧ P R w' ∧ Below b (w.setCell ⟨b, 1, none⟩ (.int .i32 1)) w' ∧ w'.heap[b]? = some (.cells #[.int .u32 0, .int .i32 1, d2, r R, o] 163 (0, 0))) :
    Calls Tryz.prog 108 #[.pointer (some ⟨b, 0, none⟩), .func (.func 109) #[.pointer (some ⟨b, 0, none⟩)] #[]] w fun e w' => ∃ R, e = .returned (.tuple #[]) ∧ P R w' ∧ Below b w w' ∧
      w'.heap[b]? = some (.cells #[.int .u32 1, .int .i32 0, d2, r R, o] 163 (0, 0)) := by
  have HS := Lib.hid (slow_gen b d2 ov o r P w hP hb hBO)
  have c0 : w.cell? ⟨b, 0, none⟩ = some (.int .u32 0) := by rw [cell_of_row _ _ _ _ _ _ hb]; rfl
  have hnot : ∀ (x : Bool) (w : World), (Op.unary .not (.bool x)).run Tryz.prog w = .ok (.bool (!x)) w := fun _ _ => rfl
  clear hb hBO hP
  go_enter Tryz.func108, Tryz.ntmps108
  go_wp2_with fail
  refine (s_load ⟨b, 0, none⟩ _ c0).mono ?_
  rintro e w' ⟨rfl, rfl⟩
  go_wp2_with fail
  refine HS.out.mono ?_
  rintro e w2 ⟨R, rfl, hp, hbel, hbR⟩
  have HR := Lib.hid hp
  have HBel := Lib.hid hbel
  have HbR := Lib.hid hbR
  clear hp hbel hbR
  go_wp2
  go_end0
  exact ⟨R, rfl, HR.out, HBel.out, HbR.out⟩

set_option maxRecDepth 100000 in
set_option maxHeartbeats 1000000 in
/-- buildOnce: r holds what the build makes, the pairs are gone. -/
theorem once_gen (b : Nat) (d0 d1 d2 ov : Value) (t : TypeId) (P : Nat → World → Prop) (w : World) (hP : ∀ R, Firm w.heap.size (P R))
    (hb : w.heap[b]? = some (.cells #[d0, d1, d2, .nilIface, ov] 163 (0, 0)))
    (hB : Calls Tryz.prog 124 #[.pointer (some ⟨b, 0, none⟩)] w fun e w' => ∃ R, e = .returned (.iface t (.pointer (some ⟨R, 0, none⟩))) ∧ P R w' ∧ Below w.heap.size w w') :
    Calls Tryz.prog 109 #[.pointer (some ⟨b, 0, none⟩)] w fun e w' => ∃ R, e = .returned (.tuple #[]) ∧ P R w' ∧ Below b w w' ∧
      w'.heap[b]? = some (.cells #[d0, d1, d2, (.iface t (.pointer (some ⟨R, 0, none⟩))), .slice none 0 0] 163 (0, 0)) := by
  have HB := Lib.hid hb
  have hbl := block_lt hb
  have HBld := Lib.hid hB
  have HP := Lib.hid hP
  clear hb hB hP
  go_enter Tryz.func109, Tryz.ntmps109
  go_wp2_with fail
  refine HBld.out.mono ?_
  rintro e w1 ⟨R, rfl, hst, hbel⟩
  have hb1 : w1.heap[b]? = some (.cells #[d0, d1, d2, .nilIface, ov] 163 (0, 0)) := by rw [hbel.block b hbl]; exact HB.out
  have c3 : w1.cell? ⟨b, 3, none⟩ = some .nilIface := by rw [cell_of_row _ _ _ _ _ _ hb1]; rfl
  have z3 := fun c => frozen_of_row w1 b c _ _ hb1
  have hb2 := heap_setCell_same w1 b 3 _ _ (.iface t (.pointer (some ⟨R, 0, none⟩))) hb1
  have c4 : (w1.setCell ⟨b, 3, none⟩ (.iface t (.pointer (some ⟨R, 0, none⟩)))).cell? ⟨b, 4, none⟩ = some ov := by rw [cell_of_row _ _ _ _ _ _ hb2]; rfl
  have hb3 := heap_setCell_same _ b 4 _ _ (.slice none 0 0) hb2
  have HB2 := Lib.hid hb2
  have HB3 := Lib.hid hb3
  have HBe := Lib.hid hbel
  have HR := Lib.hid hst
  clear hb1 hb2 hb3 hst
  go_wp2
  go_end0
  exact ⟨R, rfl, (HP.out R).setCell (a := ⟨b, 4, none⟩) hbl _ ((HP.out R).setCell (a := ⟨b, 3, none⟩) hbl _ HR.out), Below.setCell (p := ⟨b, 4, none⟩) (Below.setCell (p := ⟨b, 3, none⟩) (HBe.out.mono (Nat.le_of_lt hbl)) (Nat.le_refl _) _) (Nat.le_refl _) _, HB3.out⟩
end Go.Proofs.YtanncakdlflopaaGreatDoor
