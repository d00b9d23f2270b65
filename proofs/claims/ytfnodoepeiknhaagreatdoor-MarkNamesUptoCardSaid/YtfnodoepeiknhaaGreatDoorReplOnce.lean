/- The walks over sync.Once as a Replacer uses it, its first time: the lock is taken, the build is made, 'done' is stored, the lock is let go. -/
import Derived.Test.YtfnodoepeiknhaaGreatDoorReplBuild
import Derived.Defers
import Derived.Laws.Pointers
import Derived.Laws.LoneSync
import Derived.RegionTactic
import Derived.RegionCalls
import Derived.ChangeAlike
namespace Go.Proofs.YtfnodoepeiknhaaGreatDoor
open Go.RowKit
set_option linter.unusedVariables false

theorem s_disable (w : World) : (callFunc 133 #[]).run Tryz.prog w = .ok (.value (.tuple #[])) w := run_call_mark0 Tryz.func133 (by kernel_rfl) (by kernel_rfl) (by kernel_rfl) .disable (by kernel_rfl) w
theorem s_enable (w : World) : (callFunc 135 #[]).run Tryz.prog w = .ok (.value (.tuple #[])) w := run_call_mark0 Tryz.func135 (by kernel_rfl) (by kernel_rfl) (by kernel_rfl) .enable (by kernel_rfl) w
theorem s_acquire (a : Addr) (w : World) : (callFunc 136 #[.pointer (some a)]).run Tryz.prog w = .ok (.value (.tuple #[])) w := run_call_marked Tryz.func136 (by kernel_rfl) (by kernel_rfl) (by kernel_rfl) .acquire (by kernel_rfl) a w
theorem s_release (a : Addr) (w : World) : (callFunc 138 #[.pointer (some a)]).run Tryz.prog w = .ok (.value (.tuple #[])) w := run_call_marked Tryz.func138 (by kernel_rfl) (by kernel_rfl) (by kernel_rfl) .releaseMerge (by kernel_rfl) a w

theorem s_store (a : Addr) (x : Value) (u : FrameMode) (w : World) (hc : w.cell? a = some x) (hz : w.frozen? a = false) :
    CallsD Tryz.prog 101 #[.pointer (some a), .bool true] u w fun e u' w' => u' = u ∧ (e = .returned (.tuple #[]) ∧ w' = w.drew.setCell a (.int .u32 1)) := by
  have hc' : w.drew.cell? a = some x := by go_simp
  have hz' : w.drew.frozen? a = false := by go_simp
  have hst := run_call_store (P := Tryz.prog) Tryz.func121 (by kernel_rfl) (by kernel_rfl) (by kernel_rfl) (by kernel_rfl) (k := .u32) (y := 1) hc' hz'
  go_enter_d Tryz.func101, Tryz.ntmps101
  go_wp2
  go_region_calls
  all_goals (go_end0; exact ⟨rfl, rfl⟩)

set_option maxRecDepth 100000 in
set_option maxHeartbeats 1000000 in
theorem s_unlock (a : Addr) (u : FrameMode) (w : World) (hc : w.cell? a = some (.int .i32 1)) (hz : w.frozen? a = false) :
    CallsD Tryz.prog 100 #[.pointer (some a)] u w fun e u' w' => u' = u ∧ (e = .returned (.tuple #[]) ∧ w' = w.setCell a (.int .i32 0)) := by
  have hd := s_disable
  have he := s_enable
  have hr := s_release
  have hadd := run_call_add (P := Tryz.prog) Tryz.func139 (by kernel_rfl) (by kernel_rfl) (by kernel_rfl) .i32 (by kernel_rfl) (y := -1) (s := 0) hc hz (by simp [go_sem]; rfl)
  have hcv := run_convert_to_unsafe (P := Tryz.prog) (src := 186) (dst := 128) Tryz.underlying186 Tryz.underlying128 (by kernel_rfl) hc
  go_enter_d Tryz.func100, Tryz.ntmps100
  go_wp2
  go_end0
  go_wp2
  go_end0
  exact ⟨rfl, rfl⟩

set_option maxRecDepth 100000 in
set_option maxHeartbeats 1000000 in
theorem s_lock (a : Addr) (w : World) (hc : w.cell? a = some (.int .i32 0)) (hz : w.frozen? a = false) :
    Calls Tryz.prog 99 #[.pointer (some a)] w fun e w' => e = .returned (.tuple #[]) ∧ w' = w.setCell a (.int .i32 1) := by
  have hd := s_disable
  have he := s_enable
  have ha := s_acquire
  have hcas := run_call_cas_hit (P := Tryz.prog) Tryz.func134 (by kernel_rfl) (by kernel_rfl) (by kernel_rfl) .i32 (by kernel_rfl) (y := 1) hc hz
  have hc' : (w.setCell a (.int .i32 1)).cell? a = some (.int .i32 1) := World.cell?_setCell_same w a _ hc
  have hcv := run_convert_to_unsafe (P := Tryz.prog) (src := 186) (dst := 128) Tryz.underlying186 Tryz.underlying128 (by kernel_rfl) hc'
  go_enter Tryz.func99, Tryz.ntmps99
  go_wp2
  first | go_end0 | (simp only [Exit.inBlock, Exit.then]; refine bodyPost_ret (results_none rfl _ _ _) rfl ?_) | refine bodyPost_ret (results_none rfl _ _ _) rfl ?_
  go_wp2
  go_end0
  exact ⟨rfl, rfl⟩

theorem s_load (a : Addr) (w : World) (hc : w.cell? a = some (.int .u32 0)) :
    Calls Tryz.prog 78 #[.pointer (some a)] w fun e w' => e = .returned (.bool false) ∧ w' = w := by
  have hld := run_call_load (P := Tryz.prog) Tryz.func98 (by kernel_rfl) (by kernel_rfl) (by kernel_rfl) .u32 (by kernel_rfl) hc
  go_enter Tryz.func78, Tryz.ntmps78
  go_wp2
  go_ret
  exact ⟨rfl, rfl⟩

set_option maxRecDepth 100000 in
set_option maxHeartbeats 1600000 in
theorem slow_any (b g cap n : Nat) (d2 : Value) (l : List (UInt8 × List UInt8)) (w : World) (n1 : 2 * l.length ≤ n) (n2 : n ≤ 2 * l.length) (hl : 2 ≤ l.length) (h8 : l.length ≤ 100) (hgb : g ≠ b)
    (hb : w.heap[b]? = some (.cells #[.int .u32 0, .int .i32 0, d2, .nilIface, .slice (some ⟨g, 0, none⟩) n cap] 96 (0, 0)))
    (ho : ∀ (j : Nat) (u : Value), (pairL l)[j]? = some u → w.cell? ⟨g, j, none⟩ = some u) (h1 : oneB l = false) (hk : keysOk l) :
    Calls Tryz.prog 79 #[.pointer (some ⟨b, 0, none⟩), .func (.func 51) #[.pointer (some ⟨b, 0, none⟩)] #[]] w fun e w' => ∃ R, e = .returned (.tuple #[]) ∧ Rep w' w.heap.size R l ∧ Below b w w' ∧
      w'.heap[b]? = some (.cells #[.int .u32 1, .int .i32 0, d2, .iface 155 (.pointer (some ⟨R, 0, none⟩)), .slice none 0 0] 96 (0, 0)) := by
  have hbl := block_lt hb
  have hbL := heap_setCell_same w b 1 _ _ (.int .i32 1) hb
  have h0L : (w.setCell ⟨b, 1, none⟩ (.int .i32 1)).cell? ⟨b, 0, none⟩ = some (.int .u32 0) := by rw [cell_of_row _ _ _ _ _ _ hbL]; rfl
  have c1 : w.cell? ⟨b, 1, none⟩ = some (.int .i32 0) := by rw [cell_of_row _ _ _ _ _ _ hb]; rfl
  have z1 := frozen_of_row w b 1 _ _ hb
  have hnot : ∀ (x : Bool) (w : World), (Op.unary .not (.bool x)).run Tryz.prog w = .ok (.bool (!x)) w := fun _ _ => rfl
  have hoL : ∀ (j : Nat) (u : Value), (pairL l)[j]? = some u → (w.setCell ⟨b, 1, none⟩ (.int .i32 1)).cell? ⟨g, j, none⟩ = some u := fun j u hu => by
    rw [World.cell?_setCell_other _ _ _ _ (fun e => hgb (by have := congrArg Addr.block e; simpa using this.symm))]
    exact ho j u hu
  have HBO := Lib.hid (once_any b g cap n (.int .u32 0) (.int .i32 1) d2 l (w.setCell ⟨b, 1, none⟩ (.int .i32 1)) n1 n2 hl h8 hbL hoL h1 hk)
  have HB := Lib.hid hb
  clear ho hoL hb hbL h1 hk
  go_enter_defers Tryz.func79, Tryz.ntmps79
  go_wp2_with (go_at_call 99; refine (s_lock ⟨b, 1, none⟩ _ c1 z1).mono ?_; rintro e w' ⟨rfl, rfl⟩)
  refine (s_load ⟨b, 0, none⟩ _ h0L).mono ?_
  rintro e w' ⟨rfl, rfl⟩
  go_wp2_with fail
  refine HBO.out.mono ?_
  rintro e w2 ⟨R, rfl, hrep, hbel, hbR⟩
  have HR := Lib.hid hrep
  have HBel := Lib.hid hbel
  have HbR := Lib.hid hbR
  clear hrep hbel hbR
  go_wp2
  refine leaves_cons (f := 101) (args := #[.pointer (some ⟨b, 0, none⟩), .bool true]) (by simp) (by simp [go_sem]) ?_
  refine (s_store ⟨b, 0, none⟩ (.int .u32 0) .returning _ (by rw [cell_of_row _ _ _ _ _ _ HbR.out]; rfl) (frozen_of_row _ _ _ _ _ HbR.out)).mono ?_
  rintro e u' w'' ⟨rfl, rfl, rfl⟩
  have hb3 := heap_setCell_same w2.drew b 0 _ _ (.int .u32 1) HbR.out
  refine leaves_cons (f := 100) (args := #[.pointer (some ⟨b, 1, none⟩)]) (by simp [settle]) (by simp [go_sem]) ?_
  refine (s_unlock ⟨b, 1, none⟩ _ _ (by rw [cell_of_row _ _ _ _ _ _ hb3]; rfl) (frozen_of_row _ _ _ _ _ hb3)).mono ?_
  rintro e u' w'' ⟨rfl, rfl, rfl⟩
  have hb4 := heap_setCell_same _ b 1 _ _ (.int .i32 0) hb3
  have hs : (w.setCell ⟨b, 1, none⟩ (.int .i32 1)).heap.size = w.heap.size := by simp [World.setCell]
  have HR2 := HR.out
  rw [hs] at HR2
  have hfin : Rep ((w2.drew.setCell ⟨b, 0, none⟩ (.int .u32 1)).setCell ⟨b, 1, none⟩ (.int .i32 0)) w.heap.size R l ∧ Below b w ((w2.drew.setCell ⟨b, 0, none⟩ (.int .u32 1)).setCell ⟨b, 1, none⟩ (.int .i32 0)) :=
    ⟨Rep.setCell (a := ⟨b, 1, none⟩) (Rep.setCell (a := ⟨b, 0, none⟩) HR2.drew hbl _) hbl _,
      Below.setCell (p := ⟨b, 1, none⟩) (Below.setCell (p := ⟨b, 0, none⟩) ((Below.setCell (p := ⟨b, 1, none⟩) (Below.refl b w) (Nat.le_refl _) _).trans HBel.out).drew (Nat.le_refl _) _) (Nat.le_refl _) _⟩
  have HF := Lib.hid hfin
  have HB4 := Lib.hid hb4
  clear hfin hb4 hb3 HR2
  have hres : ∀ (tm : Array Value) (W : World), (results Tryz.f79 tm).run Tryz.prog W = .ok (.tuple #[]) W := fun tm W => by simp [results, Tryz.results79]
  simp only [Leaves, settle, hres]
  exact ⟨_, rfl, R, rfl, HF.out.1, HF.out.2, HB4.out⟩

set_option maxRecDepth 100000 in
set_option maxHeartbeats 1600000 in
theorem do_any (b g cap n : Nat) (d2 : Value) (l : List (UInt8 × List UInt8)) (w : World) (n1 : 2 * l.length ≤ n) (n2 : n ≤ 2 * l.length) (hl : 2 ≤ l.length) (h8 : l.length ≤ 100) (hgb : g ≠ b)
    (hb : w.heap[b]? = some (.cells #[.int .u32 0, .int .i32 0, d2, .nilIface, .slice (some ⟨g, 0, none⟩) n cap] 96 (0, 0)))
    (ho : ∀ (j : Nat) (u : Value), (pairL l)[j]? = some u → w.cell? ⟨g, j, none⟩ = some u) (h1 : oneB l = false) (hk : keysOk l) :
    Calls Tryz.prog 50 #[.pointer (some ⟨b, 0, none⟩), .func (.func 51) #[.pointer (some ⟨b, 0, none⟩)] #[]] w fun e w' => ∃ R, e = .returned (.tuple #[]) ∧ Rep w' w.heap.size R l ∧ Below b w w' ∧
      w'.heap[b]? = some (.cells #[.int .u32 1, .int .i32 0, d2, .iface 155 (.pointer (some ⟨R, 0, none⟩)), .slice none 0 0] 96 (0, 0)) := by
  have HS := Lib.hid (slow_any b g cap n d2 l w n1 n2 hl h8 hgb hb ho h1 hk)
  have c0 : w.cell? ⟨b, 0, none⟩ = some (.int .u32 0) := by rw [cell_of_row _ _ _ _ _ _ hb]; rfl
  have hnot : ∀ (x : Bool) (w : World), (Op.unary .not (.bool x)).run Tryz.prog w = .ok (.bool (!x)) w := fun _ _ => rfl
  clear hb ho h1 hk
  go_enter Tryz.func50, Tryz.ntmps50
  go_wp2_with fail
  refine (s_load ⟨b, 0, none⟩ _ c0).mono ?_
  rintro e w' ⟨rfl, rfl⟩
  go_wp2_with fail
  refine HS.out.mono ?_
  rintro e w2 ⟨R, rfl, hrep, hbel, hbR⟩
  have HR := Lib.hid hrep
  have HBel := Lib.hid hbel
  have HbR := Lib.hid hbR
  clear hrep hbel hbR
  go_wp2
  go_end0
  exact ⟨R, rfl, HR.out, HBel.out, HbR.out⟩

end Go.Proofs.YtfnodoepeiknhaaGreatDoor
