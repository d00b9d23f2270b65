/- The byteReplacer: Replace puts a byte in the place of each. (short) strings.NewReplacer("\t", " ", "\n", " "): built once, used once. (short) -/
import Derived.Test.YtanncakdlflopaaGreatDoorTrieB
import Derived.Test.YtanncakdlflopaaGreatDoorEscPlain
namespace Go.Proofs.YtanncakdlflopaaGreatDoor
open Go.RowKit
set_option linter.unusedVariables false
set_option linter.unusedSimpArgs false
set_option maxRecDepth 100000

instance : ArrT Tryz.prog 186 5 256 := ⟨by kernel_rfl, by kernel_rfl⟩
theorem at_byte2 {s : ByteArray} {k : Nat} (h : k < s.size) : s.data.toList[k]? = some s[k] := by
 rw [List.getElem?_eq_getElem (by simpa using h)]; rfl
theorem neq_u8 {a b : UInt8} (h : a ≠ b) : ((a.toNat : Int) != (b.toNat : Int)) = true := by
 rw [bne_iff_ne]
 intro e
 exact h (UInt8.toNat_inj.1 (by omega))

set_option maxHeartbeats 8000000 in
theorem brep_any (R : Nat) (f : UInt8 → UInt8) (s : ByteArray) (w : World) (hR : ∀ c : UInt8, w.cell? ⟨R, 0 + c.toNat, none⟩ = some (.int .u8 (f c).toNat)) (hs : s.size ≤ 1099511627776) :
  Calls Tryz.prog 211 #[.pointer (some ⟨R, 0, none⟩), .string s] w fun e w' => e = .returned (.string ⟨(s.data.toList.map f).toArray⟩) ∧ Below w.heap.size w w' := by
 have HR := Lib.hid hR
 have hRl : R < w.heap.size := by have := block_lt_of_cell (hR 0); exact this
 clear hR
 have heq := fun W p n c => Go.run_eql_slice_nil (P := Tryz.prog) W 62 5 p n c Tryz.underlying62
 go_enter Tryz.func211, Tryz.ntmps211
 go_wp2_with fail
 go_loopw [5, 6, 7] (fun bv iv _ wr => ∃ k : Nat, k ≤ s.size ∧ iv = .int .i64 k ∧ Hid (Below w.heap.size w wr) ∧ ((bv = .slice none 0 0 ∧ Hid (mapK f s.data.toList k = s.data.toList)) ∨ (∃ g cap, bv = .slice (some ⟨g, 0, none⟩) s.size cap ∧ w.heap.size ≤ g ∧ Hid (BytesAt wr g 5 (mapK f s.data.toList k) (cap - s.size))))) (fun _ iv _ _ => s.size - (intOf iv).toNat)
 case atStart => exact ⟨0, by omega, rfl, Lib.hid (Below.refl _ _), .inl ⟨rfl, Lib.hid (mapK_zero _ _)⟩⟩
 case round =>
  obtain ⟨k, hk, rfl, HB, hc⟩ := hrel
  by_cases hlt : k < s.size
  ·have hcR := Lib.hid ((HB.out.cell (p := ⟨R, 0 + (s[k]).toNat, none⟩) hRl).trans (HR.out s[k]))
   have hbyte := (s[k]).toNat_lt
   have HSet := Lib.hid (mapK_set f (at_byte2 hlt))
   have HKeep := Lib.hid (fun h => mapK_keep f (at_byte2 hlt) h)
   have HCell := Lib.hid (mapK_at f (at_byte2 hlt))
   have HAt := Lib.hid (at_byte2 hlt)
   generalize hcc : s[k] = c at *
   by_cases hf : f c = c
   ·have q1 : (((f c).toNat : Int) != (c.toNat : Int)) = false := by rw [hf]; simp
    rcases hc with ⟨rfl, HK⟩ | ⟨g, cap, rfl, hg, HA⟩
    ·as_aux_lemma =>
     replace hf := Lib.hid hf
     go_wp2_with (first | ((with_reducible refine iat 16 ?_); (refine six rfl rfl rfl HAt.out ?_)) | ((with_reducible refine iat 20 ?_); (refine iaa (i := c.toNat) rfl rfl rfl rfl hbyte ?_)) | (refine ldx1 hcR.out rfl ?_))
     go_roundw
     case rel => exact ⟨k + 1, by omega, by go_num, HB, .inl ⟨rfl, Lib.hid (by rw [HKeep.out hf.out]; exact HK.out)⟩⟩
     case measure => simp [intOf]; omega
    ·as_aux_lemma =>
     go_wp2_with (first | ((with_reducible refine iat 16 ?_); (refine six rfl rfl rfl HAt.out ?_)) | ((with_reducible refine iat 20 ?_); (refine iaa (i := c.toNat) rfl rfl rfl rfl hbyte ?_)) | (refine ldx1 hcR.out rfl ?_))
     go_roundw
     case rel => exact ⟨k + 1, by omega, by go_num, HB, .inr ⟨g, cap, rfl, hg, Lib.hid (by rw [HKeep.out hf]; exact HA.out)⟩⟩
     case measure => simp [intOf]; omega
   ·have q1 := neq_u8 hf
    rcases hc with ⟨rfl, HK⟩ | ⟨g, cap, rfl, hg, HA⟩
    ·as_aux_lemma =>
     clear hf
     have hrun := run_bytes_of_string (P := Tryz.prog) wr 9 62 5 s Tryz.underlying9 Tryz.underlying62 Tryz.underlying5
     have hge := grownCap_ge wr s.size 0 5
     generalize grownCap wr s.size 0 5 = cap at *
     have hMade := BytesAt.made wr 5 s cap hge
     have hb2 : Below w.heap.size w (wr.drew.alloc (.cells (bytesRow s cap) 5 ((bytesRow s cap).size, (bytesRow s cap).size + 1))) := HB.out.drew.alloc HB.out.size _
     obtain ⟨g1, hg1⟩ : ∃ g1, wr.heap.size = g1 := ⟨_, rfl⟩
     have hgw : w.heap.size ≤ g1 := by have := HB.out.size; omega
     rw [hg1] at hrun hMade
     rw [← HK.out] at hMade
     generalize wr.drew.alloc (.cells (bytesRow s cap) 5 ((bytesRow s cap).size, (bytesRow s cap).size + 1)) = w2 at *
     have hcR2 := Lib.hid ((hb2.cell (p := ⟨R, 0 + c.toNat, none⟩) hRl).trans (HR.out c))
     have hcell := hMade.cell HCell.out
     have hfree := hMade.free (j := k) (by rw [mapK_len, size_list]; exact hlt)
     have HPut := Lib.hid (hMade.put (j := k) (by rw [mapK_len, size_list]; exact hlt) (f c))
     have HB2 := Lib.hid hb2
     clear hMade hb2 hg1 HCell HB
     go_wp2_with (first | ((with_reducible refine iat 16 ?_); (refine six rfl rfl rfl HAt.out ?_)) | ((with_reducible refine iat 20 ?_); (refine iaa (i := c.toNat) rfl rfl rfl rfl hbyte ?_)) | ((with_reducible refine iat 21 ?_); (refine ldx1 hcR.out rfl ?_)) | ((with_reducible refine iat 33 ?_); (refine iaa (i := c.toNat) rfl rfl rfl rfl hbyte ?_)) | ((with_reducible refine iat 34 ?_); (refine ldx1 hcR2.out rfl ?_)))
     go_roundw
     case rel => exact ⟨k + 1, by omega, by go_num, Lib.hid (Below.setCell (p := ⟨g1, k, none⟩) HB2.out hgw _), .inr ⟨g1, cap, rfl, hgw, Lib.hid (by rw [← HSet.out]; exact HPut.out)⟩⟩
     case measure => simp [intOf]; omega
    ·as_aux_lemma =>
     clear hf
     have hcell := HA.out.cell HCell.out
     have hfree := HA.out.free (j := k) (by rw [mapK_len, size_list]; exact hlt)
     have HPut := Lib.hid (HA.out.put (j := k) (by rw [mapK_len, size_list]; exact hlt) (f c))
     clear HCell
     go_wp2_with (first | ((with_reducible refine iat 16 ?_); (refine six rfl rfl rfl HAt.out ?_)) | ((with_reducible refine iat 20 ?_); (refine iaa (i := c.toNat) rfl rfl rfl rfl hbyte ?_)) | (refine ldx1 hcR.out rfl ?_) | ((with_reducible refine iat 33 ?_); (refine iaa (i := c.toNat) rfl rfl rfl rfl hbyte ?_)))
     go_roundw
     case rel => exact ⟨k + 1, by omega, by go_num, Lib.hid (Below.setCell (p := ⟨g, k, none⟩) HB.out hg _), .inr ⟨g, cap, rfl, hg, Lib.hid (by rw [← HSet.out]; exact HPut.out)⟩⟩
     case measure => simp [intOf]; omega
  ·have HMap := Lib.hid (mapK_all f s.data.toList (k := k) (by rw [size_list]; omega))
   rcases hc with ⟨rfl, HK⟩ | ⟨g, cap, rfl, hg, HA⟩
   ·as_aux_lemma =>
    have HE := Lib.hid (show s = ⟨(s.data.toList.map f).toArray⟩ from ba_eq (by rw [← HMap.out]; exact HK.out.symm))
    go_wp2_with fail
    go_ret
    exact ⟨congrArg (fun x => Ending.returned (.string x)) HE.out, HB.out⟩
   ·as_aux_lemma =>
    have hR2 := HA.out
    rw [HMap.out] at hR2
    have hsz : (s.data.toList.map f).length = s.size := by rw [List.length_map, size_list]
    have hback := run_convert_bytes_back (P := Tryz.prog) wr 62 9 5 ⟨g, 0, none⟩ cap (s.data.toList.map f) Tryz.underlying62 Tryz.underlying5 Tryz.underlying9 (fun j hj => by
     rw [add_none, Nat.zero_add, hR2.cell (List.getElem?_eq_getElem hj)])
    rw [hsz] at hback
    clear hsz hR2
    go_wp2_with fail
    go_ret
    exact ⟨rfl, HB.out⟩
end Go.Proofs.YtanncakdlflopaaGreatDoor

namespace Go.Proofs.YtanncakdlflopaaGreatDoor
open Go.RowKit
set_option linter.unusedVariables false
set_option linter.unusedSimpArgs false
set_option maxRecDepth 100000

def spL : List Value := [.string ⟨#[9]⟩, .string ⟨#[32]⟩, .string ⟨#[10]⟩, .string ⟨#[32]⟩]
def bF (i : Nat) : List Value := (List.range 256).map fun j => .int .u8 (if j < i then (j : Int) else 0)
theorem bF_len (i : Nat) : (bF i).length = 256 := by unfold bF; rw [List.length_map, List.length_range]
theorem bF_zero : bF 0 = mZ := by kernel_rfl
theorem bF_at (i : Nat) {j : Nat} (h : j < 256) : (bF i)[j]? = some (.int .u8 (if j < i then (j : Int) else 0)) := by
 unfold bF; rw [List.getElem?_map, List.getElem?_range h]; rfl
theorem bF_succ {i : Nat} (h : i < 256) : (bF i).set i (.int .u8 i) = bF (i + 1) := by
 apply List.ext_getElem?
 intro j
 rw [List.getElem?_set]
 by_cases hj : j < 256
 ·rw [bF_at _ hj, bF_at _ hj, bF_len]
  by_cases e : i = j
  ·subst e; rw [if_pos rfl, if_pos h, if_pos (by omega)]
  ·rw [if_neg e]
   by_cases h2 : j < i
   ·rw [if_pos h2, if_pos (by omega)]
   ·rw [if_neg h2, if_neg (by omega)]
 ·have h1 : ∀ k, (bF k)[j]? = none := fun k => List.getElem?_eq_none (by rw [bF_len]; omega)
  rw [h1, h1, if_neg (show i ≠ j by omega)]
def bS : Nat → List Value
 | 0 => ((bF 256).set 10 (.int .u8 32)).set 9 (.int .u8 32)
 | 1 => (bF 256).set 10 (.int .u8 32)
 | _ => bF 256
theorem bS_len (m : Nat) : (bS m).length = 256 := by
 rcases m with _ | _ | m
 ·show (((bF 256).set 10 _).set 9 _).length = 256
  rw [List.length_set, List.length_set, bF_len]
 ·show ((bF 256).set 10 _).length = 256
  rw [List.length_set, bF_len]
 ·exact bF_len 256
theorem bS_at (c : UInt8) : (bS 0)[c.toNat]? = some (.int .u8 (spB c).toNat) := by
 have hc : c.toNat < 256 := c.toNat_lt
 show (((bF 256).set 10 _).set 9 _)[c.toNat]? = _
 rw [List.getElem?_set, List.getElem?_set, List.length_set, bF_len, bF_at 256 hc, if_pos hc]
 by_cases h9 : c = 9
 ·subst h9; rfl
 have n9 : ¬ 9 = c.toNat := fun e => h9 (UInt8.toNat_inj.1 (by rw [← e]; rfl))
 rw [if_neg n9]
 by_cases h10 : c = 10
 ·subst h10; rfl
 have n10 : ¬ 10 = c.toNat := fun e => h10 (UInt8.toNat_inj.1 (by rw [← e]; rfl))
 rw [if_neg n10]
 unfold spB
 rw [if_neg (by simp [h9, h10])]
instance : ZeroA Tryz.prog 186 mZ := ⟨fun w => ⟨.agg mZ.toArray, by kernel_rfl, rfl⟩⟩
instance : AggT Tryz.prog 186 256 := ⟨fun w => by kernel_rfl, fun w => by kernel_rfl⟩
/-- The table above B. -/
def SpIn (B R : Nat) (w : World) : Prop := B ≤ R ∧ ∀ c : UInt8, w.cell? ⟨R, 0 + c.toNat, none⟩ = some (.int .u8 (spB c).toNat)

set_option maxHeartbeats 8000000 in
theorem bbuild_any (b g cap : Nat) (d0 d1 d2 : Value) (w : World)
  (hb : w.heap[b]? = some (.cells #[d0, d1, d2, .nilIface, .slice (some ⟨g, 0, none⟩) 4 cap] 163 (0, 0))) (hS : Cells w ⟨g, 0, none⟩ spL) :
  Calls Tryz.prog 124 #[.pointer (some ⟨b, 0, none⟩)] w fun e w' => ∃ R, e = .returned (.iface 187 (.pointer (some ⟨R, 0, none⟩))) ∧ SpIn w.heap.size R w' ∧ Below w.heap.size w w' := by
 have c4 : w.cell? ⟨b, 4, none⟩ = some (.slice (some ⟨g, 0, none⟩) 4 cap) := by rw [cell_of_row _ _ _ _ _ _ hb]; rfl
 have e0 : w.cell? ⟨g, 0, none⟩ = some (.string ⟨#[9]⟩) := cells_i hS 0 rfl
 have e1 : w.cell? ⟨g, 1, none⟩ = some (.string ⟨#[32]⟩) := cells_i hS 1 rfl
 have e2 : w.cell? ⟨g, 2, none⟩ = some (.string ⟨#[10]⟩) := cells_i hS 2 rfl
 have e3 : w.cell? ⟨g, 3, none⟩ = some (.string ⟨#[32]⟩) := cells_i hS 3 rfl
 have HM := Lib.hid (Mem.start w)
 clear hb hS
 go_enter Tryz.func124, Tryz.ntmps124
 go_wp2
 go_loopw [4, 5] (fun av iv wr => ∃ j : Nat, j ≤ 2 ∧ av = .bool true ∧ iv = .int .i64 (2 * (j : Int)) ∧ w = wr) (fun _ iv _ => 4 - (intOf iv).toNat)
 case atStart => exact ⟨0, by omega, rfl, rfl, rfl⟩
 case round =>
  obtain ⟨j, hj, rfl, rfl, rfl⟩ := hrel
  rcases j with _ | _ | j
  ·as_aux_lemma =>
   go_wp2
   go_roundw
   case rel => exact ⟨1, by omega, rfl, rfl, trivial⟩
   case measure => simp [intOf]
  ·as_aux_lemma =>
   go_wp2
   go_roundw
   case rel => exact ⟨2, by omega, rfl, rfl, trivial⟩
   case measure => simp [intOf]
  ·obtain rfl : j = 0 := by omega
   go_wp2_with (first | ((with_reducible refine skip_op ?_ ?_); exact rfl) | refine mP ?_ | (refine mS ?_; clear HM; intro W1 HM) | (refine mL ?_; clear HM; intro g1 W1 HM) | (refine hal (dst := some 6) HM rfl ?_; clear HM; intro g6 W1 HM) | (refine hal HM rfl ?_; clear HM; intro g1 W1 HM))
   have HM1 := Lib.hid (show Mem w W1 [.box g6 186 (bF 0)] by rw [bF_zero]; exact HM.out)
   clear HM
   have HM := HM1
   clear HM1
   go_loopw [61, 7] (fun iv _ wr => ∃ i : Nat, i ≤ 256 ∧ iv = .int .i64 (i : Int) ∧ Hid (Mem w wr [.box g6 186 (bF i)])) (fun iv _ _ => 256 - (intOf iv).toNat)
   case atStart => exact ⟨0, by omega, rfl, HM⟩
   case round =>
    clear HM
    obtain ⟨i, hi, rfl, HM⟩ := hrel
    by_cases hlt : i < 256
    ·as_aux_lemma =>
     have q1 : decide ((i : Int) < 256) = true := decide_eq_true (by omega)
     have hm : (i : Int) % 256 = i := by omega
     have HSu := Lib.hid (bF_succ hlt)
     go_wp2_with (first | ((with_reducible refine iat 67 ?_); (refine iaa (i := i) rfl rfl rfl rfl hlt ?_)) | (refine stb1 (i := 0 + i) (v := .int .u8 i) rfl HM.out 0 rfl rfl rfl rfl (decide_eq_true (by rw [bF_len]; omega)) ?_; intro W1 HM1; replace HM := Lib.hid HM1; clear HM1; simp only [List.set] at HM))
     go_roundw
     case rel => exact ⟨i + 1, by omega, by go_num, Lib.hid (by rw [← HSu.out]; have := HM.out; rw [Nat.zero_add] at this; exact this)⟩
     case measure => simp [intOf]; omega
    ·obtain rfl : i = 256 := by omega
     go_wp2_with fail
     go_loopw [8, 9, 10] (fun iv _ _ wr => ∃ m : Nat, m ≤ 2 ∧ iv = .int .i64 (2 * (m : Int) - 2) ∧ Hid (Mem w wr [.box g6 186 (bS m)])) (fun iv _ _ _ => (intOf iv + 2).toNat)
     case atStart => exact ⟨2, by omega, rfl, HM⟩
     case round =>
      clear HM
      obtain ⟨m, hm, rfl, HM⟩ := hrel
      rcases m with _ | _ | m
      ·as_aux_lemma =>
       go_wp2_with fail
       go_ret
       exact ⟨g6, rfl, ⟨((HM.out.get (k := 0) rfl).lt rfl).1, fun c => by
        rw [Nat.zero_add]
        exact cells_i (box_cells (HM.out.get (k := 0) rfl) 0) c.toNat (bS_at c)⟩, HM.out.below⟩
      ·as_aux_lemma =>
       have l0 := HM.out.old e0
       have l1 := HM.out.old e1
       clear e0 e1 e2 e3
       go_wp2_with (first | ((with_reducible refine iat 89 ?_); (refine iaa (i := 9) rfl rfl rfl rfl (by decide) ?_)) | (refine stb1 (i := 9) (v := .int .u8 32) rfl HM.out 0 rfl rfl rfl rfl (decide_eq_true (by rw [bS_len]; decide)) ?_; intro W1 HM1; replace HM := Lib.hid HM1; clear HM1; simp only [List.set] at HM))
       go_roundw
       case rel => exact ⟨0, by omega, rfl, Lib.hid HM.out⟩
       case measure => simp [intOf]
      ·obtain rfl : m = 0 := by omega
       as_aux_lemma =>
       have l2 := HM.out.old e2
       have l3 := HM.out.old e3
       clear e0 e1 e2 e3
       go_wp2_with (first | ((with_reducible refine iat 89 ?_); (refine iaa (i := 10) rfl rfl rfl rfl (by decide) ?_)) | (refine stb1 (i := 10) (v := .int .u8 32) rfl HM.out 0 rfl rfl rfl rfl (decide_eq_true (by rw [bS_len]; decide)) ?_; intro W1 HM1; replace HM := Lib.hid HM1; clear HM1; simp only [List.set] at HM))
       go_roundw
       case rel => exact ⟨1, by omega, rfl, Lib.hid HM.out⟩
       case measure => simp [intOf]
theorem sp_firm {B : Nat} (R : Nat) : Firm B (SpIn B R) := by
 rintro w w' _ hk ⟨h1, h2⟩
 refine ⟨h1, fun c => ?_⟩
 have hlt : R < w.heap.size := block_lt_of_cell (h2 c)
 rw [World.cell?_of_block (w := w) (hk R h1 hlt)]
 exact h2 c
theorem bmethod (d R : Nat) (w : World) : (method (d + 2) 187 (.pointer (some ⟨R, 0, none⟩)) "Replace").run Tryz.prog w = .ok (211, .pointer (some ⟨R, 0, none⟩)) w := by kernel_rfl

set_option maxHeartbeats 4000000 in
/-- (*Replacer).Replace of the blanks' Replacer, its first call. -/
theorem sprep_any (b g cap : Nat) (d2 : Value) (s : ByteArray) (w : World) (hgb : g ≠ b)
  (hb : w.heap[b]? = some (.cells #[.int .u32 0, .int .i32 0, d2, .nilIface, .slice (some ⟨g, 0, none⟩) 4 cap] 163 (0, 0))) (hS : ∀ (j : Nat) (u : Value), spL[j]? = some u → w.cell? ⟨g, j, none⟩ = some u) (hs : s.size ≤ 1099511627776) :
  Calls Tryz.prog 88 #[.pointer (some ⟨b, 0, none⟩), .string s] w fun e w' => e = .returned (.string ⟨(s.data.toList.map spB).toArray⟩) ∧ Below b w w' := by
 have hsz : (w.setCell ⟨b, 1, none⟩ (.int .i32 1)).heap.size = w.heap.size := by simp [World.setCell]
 have hbL := heap_setCell_same w b 1 _ _ (.int .i32 1) hb
 have hS2 : Cells (w.setCell ⟨b, 1, none⟩ (.int .i32 1)) ⟨g, 0, none⟩ spL := fun j u hj => by
  rw [add_none, Nat.zero_add, World.cell?_setCell_other _ _ _ _ (fun e => hgb (by have := congrArg Addr.block e; simpa using this.symm))]
  exact hS j u hj
 have hBld : Calls Tryz.prog 124 #[.pointer (some ⟨b, 0, none⟩)] (w.setCell ⟨b, 1, none⟩ (.int .i32 1)) fun e w' => ∃ R, e = .returned (.iface 187 (.pointer (some ⟨R, 0, none⟩))) ∧ SpIn w.heap.size R w' ∧ Below (w.setCell ⟨b, 1, none⟩ (.int .i32 1)).heap.size (w.setCell ⟨b, 1, none⟩ (.int .i32 1)) w' := by
  refine (bbuild_any b g cap _ _ _ _ hbL hS2).mono ?_
  rintro e w' ⟨R, rfl, ⟨h1, h2⟩, h6⟩
  rw [hsz] at h1
  exact ⟨R, rfl, ⟨h1, h2⟩, h6⟩
 have HD := Lib.hid (do_gen b d2 _ _ (fun R => .iface 187 (.pointer (some ⟨R, 0, none⟩))) (SpIn w.heap.size) w (fun R => sp_firm R) hb (once_gen b _ _ _ _ 187 (SpIn w.heap.size) _ (fun R => by rw [hsz]; exact sp_firm R) hbL hBld))
 have hbl := block_lt hb
 have hmf : ∀ (fn : Fn) (first cap : Array Value) (w : World), (Instr.makeFunc fn first cap).run Tryz.prog w = .ok (.func fn first cap) w := fun _ _ _ _ => rfl
 clear hb hS hS2 hBld hbL hsz
 go_enter Tryz.func88, Tryz.ntmps88
 go_wp2_with fail
 refine HD.out.mono ?_
 rintro e w1 ⟨R, rfl, htr, hbel, hbR⟩
 have c3 : w1.cell? ⟨b, 3, none⟩ = some (.iface 187 (.pointer (some ⟨R, 0, none⟩))) := by rw [cell_of_row _ _ _ _ _ _ hbR]; rfl
 have HR := Lib.hid htr
 have HBel := Lib.hid hbel
 clear htr hbel hbR
 have hmeth := bmethod
 go_wp2_with fail
 refine (brep_any R spB s _ HR.out.2 hs).mono ?_
 rintro e w2 ⟨rfl, hb2⟩
 go_wp2
 go_ret
 exact ⟨rfl, HBel.out.trans (hb2.mono (by have := HBel.out.size; omega))⟩
end Go.Proofs.YtanncakdlflopaaGreatDoor
