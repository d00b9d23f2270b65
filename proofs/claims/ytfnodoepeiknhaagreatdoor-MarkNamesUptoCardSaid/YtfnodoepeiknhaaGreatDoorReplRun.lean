/- The walk over (*strings.byteStringReplacer).Replace: short texts, which are gone through byte by byte. -/
import Derived.Test.YtfnodoepeiknhaaGreatDoorReplOnce
import Derived.Test.YtfnodoepeiknhaaGreatDoorReplPlain
import Derived.Laws.CopyOwn
import Derived.Deep.RegionLaw
import Derived.Lib.Strings
namespace Go.Proofs.YtfnodoepeiknhaaGreatDoor
open Go.RowKit
set_option linter.unusedVariables false

theorem b_at {s : ByteArray} {k : Nat} (h : k < s.size) : s.data.toList[k]? = some s[k] := by
  rw [List.getElem?_eq_getElem (by simpa using h)]; rfl
theorem b_take {s : ByteArray} {k : Nat} (h : s.size ≤ k) : s.data.toList.take k = s.data.toList := List.take_of_length_le (by simpa using h)

/-- The table's cell of a byte. -/
theorem rep_cell {w : World} {B R : Nat} {l : List (UInt8 × List UInt8)} (h : Rep w B R l) (c : UInt8) :
    (pairOf l c.toNat = none ∧ w.cell? ⟨R, c.toNat, none⟩ = some (.slice none 0 0)) ∨
    ∃ x g cap, pairOf l c.toNat = some x ∧ w.cell? ⟨R, c.toNat, none⟩ = some (.slice (some ⟨g, 0, none⟩) x.2.length cap) ∧ g < w.heap.size ∧ ∀ i u, x.2[i]? = some u → w.cell? ⟨g, i, none⟩ = some (.int .u8 u.toNat) := by
  obtain ⟨G, T, h1, h2, h3, h4, _⟩ := h
  have hc := cell_of_row _ _ c.toNat _ _ _ h1
  rw [hc]
  rcases h4 c.toNat c.toNat_lt with h | ⟨x, g, cap, a, b, _, _, _, d, e⟩
  · exact Or.inl h
  · exact Or.inr ⟨x, g, cap, a, b, d, e⟩

theorem rep_list {w : World} {B R : Nat} {l : List (UInt8 × List UInt8)} (h : Rep w B R l) : ∃ G, w.cell? ⟨R, 256, none⟩ = some (.slice (some ⟨G, 0, none⟩) l.length l.length) := by
  obtain ⟨G, T, h1, h2, h3, _⟩ := h
  exact ⟨G, by rw [cell_of_row _ _ _ _ _ _ h1]; exact h3⟩

theorem u_info : (Tryz.prog.info? 5).map (fun i => (i.zero, i.size, i.bytes)) = some (some (.int .u8 0), 1, 1) := by kernel_rfl

/-- A byte as a value. -/
def bv (b : UInt8) : Value := .int .u8 b.toNat

theorem set_mid (a r : List Value) (x v : Value) : ((a ++ x :: r).toArray).setIfInBounds a.length v = (a ++ v :: r).toArray := by
  simp

/-- The buffer, filled so far with what stands for the first bytes. -/
def BufAt (w : World) (D N : Nat) (done : List UInt8) : Prop := ∃ rest : List Value, w.heap[D]? = some (.cells (done.map bv ++ rest).toArray 5 (0, 0)) ∧ done.length + rest.length = N

theorem BufAt.cell {w : World} {D N : Nat} {done : List UInt8} (h : BufAt w D N done) (hlt : done.length < N) : (∃ r0, w.cell? ⟨D, done.length, none⟩ = some r0) ∧ w.frozen? ⟨D, done.length, none⟩ = false := by
  obtain ⟨rest, h1, h2⟩ := h
  cases rest with
  | nil => simp at h2; omega
  | cons r0 rest =>
    exact ⟨⟨r0, by rw [cell_of_row _ _ _ _ _ _ h1]; simp⟩, frozen_of_row _ _ _ _ _ h1⟩

theorem BufAt.put {w : World} {D N : Nat} {done : List UInt8} (h : BufAt w D N done) (hlt : done.length < N) (c : UInt8) : BufAt (w.setCell ⟨D, done.length, none⟩ (.int .u8 c.toNat)) D N (done ++ [c]) := by
  obtain ⟨rest, h1, h2⟩ := h
  cases rest with
  | nil => simp at h2; omega
  | cons r0 rest =>
    refine ⟨rest, ?_, by simp at h2 ⊢; omega⟩
    rw [heap_setCell_same _ _ _ _ _ _ h1]
    have := set_mid (done.map bv) rest r0 (.int .u8 c.toNat)
    rw [List.length_map] at this
    rw [this]
    simp [bv]

theorem BufAt.splice {w' : World} {D N : Nat} {done : List UInt8} {rest : List Value} (nw : List UInt8) (h2 : done.length + rest.length = N) (hfit : done.length + nw.length ≤ N)
    (h : w'.heap[D]? = some (.cells (splice (done.map bv ++ rest) done.length (nw.map bv)).toArray 5 (0, 0))) : BufAt w' D N (done ++ nw) := by
  refine ⟨rest.drop nw.length, ?_, by simp; omega⟩
  rw [h]
  congr 3
  unfold Go.splice
  have e1 : (done.map bv).drop (done.length + nw.length) = [] := List.drop_of_length_le (by simp)
  rw [List.take_left' (by simp), List.length_map, List.drop_append, e1, List.length_map, Nat.add_sub_cancel_left]
  simp

theorem nums_back (l : List UInt8) : strOfNums (l.map fun b => (b.toNat : Int)) = ⟨l.toArray⟩ := by
  unfold strOfNums
  congr 2
  rw [List.map_map]
  conv => rhs; rw [← List.map_id l]
  apply List.map_congr_left
  intro b _
  simp

theorem conv_buf {w : World} {D N : Nat} {done : List UInt8} (h : BufAt w D N done) (hN : done.length = N) : (convert 47 9 (.slice (some ⟨D, 0, none⟩) N N)).run Tryz.prog w = .ok (.string ⟨done.toArray⟩) w := by
  obtain ⟨rest, h1, h2⟩ := h
  have hr : rest = [] := List.eq_nil_of_length_eq_zero (by omega)
  subst hr
  have := run_convert_bytes_arg (P := Tryz.prog) w 47 5 Tryz.underlying47 Tryz.underlying5 D 0 N N (done.map fun b => (b.toNat : Int)) (by simpa using hN) (fun i hi => by
    rw [Nat.zero_add, cell_of_row _ _ _ _ _ _ h1]
    have hid : i < done.length := by omega
    simp [bv, List.getD, hid]) 9 Tryz.underlying9
  rw [this, nums_back]

set_option maxRecDepth 100000 in
set_option maxHeartbeats 2000000 in
theorem run_short (B R : Nat) (l : List (UInt8 × List UInt8)) (s : ByteArray) (w : World) (hrep : Rep w B R l) (h8 : s.size < 8 * l.length) (hl : l.length ≤ 100) (hm : ∀ x ∈ l, x.2.length ≤ 100) (hp1 : ∀ x ∈ l, 1 ≤ x.2.length) :
    Calls Tryz.prog 191 #[.pointer (some ⟨R, 0, none⟩), .string s] w fun e w' => e = .returned (.string ⟨(replL l s.data.toList).toArray⟩) ∧ Below w.heap.size w w' := by
  obtain ⟨G, cG⟩ := rep_list hrep
  have HRep := Lib.hid hrep
  have HM := Lib.hid hm
  have hneq := fun W a n c => Go.run_neq_slice_nil (P := Tryz.prog) W 47 5 a n c Tryz.underlying47
  have HP1 := Lib.hid hp1
  obtain ⟨i0, hi, hz0, hz1, hz2⟩ := info_parts u_info
  clear hrep hm hp1
  go_enter Tryz.func191, Tryz.ntmps191
  go_wp2
  go_loop [5, 6, 10] (fun nv av iv => ∃ k : Nat, k ≤ s.size ∧ iv = .int .i64 k ∧ av = .bool (chgB l (s.data.toList.take k)) ∧ ∃ q : Int, nv = .int .i64 q ∧ Hid (q = ((replL l (s.data.toList.take k)).length : Int) + (s.size : Int) - (k : Int)) ∧ 0 ≤ q ∧ q ≤ 1000000) (fun _ _ iv => s.size - (intOf iv).toNat)
  case atStart => exact ⟨0, by omega, rfl, rfl, _, rfl, (show (s.size : Int) = _ by simp [replL]), by omega, by omega⟩
  case round =>
    obtain ⟨k, hk, rfl, rfl, q, rfl, HQ, hq0, hq1⟩ := hrel
    by_cases hlt : k < s.size
    · have hb := b_at hlt
      have HT := Lib.hid (replL_take (l := l) hb)
      have HC := Lib.hid (chgB_take (l := l) hb)
      have hlen := replL_len (m := 100) (by omega) HM.out (s.data.toList.take (k + 1))
      have hlk : (s.data.toList.take (k + 1)).length ≤ k + 1 := List.length_take_le _ _
      have hbnd : (replL l (s.data.toList.take (k + 1))).length ≤ 100 * (k + 1) := Nat.le_trans hlen (Nat.mul_le_mul_left 100 hlk)
      have hbx := s[k].toNat_lt
      clear hb hlen hlk
      rcases rep_cell HRep.out s[k] with ⟨hp, hc⟩ | ⟨x, g, cap, hp, hc, hg, he⟩
      · have HP := Lib.hid hp
        have HL := Lib.hid (show replC l s[k] = [s[k]] by unfold replC; rw [hp])
        clear hp
        go_wp2
        go_round
        case rel =>
          refine ⟨k + 1, by omega, by go_num, by rw [HC.out, HP.out]; simp, q, rfl, ?_, hq0, hq1⟩
          show q = _
          have h1 := HQ.out
          rw [HT.out, HL.out, List.length_append, List.length_singleton]
          omega
        case measure => simp [intOf]; omega
      · have HP := Lib.hid hp
        have hL : replC l s[k] = x.2 := by unfold replC; rw [hp]
        have hx : x.2.length ≤ 100 := HM.out x (List.mem_of_find?_eq_some hp)
        have hT2 : (replL l (s.data.toList.take (k + 1))).length = (replL l (s.data.toList.take k)).length + x.2.length := by rw [HT.out, hL, List.length_append]
        have hq2 : q + ((x.2.length : Int) - 1) ≤ 1000000 := by have := HQ.out; omega
        have hq3 : 0 ≤ q + ((x.2.length : Int) - 1) := by have := HQ.out; omega
        have HT2 := Lib.hid hT2
        clear hp hL hT2 he
        go_wp2
        go_round
        case rel =>
          refine ⟨k + 1, by omega, by go_num, by rw [HC.out, HP.out]; simp, _, rfl, ?_, by omega, by omega⟩
          show _ = _
          have h1 := HQ.out
          have h2 := HT2.out
          omega
        case measure => simp [intOf]; omega
    · have hks : k = s.size := by omega
      have HK := Lib.hid (b_take (s := s) (k := k) (by omega))
      cases hch : chgB l s.data.toList
      · have HR := Lib.hid (replL_same hch)
        rw [HK.out, hch]
        go_wp2
        go_ret
        exact ⟨by rw [HR.out, Lib.mk_data]; rfl, Below.refl _ _⟩
      · rw [HK.out, hch]
        obtain ⟨N, hN⟩ : ∃ N, (replL l s.data.toList).length = N := ⟨_, rfl⟩
        have hqN : q = (N : Int) := by have := HQ.out; rw [HK.out, hN] at this; omega
        subst hqN
        have HN := Lib.hid hN
        have K1 := Lib.hid (show i0.bytes * N ≤ 281474976710656 by rw [hz2]; omega)
        have K2 := Lib.hid (show N ≤ maxLen by unfold maxLen; omega)
        clear hN hch HQ hks
        go_wp2_with (at_make; refine wpList_make_full _ rfl _ _ 47 rfl w.heap.size 5 i0 (.int .u8 0) 1 Tryz.underlying47 hi hz0 hz1 .i64 .i64 _ _ N rfl rfl rfl rfl K1.out K2.out (Nat.le_refl _) ?_; intro w1 hown1 hgrow1)
        have hb1 : Below w.heap.size w w1 := (Below.refl _ w).grown hgrow1 (Nat.le_refl _) (fun _ h => by cases h)
        have hbuf0 : BufAt w1 w.heap.size N [] := by
          obtain ⟨_, ⟨h0, _⟩ | ⟨g, cap, cur, hv, hgB, hh, hnc, hcm, hsz, htk⟩⟩ := hown1
          · cases h0
          · simp only [Value.slice.injEq, Option.some.injEq, Addr.mk.injEq, and_true] at hv
            obtain ⟨rfl, _, rfl⟩ := hv
            exact ⟨cur.toList, by simpa using hh, by simpa using hsz⟩
        have HB1 := Lib.hid hb1
        have HBuf0 := Lib.hid hbuf0
        clear hown1 hgrow1 hb1 hbuf0
        go_loopw [13, 14] (fun jv iv wr => ∃ k j : Nat, k ≤ s.size ∧ iv = .int .i64 k ∧ jv = .int .i64 j ∧ Hid (j = (replL l (s.data.toList.take k)).length) ∧ j ≤ N ∧ Hid (BufAt wr w.heap.size N (replL l (s.data.toList.take k))) ∧ Hid (Below w.heap.size w wr)) (fun _ iv _ => s.size - (intOf iv).toNat)
        case atStart => exact ⟨0, 0, by omega, rfl, rfl, rfl, by omega, HBuf0, HB1⟩
        case round =>
          clear hlt hk HB1 HBuf0
          obtain ⟨k, j, hk, rfl, rfl, HJ, hjN, HBuf, HBel⟩ := hrel
          by_cases hlt : k < s.size
          · have hb := b_at hlt
            have HT := Lib.hid (replL_take (l := l) hb)
            have hbx := s[k].toNat_lt
            have htot : (replL l (s.data.toList.take (k + 1))).length ≤ N := by
              have h1 := replL_app (l := l) (s.data.toList.take (k + 1)) (s.data.toList.drop (k + 1))
              rw [List.take_append_drop] at h1
              have h2 := HN.out
              rw [h1, List.length_append] at h2
              omega
            clear hb
            rcases rep_cell (HRep.out.below HBel.out) s[k] with ⟨hp, hc⟩ | ⟨x, g, cap, hp, hc, hg, he⟩
            · have hL : replC l s[k] = [s[k]] := by unfold replC; rw [hp]
              have hjl : j < N := by rw [HT.out, hL, List.length_append, List.length_singleton] at htot; have := HJ.out; omega
              have HL := Lib.hid hL
              obtain ⟨⟨r0, hr0⟩, hz⟩ := HBuf.out.cell (by have := HJ.out; omega)
              have hput := HBuf.out.put (by have := HJ.out; omega) s[k]
              rw [← HJ.out] at hr0 hz hput
              have HPut := Lib.hid hput
              clear hL hp hput htot
              go_wp2
              go_roundw
              case rel =>
                refine ⟨k + 1, j + 1, by omega, by go_num, by go_num, ?_, by omega, ?_, ?_⟩
                · show _ = _
                  rw [HT.out, HL.out, List.length_append, ← HJ.out]
                  rfl
                · show BufAt _ _ _ _
                  rw [HT.out, HL.out]
                  exact HPut.out
                · exact Below.setCell (p := ⟨w.heap.size, j, none⟩) HBel.out (Nat.le_refl _) _
              case measure => simp [intOf]; omega
            · have hL : replC l s[k] = x.2 := by unfold replC; rw [hp]
              have hx1 : 1 ≤ x.2.length := HP1.out x (List.mem_of_find?_eq_some hp)
              have hjx : j + x.2.length ≤ N := by rw [HT.out, hL, List.length_append] at htot; have := HJ.out; omega
              have HL := Lib.hid hL
              obtain ⟨rest, hre, hrl⟩ := HBuf.out
              have HRe := Lib.hid hre
              have HRl := Lib.hid hrl
              have hj1 : (j : Int) ≤ (N : Int) := by omega
              have hj2 : (j : Int) < (N : Int) := by omega
              have hbi : ((s[k].toNat : Nat) : Int) < 256 := by omega
              have S1 := Lib.hid (show (Tryz.prog.info? 5).map (·.size) = some 1 by rw [hi, Option.map_some, hz1])
              have S2 := Lib.hid (show (x.2.map bv).length = Nat.min x.2.length (N - j) by rw [List.length_map]; exact (Nat.min_eq_left (by omega)).symm)
              have S3 := Lib.hid (show ∀ (i : Nat) (v : Value), (x.2.map bv)[i]? = some v → wr.drew.cell? ((⟨g, 0, none⟩ : Addr).add i) = some v from fun i v hv => by
                have hadd : (⟨g, 0, none⟩ : Addr).add i = ⟨g, i, none⟩ := by unfold Addr.add; split <;> simp_all
                rw [hadd]
                rw [List.getElem?_map] at hv
                cases hu : x.2[i]? with
                | none => rw [hu] at hv; cases hv
                | some u =>
                  rw [hu] at hv
                  simp only [Option.map_some, Option.some.injEq] at hv
                  subst hv
                  exact he i u hu)
              have hNj : ¬ N = j := by omega
              have S4 := Lib.hid (show j + (x.2.map bv).length ≤ ((replL l (s.data.toList.take k)).map bv ++ rest).length by
                have h1 := HJ.out
                rw [List.length_map, List.length_append, List.length_map]; omega)
              have S5 := Lib.hid (show ∀ v ∈ x.2.map bv, v.oneCell' = true by
                intro v hv
                obtain ⟨u, _, rfl⟩ := List.mem_map.1 hv
                rfl)
              clear hL hp he hre hrl htot
              go_wp2
              go_region_law (refine step_copy_splice rfl (.tmp 105) (.tmp 111) 47 47 rfl 5 Tryz.underlying47 S1.out (some ⟨w.heap.size, j, none⟩) (some ⟨g, 0, none⟩) (N - j) (N - j) x.2.length cap (by simp [Act.eval]) (by simp [Act.eval]) w.heap.size j _ 5 HRe.out (x.2.map bv) S2.out (fun _ => ⟨rfl, ⟨g, 0, none⟩, rfl, S3.out⟩) S4.out S5.out w.heap.size w HBel.out.drew (Nat.le_refl _) ?_; intro w4 hg4 hb4)
              go_wp2
              go_roundw
              case rel =>
                refine ⟨k + 1, j + x.2.length, by omega, by go_num, by go_num, ?_, by omega, ?_, ?_⟩
                · show _ = _
                  rw [HT.out, HL.out, List.length_append, ← HJ.out]
                · show BufAt _ _ _ _
                  rw [HT.out, HL.out]
                  have h4 := hg4.out
                  rw [HJ.out] at h4
                  exact BufAt.splice x.2 HRl.out (by have := HJ.out; omega) h4
                · exact hb4
              case measure => simp [intOf]; omega
          · have HK2 := Lib.hid (b_take (s := s) (k := k) (by omega))
            have HCv := Lib.hid (show _ from by have h1 := HBuf.out; rw [HK2.out] at h1; exact conv_buf h1 HN.out)
            have hcv := HCv.out
            go_wp2
            go_ret
            exact ⟨rfl, HBel.out⟩

/-- The method of the value that the interface holds. -/
theorem method_of (d : Nat) (R : Nat) (w : World) : (method (d + 2) 155 (.pointer (some ⟨R, 0, none⟩)) "Replace").run Tryz.prog w = .ok (191, .pointer (some ⟨R, 0, none⟩)) w := by kernel_rfl

set_option maxRecDepth 100000 in
set_option maxHeartbeats 2000000 in
/-- (*Replacer).Replace, its first call. -/
theorem replace_short (b g cap n : Nat) (d2 : Value) (l : List (UInt8 × List UInt8)) (s : ByteArray) (w : World) (n1 : 2 * l.length ≤ n) (n2 : n ≤ 2 * l.length) (hl : 2 ≤ l.length) (h8 : l.length ≤ 100) (hgb : g ≠ b)
    (hb : w.heap[b]? = some (.cells #[.int .u32 0, .int .i32 0, d2, .nilIface, .slice (some ⟨g, 0, none⟩) n cap] 96 (0, 0)))
    (ho : ∀ (j : Nat) (u : Value), (pairL l)[j]? = some u → w.cell? ⟨g, j, none⟩ = some u) (h1 : oneB l = false) (hk : keysOk l)
    (hs : s.size < 8 * l.length) (hm : ∀ x ∈ l, x.2.length ≤ 100) (hp1 : ∀ x ∈ l, 1 ≤ x.2.length) :
    Calls Tryz.prog 27 #[.pointer (some ⟨b, 0, none⟩), .string s] w fun e w' => e = .returned (.string ⟨(replL l s.data.toList).toArray⟩) ∧ Below b w w' := by
  have HD := Lib.hid (do_any b g cap n d2 l w n1 n2 hl h8 hgb hb ho h1 hk)
  have hmf : ∀ (fn : Fn) (first cap : Array Value) (w : World), (Instr.makeFunc fn first cap).run Tryz.prog w = .ok (.func fn first cap) w := fun _ _ _ _ => rfl
  have hbl := block_lt hb
  have HM := Lib.hid hm
  have HP1 := Lib.hid hp1
  clear hb ho h1 hk hm hp1
  go_enter Tryz.func27, Tryz.ntmps27
  go_wp2_with fail
  refine HD.out.mono ?_
  rintro e w1 ⟨R, rfl, hrep, hbel, hbR⟩
  have c3 : w1.cell? ⟨b, 3, none⟩ = some (.iface 155 (.pointer (some ⟨R, 0, none⟩))) := by rw [cell_of_row _ _ _ _ _ _ hbR]; rfl
  have HR := Lib.hid hrep
  have HBel := Lib.hid hbel
  clear hrep hbel hbR
  have hmeth := method_of
  go_wp2_with fail
  refine (run_short w.heap.size R l s _ HR.out hs h8 HM.out HP1.out).mono ?_
  rintro e w2 ⟨rfl, hb2⟩
  go_wp2
  go_ret
  exact ⟨rfl, HBel.out.trans (hb2.mono (by have := HBel.out.size; omega))⟩

end Go.Proofs.YtfnodoepeiknhaaGreatDoor
