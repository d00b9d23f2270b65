/- A strings.Builder that the call has made: its box and its row of bytes among the call's own pieces; what each method makes of them. (short) -/
import Derived.Test.YtanncakdlflopaaGreatDoorTypes
import Derived.Test.YtanncakdlflopaaGreatDoorSepA
import Derived.Lib.Builder
import Derived.Lib.AppendStr
import Derived.Lib.UnsafeStr
import Derived.Laws.Externs
import Derived.RegionTactic
namespace Go.Proofs.YtanncakdlflopaaGreatDoor
open Go.RowKit
set_option linter.unusedVariables false
set_option linter.unusedSimpArgs false
set_option maxRecDepth 100000

/-- An append of a text's bytes to a row of the call's own. -/
theorem run_append_str {P : Program} (W : World) (B : Nat) (t u ty e : TypeId) (i : TypeInfo) (ht : P.underlying t = some (.slice e)) (hu : P.underlying u = some .string) (hi : P.info? e = some i) (hz : i.zero = some (.int .u8 0))
  (hsize : i.size = 1) (hby : i.bytes = 1) (p : Option Addr) (cap n : Nat) (cs : List Value) (hown : (Res.row p cap e 1 n cs).holds B W) (s : ByteArray)
  (h63 : n + s.size ≤ maxLen) (hbytes : n + s.size ≤ 140737488355328) (hbase : B ≤ W.heap.size) :
  ∃ p' cap' W', (Builtin.append_ #[t, u] ty #[.slice p n cap, .string s]).run P W = .ok (.slice p' (n + s.size) cap') W' ∧ (Res.row p' cap' e 1 (n + s.size) (cs ++ Lib.strCells s)).holds B W' ∧
   W.grownBy W' (p.map (·.block)) ∧ (∀ g, p'.map (·.block) = some g → p.map (·.block) = some g ∨ W.heap.size ≤ g) := by
 have hsmall : n + s.size ≤ 9223372036854775807 := by simp only [maxLen] at h63; omega
 have hxl : cs.length = n := by simpa using (row_cap hown).2.2
 have hlen : (cs ++ Lib.strCells s).length = (n + s.size) * 1 := by rw [List.length_append, hxl, Lib.strCells_length, Nat.mul_one]
 have grown : ∀ (old : Nat), old < n + s.size → ∀ (row : Option Nat),
   (W.drew.alloc (.cells (cs.toArray ++ (Lib.strCells s).toArray ++ Builtin.zeroCells (Value.int .u8 0).cells (grownCap W (n + s.size) old e - (n + s.size))) e)).ownsRow B e 1
    (.slice (some ⟨W.heap.size, 0, none⟩) (n + s.size) (grownCap W (n + s.size) old e)) (n + s.size) (cs ++ Lib.strCells s) ∧
   W.grownBy (W.drew.alloc (.cells (cs.toArray ++ (Lib.strCells s).toArray ++ Builtin.zeroCells (Value.int .u8 0).cells (grownCap W (n + s.size) old e - (n + s.size))) e)) row := by
  intro old ho row
  have hge := grownCap_ge W (n + s.size) old e
  have hcm : grownCap W (n + s.size) old e ≤ maxLen := grownCap_le_maxLen W (n + s.size) old e h63
  refine ⟨⟨hlen, .inr ⟨W.heap.size, _, _, rfl, hbase, heap_alloc_new W.drew _, hge, hcm, ?_, ?_⟩⟩, ⟨rfl, rfl, rfl, by simp, fun k hk _ => Lib.alloc_old W.drew _ k hk⟩⟩
  ·have hz1 : (Value.int IntKind.u8 0).cells.size = 1 := rfl
   simp only [Array.size_append, List.size_toArray, size_zeroCells, hz1, hxl, Lib.strCells_length]
   omega
  ·simp only [Array.toList_append, List.append_assoc]
   rw [← List.append_assoc, ← hlen]
   exact List.take_left
 have hown0 := hown
 obtain ⟨_, ⟨h0, hn0⟩ | ⟨g, cap', cur, hv, hbg, hg, hnc, hcm, hcs, htake⟩⟩ := (hown0 : W.ownsRow _ _ _ _ _ _)
 ·simp only [Value.slice.injEq] at h0
  obtain ⟨rfl, -, rfl⟩ := h0
  subst hn0
  have hx : cs = [] := List.eq_nil_of_length_eq_zero hxl
  subst hx
  by_cases hm : s.size = 0
  ·have hn : Lib.strCells s = [] := List.eq_nil_of_length_eq_zero (by rw [Lib.strCells_length]; exact hm)
   refine ⟨none, 0, W, ?_, by rw [hm, hn]; exact hown, ⟨rfl, rfl, rfl, Nat.le_refl _, fun _ _ _ => rfl⟩, by simp⟩
   have hf := Lib.run_firstCells_string (P := P) W 1 s
   rw [hm] at hf
   simp [Builtin.append_, run_underlying ht, run_underlying hu, sizeOf, typeInfo, hi, hsize, Builtin.lenOf, hm, hf]
  ·have hr := run_append_nil_string (P := P) W t u ty e i (.int .u8 0) ht hu hi hz s (by omega) (by omega) (by rw [hby]; omega)
   have hgr := grown 0 (by omega) ((none : Option Addr).map (·.block))
   simp only [Nat.zero_add, List.nil_append, Array.empty_append] at hgr ⊢
   have e1 : (s.data.map fun b => Value.int .u8 b.toNat) = (Lib.strCells s).toArray := by
    apply Array.ext'
    simp [Lib.strCells]
   rw [e1] at hr
   exact ⟨_, _, _, hr, hgr.1, hgr.2, fun g hg => Or.inr (by simp only [Option.map_some, Option.some.injEq] at hg; omega)⟩
 ·simp only [Value.slice.injEq] at hv
  obtain ⟨rfl, -, rfl⟩ := hv
  by_cases hroom : n + s.size ≤ cap
  ·have hcs' : cur.size = cap := by simpa using hcs
   have hr := Lib.run_append_room_string (P := P) W t u ty e i ht hu hi hsize g n cap cur hg s hroom (by omega)
   refine ⟨_, _, _, hr, ⟨hlen, .inr ⟨g, cap, _, rfl, hbg, setRow_heap W g cur _ e _ hg, hroom, hcm, ?_, ?_⟩⟩, ⟨rfl, rfl, rfl, by simp, fun k _ hk => setRow_other W g k _ (fun e => hk (by simp [e]))⟩, fun g h => Or.inl h⟩
   ·simp only [List.size_toArray, List.length_append, List.length_take, List.length_drop, Array.length_toList, Lib.strCells_length]
    omega
   ·have ht' : cur.toList.take n = cs := by simpa using htake
    rw [ht', ← hlen]
    exact List.take_left
  ·have holds : Cells W ⟨g, 0, none⟩ cs := by simpa using (row_cells hown 0).2.2
   have hr := Lib.run_append_grow_string (P := P) W t u ty e i (.int .u8 0) ht hu hi hz ⟨g, 0, none⟩ n cap cs (by rw [hsize]; simpa using hxl) holds s (by omega) (by omega) (by rw [hby]; exact growslice_fits (by omega) (by omega))
   have hgr := grown cap (by omega) ((some (⟨g, 0, none⟩ : Addr)).map (·.block))
   exact ⟨_, _, _, hr, hgr.1, hgr.2, fun g hg => Or.inr (by simp only [Option.map_some, Option.some.injEq] at hg; omega)⟩

section
variable {P : Program} {ops : Array Oper} {Q : Exit → Act → World → Prop} {a : Act} {W W' w0 : World} {rest : List Oper} {L : List Res}
variable {dst : Option Tmp} {ty0 : TypeId} {pos : String} {after : Array Edge} {gd : Option (Nat × Bool)}
theorem aps {t u e : TypeId} [hR : RowT P t e 1 1 (.int .u8 0)] {s x : Operand} {p : Option Addr} {cap n : Nat} {cs : List Value} {str : ByteArray} (hw : Region.wanted ⟨dst, .call { callee := .builtin .append, args := #[s, x], argTypes := #[t, u] }, ty0, pos, after, gd⟩ (yielded ops a.tmps) = true)
  (hu : P.underlying u = some .string) (HM : Mem w0 W L) (j : Nat) (hj : L[j]? = some (.row p cap e 1 n cs)) (hs : a.eval s = .slice p n cap) (hx : a.eval x = .string str) (h47 : n + str.size ≤ 140737488355328)
  (h : ∀ p' cap' W', Mem w0 W' (L.set j (.row p' cap' e 1 (n + str.size) (cs ++ Lib.strCells str))) → wpList P ops Q (⟨dst, .move (.const (.slice p' (n + str.size) cap')), ty0, pos, after, gd⟩ :: rest) a W') :
  wpList P ops Q (⟨dst, .call { callee := .builtin .append, args := #[s, x], argTypes := #[t, u] }, ty0, pos, after, gd⟩ :: rest) a W := by
 obtain ⟨i, hi, hz, hsz, hby⟩ := rowT_parts hR
 obtain ⟨p', cap', W', hr, hown, hg, hn⟩ := run_append_str (P := P) W w0.heap.size t u ty0 e i hR.under hu hi hz hsz hby p cap n cs (HM.get hj) str (by unfold maxLen; omega) h47 HM.below.size
 refine as_moveW (o := ⟨dst, .call { callee := .builtin .append, args := #[s, x], argTypes := #[t, u] }, ty0, pos, after, gd⟩) hw ?_ (h _ _ _ (HM.turn hj hg hown hn))
 simp only [execOp, resolve, invoke, builtin, Sem.run_bind, Sem.run_pure, Result.andThen_ok, List.map_toArray, List.map_cons, List.map_nil, hs, hx, hr]
end

/-- What a builder's box holds. -/
abbrev bldC (pv : Value) (p : Option Addr) (n cap : Nat) : List Value := [pv, .slice p n cap]
def BldP (b : Nat) (pv : Value) : Prop := pv = .pointer none ∨ pv = .pointer (some ⟨b, 0, none⟩)
theorem box_shape {B : Nat} {W : World} {g : Nat} {t : TypeId} {cs : List Value} (h : (Res.box g t cs).holds B W) : W.shape? g = some (t, cs.length) := by
 simp [World.shape?, h.2]

theorem bld_size : (Tryz.prog.info? 69).map (·.size) = some 2 := by kernel_rfl
theorem bld_lies : liesAt Tryz.prog Tryz.prog.depth 69 (2 / Tryz.prog.cellsOf 69) 0 69 1 = true := by kernel_rfl

set_option maxHeartbeats 4000000 in
theorem bcheck_fresh (b n cap : Nat) (p : Option Addr) (w0 W : World) (L : List Res) (h : Mem w0 W (.box b 69 (bldC (.pointer none) p n cap) :: L)) :
  Calls Tryz.prog 47 #[.pointer (some ⟨b, 0, none⟩)] W fun e W' => e = .returned (.tuple #[]) ∧ Mem w0 W' (.box b 69 (bldC (.pointer (some ⟨b, 0, none⟩)) p n cap) :: L) := by
 have HM := Lib.hid h
 obtain ⟨j, hj, hjs⟩ := Option.map_eq_some_iff.1 bld_size
 have hsh := box_shape (h.get (k := 0) rfl)
 have c1 : (convert 67 113 (.pointer (some ⟨b, 0, none⟩))).run Tryz.prog W = .ok (.pointer (some ⟨b, 0, none⟩)) W :=
  Lib.run_to_unsafe W ⟨b, 0, none⟩ (by kernel_rfl) (by kernel_rfl) hj (by rw [hjs]; decide) hsh (Nat.zero_lt_succ 1)
 have c2 : (callFunc 83 #[.pointer (some ⟨b, 0, none⟩)]).run Tryz.prog W = .ok (.value (.pointer (some ⟨b, 0, none⟩))) W := by
  rw [run_callFunc_extern Tryz.func83 (by kernel_rfl) (by kernel_rfl) (by kernel_rfl) (e := Extern.AbiNoEscape.same) (by kernel_rfl)]
  rw [Lib.run_noEscape]
  rfl
 have c3 : (convert 113 67 (.pointer (some ⟨b, 0, none⟩))).run Tryz.prog W = .ok (.pointer (some ⟨b, 0, none⟩)) W :=
  Lib.run_from_unsafe W ⟨b, 0, none⟩ (by kernel_rfl) (by kernel_rfl) hj hsh bld_lies
 clear h hj hjs hsh
 go_enter Tryz.func47, Tryz.ntmps47
 go_wp2_with (first | refine mP ?_ | (refine mS ?_; clear HM; intro W1 HM))
 go_end0
 exact ⟨rfl, HM.out⟩

set_option maxHeartbeats 4000000 in
theorem bcheck_any (b n cap : Nat) (p : Option Addr) (pv : Value) (hp : BldP b pv) (w0 W : World) (L : List Res) (h : Mem w0 W (.box b 69 (bldC pv p n cap) :: L)) :
  Calls Tryz.prog 47 #[.pointer (some ⟨b, 0, none⟩)] W fun e W' => e = .returned (.tuple #[]) ∧ Mem w0 W' (.box b 69 (bldC (.pointer (some ⟨b, 0, none⟩)) p n cap) :: L) := by
 rcases hp with rfl | rfl
 ·exact bcheck_fresh b n cap p w0 W L h
 ·have HM := Lib.hid h
  obtain ⟨j, hj, hjs⟩ := Option.map_eq_some_iff.1 bld_size
  have c1 : (binOp .neq 67 (.pointer (some ⟨b, 0, none⟩)) (.pointer (some ⟨b, 0, none⟩))).run Tryz.prog W = .ok (.bool false) W := Lib.run_neq_ptr_same W ⟨b, 0, none⟩ (te := 69) (by kernel_rfl) hj
  clear h hj hjs
  go_enter Tryz.func47, Tryz.ntmps47
  go_wp2_with (first | refine mP ?_ | (refine mS ?_; clear HM; intro W1 HM))
  go_end0
  exact ⟨rfl, HM.out⟩

set_option maxHeartbeats 4000000 in
theorem bwrite_any (b n cap : Nat) (p : Option Addr) (pv : Value) (hp : BldP b pv) (cs : List Value) (s : ByteArray) (w0 W : World) (L : List Res) (h : Mem w0 W (.box b 69 (bldC pv p n cap) :: .row p cap 5 1 n cs :: L)) (h47 : n + s.size ≤ 140737488355328) :
  Calls Tryz.prog 32 #[.pointer (some ⟨b, 0, none⟩), .string s] W fun e W' => e = .returned (.tuple #[.int .i64 s.size, .nilIface]) ∧ ∃ p' cap', Mem w0 W' (.box b 69 (bldC (.pointer (some ⟨b, 0, none⟩)) p' (n + s.size) cap') :: .row p' cap' 5 1 (n + s.size) (cs ++ Lib.strCells s) :: L) := by
 have HM := Lib.hid h
 have HC := Lib.hid (bcheck_any b n cap p pv hp w0 W _ h)
 clear h hp
 go_enter Tryz.func32, Tryz.ntmps32
 go_wp2_with (first | (go_at_call 47; (with_reducible refine cM HC.out ?_); clear HM; intro W1 HM) | ((with_reducible refine iat 14 ?_); (refine aps rfl (by kernel_rfl) HM.out 1 rfl rfl rfl h47 ?_; intro p1 cap1 W1 HM1; replace HM := Lib.hid HM1; clear HM1; simp only [List.set] at HM)) | refine mP ?_ | (refine mS ?_; clear HM; intro W1 HM))
 go_ret2
 exact ⟨rfl, _, _, HM.out⟩

theorem freeze_grown (W : World) (g n : Nat) : W.grownBy (W.drew.freeze ⟨g, 0, none⟩ n) (some g) := by
 unfold World.freeze
 split
 ·exact ⟨rfl, rfl, rfl, Nat.le_refl _, fun _ _ _ => rfl⟩
 ·exact ⟨rfl, rfl, rfl, by simp, fun k hk hne => by
   simp only [Array.getElem?_modify]
   rw [if_neg (fun e => hne (by rw [← e]))]
   rfl⟩
/-- A piece given up. -/
theorem Mem.lose {w0 W W' : World} {r : Res} {L : List Res} (h : Mem w0 W (r :: L)) (hg : W.grownBy W' r.blk) : Mem w0 W' L := by
 have hr0 := h.get (k := 0) rfl
 refine ⟨h.below.grown hg h.below.size (fun g e => (hr0.lt e).1), fun s hs => ?_, (List.pairwise_cons.1 h.apart).2⟩
 exact (h.holds s (List.mem_cons_of_mem _ hs)).kept hg (fun g e e' => (List.pairwise_cons.1 h.apart).1 s hs g e' e)

set_option maxHeartbeats 4000000 in
theorem bstring_some (b cap g : Nat) (pv : Value) (l : List UInt8) (hl : l ≠ []) (w0 W : World) (L : List Res) (h : Mem w0 W (.box b 69 (bldC pv (some ⟨g, 0, none⟩) l.length cap) :: .row (some ⟨g, 0, none⟩) cap 5 1 l.length (Lib.byteCells l) :: L)) :
  Calls Tryz.prog 35 #[.pointer (some ⟨b, 0, none⟩)] W fun e W' => e = .returned (.string ⟨l.toArray⟩) ∧ Mem w0 W' L := by
 have hrow := h.get (k := 1) rfl
 have hcap := row_cap hrow
 have hrow2 := hrow
 obtain ⟨-, ⟨h0, -⟩ | ⟨g', cap', cur, hv, hbg, hg, hnc, hcm, hcs, htake⟩⟩ := (hrow : W.ownsRow _ _ _ _ _ _)
 ·cases h0
 simp only [Value.slice.injEq, Option.some.injEq, Addr.mk.injEq, and_true, true_and] at hv
 obtain ⟨rfl, rfl⟩ := hv
 have hpos : 0 < l.length := List.length_pos_iff.2 hl
 have c1 : W.drew.cell? ⟨b, 1, none⟩ = some (.slice (some ⟨g, 0, none⟩) l.length cap) := box_cells (h.get (k := 0) rfl) 1 0 _ rfl
 have hSD : (Builtin.unsafeSliceData_ #[62] 90 #[.slice (some ⟨g, 0, none⟩) l.length cap]).run Tryz.prog W.drew = .ok (.pointer (some ⟨g, 0, none⟩)) W.drew :=
  Lib.run_unsafeSliceData_row _ _ _ _ _ _ (by omega)
 have hUS : (Builtin.unsafeString_ #[90, 3] 9 #[.pointer (some ⟨g, 0, none⟩), .int .i64 l.length]).run Tryz.prog W.drew = .ok (.string ⟨l.toArray⟩) (W.drew.freeze ⟨g, 0, none⟩ l.length) := by
  refine Lib.run_unsafeString_row W.drew 90 3 9 5 (by kernel_rfl) (by kernel_rfl) g cur.size (by have hg' : W.drew.heap[g]? = some (.cells cur 5 (0, 0)) := hg; simp [World.shape?, hg']) l hl (by omega) (by unfold maxLen at hcm; omega) ?_
  intro j x hx
  have := (row_cells hrow2 0).2.2 j (.int .u8 x.toNat) (by simp [Lib.byteCells, hx])
  exact this
 have HF := Lib.hid (show Mem w0 (W.drew.freeze ⟨g, 0, none⟩ l.length) L from Mem.lose (h.sub (.cons _ (.refl _))) (freeze_grown W g l.length))
 clear h hrow2 hcap hbg hg hnc hcm hcs htake
 go_enter Tryz.func35, Tryz.ntmps35
 go_wp2
 go_region
 all_goals (go_wp2; go_ret; exact ⟨rfl, HF.out⟩)

set_option maxHeartbeats 4000000 in
theorem bstring_nil (b cap : Nat) (pv : Value) (w0 W : World) (L : List Res) (h : Mem w0 W (.box b 69 (bldC pv none 0 cap) :: L)) (hc : cap = 0) :
  Calls Tryz.prog 35 #[.pointer (some ⟨b, 0, none⟩)] W fun e W' => e = .returned (.string ⟨#[]⟩) ∧ Mem w0 W' L := by
 subst hc
 have c1 : W.drew.cell? ⟨b, 1, none⟩ = some (.slice none 0 0) := box_cells (h.get (k := 0) rfl) 1 0 _ rfl
 have hSD : (Builtin.unsafeSliceData_ #[62] 90 #[.slice none 0 0]).run Tryz.prog W.drew = .ok (.pointer none) W.drew := rfl
 have hUS := fun (W : World) (q : Option Addr) => Lib.run_unsafeString_none (P := Tryz.prog) W 90 3 9 q
 have HF := Lib.hid (show Mem w0 W.drew L from (h.sub (.cons _ (.refl _))).next ((Below.refl _ _).drew))
 clear h
 go_enter Tryz.func35, Tryz.ntmps35
 go_wp2
 go_region
 all_goals (go_wp2; go_ret; exact ⟨rfl, HF.out⟩)

theorem bstring_any (b n cap : Nat) (p : Option Addr) (pv : Value) (l : List UInt8) (hl : 0 < l.length) (hn : n = l.length) (w0 W : World) (L : List Res) (h : Mem w0 W (.box b 69 (bldC pv p n cap) :: .row p cap 5 1 n (Lib.byteCells l) :: L)) :
  Calls Tryz.prog 35 #[.pointer (some ⟨b, 0, none⟩)] W fun e W' => e = .returned (.string ⟨l.toArray⟩) ∧ Mem w0 W' L := by
 subst hn
 obtain ⟨g, rfl⟩ := row_some (h.get (k := 1) rfl) hl
 exact bstring_some b cap g pv l (List.length_pos_iff.1 hl) w0 W L h
/-- A new builder has a row of no byte. -/
theorem bld_new {b : Nat} {w0 W : World} {L : List Res} {t : TypeId} (h : Mem w0 W (.box b t (bldC (.pointer none) none 0 0) :: L)) : Mem w0 W (.box b t (bldC (.pointer none) none 0 0) :: .row none 0 5 1 0 [] :: L) :=
 (h.row0 5 1).perm (List.Perm.swap _ _ _)
end Go.Proofs.YtanncakdlflopaaGreatDoor
