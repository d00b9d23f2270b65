/- What was read is small enough to be written; the walk over TreeFixed. (short) -/
import Derived.Test.YtanncakdlflopaaGreatDoorTreeRW
import Derived.Test.YtanncakdlflopaaGreatDoorTreeJK
namespace Go.Proofs.YtanncakdlflopaaGreatDoor
open Go.RowKit
set_option linter.unusedVariables false
set_option linter.unusedSimpArgs false
set_option maxRecDepth 100000

/-- How much text events hold. -/
def sumT (l : List EvD) : Nat := (l.map fun e => e.t.size).sum
theorem sumT_app (a b : List EvD) : sumT (a ++ b) = sumT a + sumT b := by unfold sumT; rw [List.map_append, List.sum_append]
theorem ext_size {S : ByteArray} {i k : Nat} : (S.extract i k).size ≤ k - i := by rw [ByteArray.size_extract]; omega
theorem pieceF_t {S : ByteArray} {i j : Nat} {l : List EvD} (hi : i < S.size) (h : pieceF S i = some (l, j)) : sumT l + i ≤ j := by
 have hle := pieceF_le hi h
 unfold pieceF at h
 split at h
 ·cases hn : noteF S (i + 4) with
  | none => rw [hn] at h; cases h
  | some k => rw [hn] at h; simp only [Option.map_some, Option.some.injEq, Prod.mk.injEq] at h; rw [← h.1]; simp [sumT]; omega
 split at h
 ·cases hn : endF S (i + 2) with
  | none => rw [hn] at h; cases h
  | some x =>
   rw [hn] at h; simp only [Option.map_some, Option.some.injEq, Prod.mk.injEq] at h
   rw [← h.1]
   have : sumT [evClose x.1] = 0 := rfl
   omega
 split at h
 ·unfold openF at h
  split at h
  ·cases h
  split at h
  ·cases h
  simp only [Option.some.injEq, Prod.mk.injEq] at h
  rw [← h.1]
  rename_i l2 c j2 _
  have : ∀ n, sumT (openL n l2 c) = 0 := fun n => by cases c <;> rfl
  rw [this]
  omega
 ·cases hn : dataF S i with
  | none => rw [hn] at h; cases h
  | some x =>
   rw [hn] at h; simp only [Option.map_some, Option.some.injEq, Prod.mk.injEq] at h
   unfold dataF at hn
   split at hn
   ·cases hn
   rename_i v hv
   cases hn
   have h1 := unescO_len hv
   have h2 := ext_size (S := S) (i := i) (k := spE notLt S.data.toList i)
   dsimp only at h
   have h3 : sumT [evData v] = v.size := by simp [sumT, evData]
   rw [← h.1, h3]
   omega
theorem docG_t {S : ByteArray} : ∀ {f i : Nat} {out l : List EvD}, i ≤ S.size → docG S f i out = some l → sumT l ≤ sumT out + (S.size - i)
 | 0, i, out, l, _, h => by cases h
 | f + 1, i, out, l, hi, h => by
  unfold docG at h
  split at h
  ·cases h; omega
  rename_i hne
  split at h
  ·cases h
  rename_i l2 j hp
  have h1 := pieceF_le (by omega) hp
  have h2 := pieceF_t (by omega) hp
  have h3 := docG_t h1.2 h
  rw [sumT_app] at h3
  omega
theorem markF_t {S : ByteArray} {l : List EvD} {c : Int} (h : markF S = (some l, c)) : sumT l ≤ 300000 := by
 have hs := (markF_ok h).2.1
 unfold markF at h
 split at h
 ·cases h
 split at h
 ·cases h
 split at h
 ·cases h
 rename_i l2 hb
 split at h
 ·cases h
 split at h
 ·cases h
 simp only [Prod.mk.injEq, Option.some.injEq] at h
 obtain ⟨rfl, -⟩ := h
 unfold bodyF at hb
 split at hb
 ·cases hb
 ·rename_i i hi
  have := docG_t (pro_le hi) hb
  simp [sumT] at this
  unfold sumT
  omega
theorem grow1_t {B : Nat} {g g2 : GrD} {e : EvD} (h : grow1 g e = some g2) (hg : ∀ x ∈ g.ts, x.t.size ≤ B) : ∀ x ∈ g2.ts, x.t.size ≤ B + e.t.size := by
 have hold : ∀ x ∈ g.ts, x.t.size ≤ B + e.t.size := fun x hx => Nat.le_trans (hg x hx) (by omega)
 unfold grow1 at h
 split at h
 ·split at h
  ·split at h
   ·cases h
    intro x hx
    rcases List.mem_append.1 hx with hx | hx
    ·exact hold x hx
    ·simp at hx; rw [hx]; exact Nat.zero_le _
   ·cases h
  ·cases h
   intro x hx
   rcases List.mem_append.1 hx with hx | hx
   ·exact hold x hx
   ·simp at hx; rw [hx]; exact Nat.zero_le _
 split at h
 ·split at h
  ·cases h
  ·split at h
   ·cases h; exact hold
   ·cases h
 ·split at h
  ·split at h
   ·cases h; exact hold
   ·cases h
  ·cases h
   intro x hx
   dsimp only at hx
   unfold addText at hx
   split at hx
   ·rename_i y hy
    rcases List.mem_or_eq_of_mem_set hx with hx | rfl
    ·exact hold x hx
    ·have := hg y (List.mem_of_getElem? hy)
     show (y.t ++ e.t).size ≤ _
     rw [ByteArray.size_append]
     omega
   ·exact hold x hx
theorem growF_t : ∀ (l : List EvD) {g g2 : GrD} {B : Nat}, growF l g = some g2 → (∀ x ∈ g.ts, x.t.size ≤ B) → ∀ x ∈ g2.ts, x.t.size ≤ B + sumT l
 | [], g, g2, B, h, hg => by cases h; exact hg
 | e :: l, g, g2, B, h, hg => by
  rw [growF] at h
  cases h1 : grow1 g e with
  | none => rw [h1] at h; cases h
  | some g1 =>
   rw [h1] at h
   have := growF_t l h (grow1_t h1 hg)
   intro x hx
   have h2 := this x hx
   have h3 : sumT (e :: l) = e.t.size + sumT l := by unfold sumT; rw [List.map_cons, List.sum_cons]
   omega
theorem treeR_szW {S : ByteArray} {t : List ElD} {c : Int} (h : treeR S = (some t, c)) : ∀ x ∈ t, szW x := by
 obtain ⟨⟨o, c0⟩, hm⟩ : ∃ x, markF S = x := ⟨_, rfl⟩
 cases o with
 | none =>
  unfold treeR at h
  rw [hm] at h
  cases h
 | some l =>
  have hok := (markF_ok hm).2.2
  have hst := markF_t hm
  rw [treeR_grown hm] at h
  cases hg : grownF l with
  | none => rw [hg] at h; cases h
  | some t1 =>
   rw [hg] at h
   dsimp only at h
   split at h
   ·simp only [Prod.mk.injEq, Option.some.injEq] at h
    obtain ⟨rfl, -⟩ := h
    unfold grownF at hg
    cases h1 : growF l ⟨[], [], []⟩ with
    | none => rw [h1] at hg; cases hg
    | some g =>
     rw [h1] at hg
     dsimp only at hg
     cases h2 : clearF g.ts g.has with
     | none => rw [h2] at hg; cases hg
     | some t2 =>
      rw [h2] at hg
      dsimp only at hg
      split at hg
      ·cases hg
      ·cases hg
       have q1 := growF_sz l (i := 0) h1 hok (by simp)
       have q2 := growF_t l (B := 0) h1 (by simp)
       exact clearF_sz (Q := szW) (fun e he => ⟨he.1, Nat.zero_le _, he.2.2⟩) h2 (fun x hx => ⟨by have := (q1 x hx).1; omega, by have := q2 x hx; omega, fun a ha => by have := (q1 x hx).2.2 a ha; omega⟩)
   ·cases h

set_option maxHeartbeats 8000000 in
theorem treeFixed_walk (S : ByteArray) (W : World) (hT : U8 W) (hE : ErrsAt W) (hX : MaxAt W) (hs : S.size ≤ 1048576) :
  Calls Tryz.prog 6 #[.string S] W fun e w' => e = .returned (.bool true) ∧ Below W.heap.size W w' := by
 have HM := Lib.hid (Mem.start W)
 have HT := Lib.hid hT
 have HE := Lib.hid hE
 have HX := Lib.hid hX
 have HK := Lib.hid (tknown_any W hT hE hX)
 obtain ⟨r, hr⟩ : ∃ r, treeR S = r := ⟨_, rfl⟩
 have HR := Lib.hid (fun W2 h1 h2 h3 => tread_any S W2 r hr h1 h2 h3 hs)
 obtain ⟨o, c⟩ := r
 clear hT hE hX
 cases o with
 | none =>
  clear hr
  go_enter Tryz.func6, Tryz.ntmps6
  go_wp2_with (first | (go_at_call 8; (with_reducible refine cB HM (HK.out) ?_); clear HM; intro W1 HM))
  refine (HR.out _ (HT.out.below HM.out.below) (HE.out.below HM.out.below) (HX.out.below HM.out.below)).mono ?_
  rintro e W3 ⟨j, hj, hc, rfl, hb⟩
  have HM1 := Lib.hid (HM.out.next hb)
  have b2 : (c != 0) = true := by simpa using hc
  clear HM hb HR HK hc
  have HM := HM1
  clear HM1
  go_wp2_with (first | ((with_reducible refine skip_op ?_ ?_); exact rfl))
  go_ret
  exact ⟨rfl, HM.out.below⟩
 | some t =>
  obtain ⟨hck, -, hl16⟩ := treeR_some hr
  have hzw := treeR_szW hr
  have HL16 := Lib.hid hl16
  have HZw := Lib.hid hzw
  have HW := Lib.hid (fun (els : List ElM) (hd : elD els = t) (p : Option Addr) (c : Nat) (W2 : World) (L : List Res) (hM : Mem W W2 L) (hI : ElIn W2 p els) (hc : els.length ≤ c) => twrite_any p c els W2 (HT.out.below hM.below) hI (fun m hm => hzw m.d (by rw [← hd]; exact List.mem_map.2 ⟨m, hm, rfl⟩)) hc)
  rcases writeT_cases t with ⟨c6, hc0, hc6, hw⟩ | ⟨-, hdl, hw⟩
  ·obtain rfl := hc6 hck
   clear hr hck hl16 hzw hc0 hc6
   go_enter Tryz.func6, Tryz.ntmps6
   go_wp2_with (first | (go_at_call 8; (with_reducible refine cB HM (HK.out) ?_); clear HM; intro W1 HM))
   refine (HR.out _ (HT.out.below HM.out.below) (HE.out.below HM.out.below) (HX.out.below HM.out.below)).mono ?_
   rintro e W3 ⟨ys, py, cy, hdy, hly, rfl, hM⟩
   have HM1 := Lib.hid (HM.out.comp2 hM)
   clear HM hM HR HK
   have HM := HM1
   clear HM1
   have HW1 := Lib.hid (HW.out ys hdy py cy _ _ HM.out (elin_own (els := ys) (p := py) (c := cy) (n := ys.length) HM.out (by simp) (fun r hr => by simp [hr])) (row_cap (HM.out.get (k := 0) rfl)).1)
   rw [hdy, hw] at HW1
   clear HW hdy hw
   go_wp2_with (first | (go_at_call 17; (with_reducible refine cB HM (HW1.out) ?_); clear HM; intro W1 HM) | ((with_reducible refine skip_op ?_ ?_); exact rfl))
   go_ret
   exact ⟨rfl, HM.out.below⟩
  ·have hb := read_back hck hdl
   obtain ⟨U, hU⟩ : ∃ U : ByteArray, U = ⟨(docL t).toArray⟩ := ⟨_, rfl⟩
   have hUs : U.size ≤ 1048576 := by rw [hU, mk_size]; omega
   rw [← hU] at hw hb
   have HR2 := Lib.hid (fun W2 h1 h2 h3 => tread_any U W2 _ hb h1 h2 h3 hUs)
   have b1 : (U.toList == U.toList) = true := by simp
   have HWt := Lib.hid hw
   clear hr hck hl16 hzw hU hb hdl hUs hw
   go_enter Tryz.func6, Tryz.ntmps6
   go_wp2_with (first | (go_at_call 8; (with_reducible refine cB HM (HK.out) ?_); clear HM; intro W1 HM))
   refine (HR.out _ (HT.out.below HM.out.below) (HE.out.below HM.out.below) (HX.out.below HM.out.below)).mono ?_
   rintro e W3 ⟨ys, py, cy, hdy, hly, rfl, hM⟩
   have HM1 := Lib.hid (HM.out.comp2 hM)
   clear HM hM HR HK
   have HM := HM1
   clear HM1
   have HW1 := Lib.hid (HW.out ys hdy py cy _ _ HM.out (elin_own (els := ys) (p := py) (c := cy) (n := ys.length) HM.out (by simp) (fun r hr => by simp [hr])) (row_cap (HM.out.get (k := 0) rfl)).1)
   rw [hdy, HWt.out] at HW1
   have HDy := Lib.hid hdy
   clear hdy
   go_wp2_with (first | (go_at_call 17; (with_reducible refine cB HM (HW1.out) ?_); clear HM; intro W1 HM) | ((with_reducible refine skip_op ?_ ?_); exact rfl))
   refine (HR2.out _ (HT.out.below HM.out.below) (HE.out.below HM.out.below) (HX.out.below HM.out.below)).mono ?_
   rintro e W4 ⟨zs, pz, cz, hdz, hlz, rfl, hM⟩
   have HM1 := Lib.hid (HM.out.comp2 hM)
   clear HM hM HR2 HW1
   have HM := HM1
   clear HM1
   have HW2 := Lib.hid (HW.out zs hdz pz cz _ _ HM.out (elin_own (els := zs) (p := pz) (c := cz) (n := zs.length) HM.out (by simp) (fun r hr => by simp [hr])) (row_cap (HM.out.get (k := 0) rfl)).1)
   rw [hdz, HWt.out] at HW2
   have HDyz := Lib.hid (HDy.out.trans hdz.symm)
   have HSm := Lib.hid (fun (W5 : World) (hM : Mem W W5 ((.row pz cz 42 4 zs.length (elC zs) :: elR zs) ++ ((.row py cy 42 4 ys.length (elC ys) :: elR ys) ++ []))) => rtsame_any py pz cy cz ys zs W5 (elin_own (els := ys) (p := py) (c := cy) (n := ys.length) hM (by simp) (fun r hr => by simp [hr])) (elin_own (els := zs) (p := pz) (c := cz) (n := zs.length) hM (by simp) (fun r hr => by simp [hr])) HDyz.out (by omega) (fun m hm => by
    have := HL16.out m.d (by rw [← HDy.out]; exact List.mem_map.2 ⟨m, hm, rfl⟩)
    omega))
   clear HW hdz
   go_wp2_with (first | (go_at_call 17; (with_reducible refine cB HM (HW2.out) ?_); clear HM; intro W1 HM) | (go_at_call 11; (with_reducible refine cB HM (HSm.out _ HM.out) ?_); clear HM; intro W1 HM) | ((with_reducible refine skip_op ?_ ?_); exact rfl))
   go_ret
   exact ⟨rfl, HM.out.below⟩
end Go.Proofs.YtanncakdlflopaaGreatDoor
