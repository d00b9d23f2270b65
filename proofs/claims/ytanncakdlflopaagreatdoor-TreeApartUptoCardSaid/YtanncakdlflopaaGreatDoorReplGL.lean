/- The walk over (*strings.byteStringReplacer).Replace: long texts, whose keys are counted one by one. sync.Once as a Replacer uses it, its first time, whatever the build makes. -/
import Derived.Test.YtanncakdlflopaaGreatDoorReplA
import Derived.Test.YtanncakdlflopaaGreatDoorSepA
import Derived.Test.YtanncakdlflopaaGreatDoorShelf
import Derived.Lib.Bytealg
import Derived.BigQuiet
import Derived.Deep.QuietTactic
import Derived.IntWalk
namespace Go.Proofs.YtanncakdlflopaaGreatDoor
open Go.RowKit
set_option linter.unusedVariables false
set_option maxRecDepth 100000

/-- A sum over a list. -/
def sumL {α : Type} (f : α → Int) : List α → Int
 | [] => 0
 | x :: r => f x + sumL f r
theorem sumL_app {α : Type} (f : α → Int) (a b : List α) : sumL f (a ++ b) = sumL f a + sumL f b := by
 induction a with
 | nil => simp [sumL]
 | cons x r ih => simp only [List.cons_append, sumL, ih]; omega
theorem sumL_rev {α : Type} (f : α → Int) (a : List α) : sumL f a.reverse = sumL f a := by
 induction a with
 | nil => rfl
 | cons x r ih => rw [List.reverse_cons, sumL_app, ih]; simp only [sumL]; omega
theorem sumL_add {α : Type} (f g : α → Int) (a : List α) : sumL (fun x => f x + g x) a = sumL f a + sumL g a := by
 induction a with
 | nil => rfl
 | cons x r ih => simp only [sumL, ih]; omega
theorem sumL_zero {α : Type} {f : α → Int} {a : List α} (h : ∀ x ∈ a, f x = 0) : sumL f a = 0 := by
 induction a with
 | nil => rfl
 | cons x r ih => simp only [sumL]; rw [h x (by simp), ih (fun y hy => h y (by simp [hy]))]; rfl
theorem sumL_congr {α : Type} {f g : α → Int} {a : List α} (h : ∀ x ∈ a, f x = g x) : sumL f a = sumL g a := by
 induction a with
 | nil => rfl
 | cons x r ih => simp only [sumL]; rw [h x (by simp), ih (fun y hy => h y (by simp [hy]))]
/-- What the texts of a key make longer. -/
def gainOf (s : List UInt8) (x : UInt8 × List UInt8) : Int := (Lib.countByte s x.1 : Int) * ((x.2.length : Int) - 1)

theorem pairs_apart {l : List (UInt8 × List UInt8)} (h : keysOk l) : l.Pairwise (fun x y => x.1 ≠ y.1) := by
 rw [List.pairwise_iff_getElem]
 intro i j hi hj hij
 exact h i j _ _ hij (List.getElem?_eq_getElem hi) (List.getElem?_eq_getElem hj)
theorem gain_one (c : UInt8) : ∀ (l : List (UInt8 × List UInt8)), l.Pairwise (fun x y => x.1 ≠ y.1) → sumL (fun x => if x.1 = c then (x.2.length : Int) - 1 else 0) l = ((replC l c).length : Int) - 1
 | [], _ => by simp [sumL, replC, pairOf]
 | x :: r, h => by
  rw [List.pairwise_cons] at h
  simp only [sumL]
  by_cases hx : x.1 = c
  ·subst hx
   have : sumL (fun y : UInt8 × List UInt8 => if y.1 = x.1 then (y.2.length : Int) - 1 else 0) r = 0 := sumL_zero (fun y hy => if_neg (fun e => h.1 y hy e.symm))
   rw [if_pos rfl, this]
   simp [replC, pairOf]
  ·have hn : (x.1.toNat == c.toNat) = false := beq_eq_false_iff_ne.2 (fun e => hx (UInt8.toNat_inj.1 e))
   have e : replC (x :: r) c = replC r c := by
    unfold replC pairOf
    rw [List.find?_cons, hn]
   rw [if_neg hx, gain_one c r h.2, e]
   omega
theorem gain_all {l : List (UInt8 × List UInt8)} (h : l.Pairwise (fun x y => x.1 ≠ y.1)) : ∀ (s : List UInt8), sumL (gainOf s) l = ((replL l s).length : Int) - (s.length : Int)
 | [] => by
  rw [sumL_zero (fun x _ => by simp [gainOf, Lib.countByte])]
  simp [replL]
 | c :: s => by
  have e : ∀ x ∈ l, gainOf (c :: s) x = (if x.1 = c then (x.2.length : Int) - 1 else 0) + gainOf s x := by
   intro x _
   unfold gainOf Lib.countByte
   rw [List.count_cons]
   by_cases hx : x.1 = c
   ·subst hx
    simp only [beq_self_eq_true, if_true]
    rw [Int.natCast_add, Int.add_mul]
    simp
    omega
   ·have : (c == x.1) = false := beq_eq_false_iff_ne.2 (fun e => hx e.symm)
    rw [this, if_neg hx]
    simp
  rw [sumL_congr e, sumL_add, gain_one c l h, gain_all h s]
  unfold replL
  rw [List.flatMap_cons, List.length_append, List.length_cons]
  omega

theorem chg_all {l : List (UInt8 × List UInt8)} (s : List UInt8) : (l.reverse.any fun x => Lib.countByte s x.1 != 0) = chgB l s := by
 rw [Bool.eq_iff_iff]
 unfold chgB
 rw [List.any_eq_true, List.any_eq_true]
 constructor
 ·rintro ⟨x, hx, hc⟩
  have hx2 : x ∈ l := List.mem_reverse.1 hx
  have hm : x.1 ∈ s := by
   unfold Lib.countByte at hc
   rw [bne_iff_ne] at hc
   exact List.count_pos_iff.1 (by omega)
  refine ⟨x.1, hm, ?_⟩
  unfold pairOf
  rw [List.find?_isSome]
  exact ⟨x, hx2, by simp⟩
 ·rintro ⟨c, hc, hp⟩
  unfold pairOf at hp
  rw [List.find?_isSome] at hp
  obtain ⟨x, hx, he⟩ := hp
  have e : x.1 = c := UInt8.toNat_inj.1 (by simpa using he)
  refine ⟨x, List.mem_reverse.2 hx, ?_⟩
  rw [bne_iff_ne, e]
  unfold Lib.countByte
  have := List.count_pos_iff.2 hc
  omega

/-- The keys, as they lie. -/
theorem rep_keys {w : World} {B R : Nat} {l : List (UInt8 × List UInt8)} (h : Rep w B R l) : ∃ G, w.cell? ⟨R, 256, none⟩ = some (.slice (some ⟨G, 0, none⟩) l.length l.length) ∧ ∀ (k : Nat) (x : UInt8 × List UInt8), l.reverse[k]? = some x → w.cell? ⟨G, k, none⟩ = some (.string ⟨#[x.1]⟩) := by
 obtain ⟨G, T, h1, h2, h3, h4, hown, _⟩ := h
 refine ⟨G, by rw [cell_of_row _ _ _ _ _ _ h1]; exact h3, fun k x hx => ?_⟩
 obtain ⟨_, ⟨h0, _⟩ | ⟨g', cap', cur, hv, _, hh, _, _, _, htk⟩⟩ := hown
 ·cases h0
 ·simp only [Value.slice.injEq, Option.some.injEq, Addr.mk.injEq, and_true, true_and] at hv
  obtain ⟨rfl, rfl⟩ := hv
  rw [cell_of_row _ _ _ _ _ _ hh]
  have hk : k < l.length := by have := (List.getElem?_eq_some_iff.1 hx).1; simpa using this
  have e : (oldL l)[k]? = some (.string ⟨#[x.1]⟩) := by
   unfold oldL
   rw [List.getElem?_map, hx]
   rfl
  rw [← htk, List.getElem?_take_of_lt (by omega)] at e
  simpa using e

/-- The table's cell of a key. -/
theorem rep_key_cell {w : World} {B R : Nat} {l : List (UInt8 × List UInt8)} (h : Rep w B R l) (hk : keysOk l) {x : UInt8 × List UInt8} (hx : x ∈ l) : ∃ g cap, w.cell? ⟨R, x.1.toNat, none⟩ = some (.slice (some ⟨g, 0, none⟩) x.2.length cap) := by
 have hp : pairOf l x.1.toNat = some x := by
  unfold pairOf
  have ha := pairs_apart hk
  clear hk h
  induction l with
  | nil => cases hx
  | cons y r ih =>
   rw [List.pairwise_cons] at ha
   rw [List.find?_cons]
   rcases List.mem_cons.1 hx with rfl | hx
   ·simp
   ·have hn : (y.1.toNat == x.1.toNat) = false := beq_eq_false_iff_ne.2 (fun e => ha.1 x hx (UInt8.toNat_inj.1 e))
    rw [hn]
    exact ih hx ha.2
 rcases rep_cell h x.1 with ⟨h1, _⟩ | ⟨y, g, cap, h1, h2, _⟩
 ·rw [hp] at h1; cases h1
 ·rw [hp] at h1
  cases h1
  exact ⟨g, cap, h2⟩

theorem gain_bd {s : ByteArray} {x : UInt8 × List UInt8} (h1 : 1 ≤ x.2.length) (h2 : x.2.length ≤ 100) : 0 ≤ gainOf s.data.toList x ∧ gainOf s.data.toList x ≤ 100 * s.size := by
 unfold gainOf
 have hc : Lib.countByte s.data.toList x.1 ≤ s.size := by
  unfold Lib.countByte
  have := List.count_le_length (a := x.1) (l := s.data.toList)
  rw [size_list] at this
  exact this
 generalize Lib.countByte s.data.toList x.1 = n at *
 obtain ⟨m, hm⟩ : ∃ m : Nat, (x.2.length : Int) - 1 = m := ⟨x.2.length - 1, by omega⟩
 have hm2 : m ≤ 100 := by omega
 rw [hm]
 constructor
 ·exact Int.mul_nonneg (by omega) (by omega)
 ·have : n * m ≤ s.size * 100 := Nat.mul_le_mul hc hm2
  have h3 : ((n * m : Nat) : Int) ≤ ((s.size * 100 : Nat) : Int) := by omega
  rw [Int.natCast_mul, Int.natCast_mul] at h3
  omega
theorem gain_sum_bd {s : ByteArray} {l : List (UInt8 × List UInt8)} (h1 : ∀ x ∈ l, 1 ≤ x.2.length) (h2 : ∀ x ∈ l, x.2.length ≤ 100) : 0 ≤ sumL (gainOf s.data.toList) l ∧ sumL (gainOf s.data.toList) l ≤ 100 * s.size * l.length := by
 induction l with
 | nil => simp [sumL]
 | cons x r ih =>
  have a := gain_bd (s := s) (h1 x (by simp)) (h2 x (by simp))
  have b := ih (fun y hy => h1 y (by simp [hy])) (fun y hy => h2 y (by simp [hy]))
  simp only [sumL, List.length_cons]
  have : 100 * (s.size : Int) * ((r.length + 1 : Nat) : Int) = 100 * (s.size : Int) * (r.length : Int) + 100 * (s.size : Int) := by rw [Int.natCast_add, Int.mul_add]; simp
  omega
theorem sumL_take {α : Type} (f : α → Int) {l : List α} {k : Nat} {x : α} (h : l[k]? = some x) : sumL f (l.take (k + 1)) = sumL f (l.take k) + f x := by
 rw [List.take_add_one, h, sumL_app]
 simp [sumL]

set_option maxHeartbeats 2000000 in
theorem run_long (B R : Nat) (l : List (UInt8 × List UInt8)) (s : ByteArray) (w : World) (hrep : Rep w B R l) (hko : keysOk l) (h8 : 8 * l.length ≤ s.size) (hs : s.size ≤ 1099511627776) (hl : l.length ≤ 100) (hm : ∀ x ∈ l, x.2.length ≤ 100) (hp1 : ∀ x ∈ l, 1 ≤ x.2.length) :
  Calls Tryz.prog 213 #[.pointer (some ⟨R, 0, none⟩), .string s] w fun e w' => e = .returned (.string ⟨(replL l s.data.toList).toArray⟩) ∧ Below w.heap.size w w' := by
 obtain ⟨G, cG, hkeys⟩ := rep_keys hrep
 have HRep := Lib.hid hrep
 have HM := Lib.hid hm
 have HKo := Lib.hid hko
 have hneq := fun W a n c => Go.run_neq_slice_nil (P := Tryz.prog) W 62 5 a n c Tryz.underlying62
 have HP1 := Lib.hid hp1
 have HKeys := Lib.hid hkeys
 obtain ⟨i0, hi, hz0, hz1, hz2⟩ := info_parts u_info
 have h8i : (l.length : Int) * 8 ≤ (s.size : Int) := by omega
 clear hrep hm hp1 hko hkeys
 go_enter Tryz.func213, Tryz.ntmps213
 go_wp2
 go_loopw [5, 6, 8, 9, 32] (fun nv av _ _ kv wr => ∃ k : Nat, k ≤ l.length ∧ kv = .int .i64 k ∧ av = .bool ((l.reverse.take k).any fun x => Lib.countByte s.data.toList x.1 != 0) ∧ Hid (Below w.heap.size w wr) ∧ ∃ q : Int, nv = .int .i64 q ∧ Hid (q = (s.size : Int) + sumL (gainOf s.data.toList) (l.reverse.take k)) ∧ 0 ≤ q ∧ q ≤ 1000000000000000000) (fun _ _ _ _ kv _ => l.length - (intOf kv).toNat)
 case atStart => exact ⟨0, by omega, rfl, rfl, Below.refl _ _, _, rfl, (show (s.size : Int) = _ by simp [sumL]), by omega, by omega⟩
 case round =>
  obtain ⟨k, hk, rfl, rfl, HBel, q, rfl, HQ, hq0, hq1⟩ := hrel
  by_cases hlt : k < l.length
  ·obtain ⟨x, hx⟩ : ∃ x, l.reverse[k]? = some x := ⟨_, List.getElem?_eq_getElem (by simpa using hlt)⟩
   have hxm : x ∈ l := List.mem_reverse.1 (List.mem_of_getElem? hx)
   have ckey : wr.cell? ⟨G, k, none⟩ = some (.string ⟨#[x.1]⟩) := by
    obtain ⟨G', c', hk'⟩ := rep_keys (HRep.out.below HBel.out)
    have hG : G' = G := by
     have h1 := HBel.out.cell (p := ⟨R, 256, none⟩) (by have := HRep.out; obtain ⟨_, _, h, _⟩ := this; exact block_lt h)
     rw [h1, cG] at c'
     simp only [Option.some.injEq, Value.slice.injEq, Addr.mk.injEq, and_true] at c'
     exact c'.symm
    rw [hG] at hk'
    exact hk' k x hx
   have cG2 : wr.cell? ⟨R, 256, none⟩ = some (.slice (some ⟨G, 0, none⟩) l.length l.length) := by
    rw [HBel.out.cell (p := ⟨R, 256, none⟩) (by have := HRep.out; obtain ⟨_, _, h, _⟩ := this; exact block_lt h)]
    exact cG
   obtain ⟨g, cap, cx⟩ := rep_key_cell (HRep.out.below HBel.out) HKo.out hxm
   have hx1 := HP1.out x hxm
   have hx2 := HM.out x hxm
   have hgb := gain_bd (s := s) hx1 hx2
   have HAny := Lib.hid (show ((l.reverse.take (k + 1)).any fun x => Lib.countByte s.data.toList x.1 != 0) = (((l.reverse.take k).any fun x => Lib.countByte s.data.toList x.1 != 0) || (Lib.countByte s.data.toList x.1 != 0)) by rw [List.take_add_one, hx]; simp)
   have HSum := Lib.hid (sumL_take (gainOf s.data.toList) hx)
   have hbd := gain_sum_bd (s := s) (l := l.reverse.take (k + 1)) (fun y hy => HP1.out y (List.mem_reverse.1 (List.mem_of_mem_take hy))) (fun y hy => HM.out y (List.mem_reverse.1 (List.mem_of_mem_take hy)))
   have hq2 : q + gainOf s.data.toList x ≤ 1000000000000000000 := by
    have h1 := HQ.out
    have h2 := HSum.out
    have h3 : ((l.reverse.take (k + 1)).length : Int) ≤ 100 := by have := List.length_take_le (k + 1) l.reverse; simp at this; simp; omega
    have h4 : 100 * (s.size : Int) * ((l.reverse.take (k + 1)).length : Int) ≤ 100 * (s.size : Int) * 100 := Int.mul_le_mul_of_nonneg_left h3 (by omega)
    omega
   clear hx hxm hbd
   go_wp2_with fail
   refine (Tryz.strings_Count_one s x.1 wr).mono ?_
   rintro e w' ⟨rfl, rfl⟩
   obtain ⟨cn, hcn⟩ : ∃ cn, Lib.countByte s.data.toList x.1 = cn := ⟨_, rfl⟩
   have HCn := Lib.hid hcn
   rw [hcn]
   have hg2 : gainOf s.data.toList x = (cn : Int) * ((x.2.length : Int) - 1) := by unfold gainOf; rw [hcn]
   obtain ⟨gn, hgn⟩ : ∃ gn, gainOf s.data.toList x = gn := ⟨_, rfl⟩
   have HGn := Lib.hid hgn
   rw [hgn] at hg2 hq2 hgb
   obtain ⟨hgb1, hgb2⟩ := hgb
   have HG2 := Lib.hid hg2
   clear hcn hgn hg2
   by_cases hc0 : cn = 0
   ·have b0 : ((cn : Int) != 0) = false := by rw [hc0]; rfl
    have HC0 := Lib.hid hc0
    clear hc0
    go_wp2
    go_roundw
    case rel =>
     refine ⟨k + 1, by omega, by go_num, ?_, HBel, q, rfl, ?_, hq0, hq1⟩
     ·rw [HAny.out, HCn.out, HC0.out]; simp
     ·show q = _
      have h1 := HQ.out
      have h3 := HG2.out
      rw [HC0.out] at h3
      rw [HSum.out, HGn.out]
      simp at h3
      omega
    case measure => simp [intOf]; omega
   ·have b0 : ((cn : Int) != 0) = true := by rw [bne_iff_ne]; omega
    have HC0 := Lib.hid hc0
    have hcs : (cn : Int) ≤ 1099511627776 := by
     have h1 := HCn.out
     unfold Lib.countByte at h1
     have h2 := List.count_le_length (a := x.1) (l := s.data.toList)
     rw [size_list] at h2
     omega
    clear hc0
    go_wp2
    have q1 : IntKind.i64.wrap ((x.2.length : Int) - 1) = (x.2.length : Int) - 1 := IntWalk.i64_in _ (by omega)
    have q2 : IntKind.i64.wrap ((cn : Int) * ((x.2.length : Int) - 1)) = gn := by rw [← HG2.out]; exact IntWalk.i64_in _ (by omega)
    have q3 : IntKind.i64.wrap (q + gn) = q + gn := IntWalk.i64_in _ (by omega)
    have hbx := x.1.toNat_lt
    have hbx2 : ((x.1.toNat : Nat) : Int) < 256 := by omega
    have hix : ∀ W : World, (Instr.index 9 (.string ⟨#[x.1]⟩) (.int .i64 0)).run Tryz.prog W = .ok (.int .u8 x.1.toNat) W := fun W => by kernel_rfl
    go_quiet (fail)
    clear q1 q2 q3
    go_wp2
    go_roundw
    case rel =>
     refine ⟨k + 1, by omega, by go_num, ?_, below_dn HBel.out _, _, rfl, ?_, by omega, hq2⟩
     ·have : (cn != 0) = true := by rw [bne_iff_ne]; exact HC0.out
      rw [HAny.out, HCn.out, this]; simp
     ·show _ = _
      have h1 := HQ.out
      rw [HSum.out, HGn.out]
      omega
    case measure => simp [intOf]; omega
  ·have hkl : k = l.length := by omega
   have HK := Lib.hid (show ((l.reverse.take k).any fun x => Lib.countByte s.data.toList x.1 != 0) = chgB l s.data.toList by
    rw [List.take_of_length_le (by simp; omega)]; exact chg_all _)
   have HQN := Lib.hid (show q = ((replL l s.data.toList).length : Int) by
    have h1 := HQ.out
    have h2 := gain_all (pairs_apart HKo.out) s.data.toList
    rw [List.take_of_length_le (by simp; omega), sumL_rev, h2, size_list] at h1
    omega)
   have HRepO := Lib.hid (HRep.out.below HBel.out)
   have HOut := HBel
   obtain ⟨wo, rfl⟩ : ∃ wo : World, wo = wr := ⟨_, rfl⟩
   have hNb := replL_len (m := 100) (by omega) HM.out s.data.toList
   rw [size_list] at hNb
   clear HBel
   cases hch : chgB l s.data.toList
   ·have HR := Lib.hid (replL_same hch)
    rw [HK.out, hch]
    go_wp2
    go_ret
    exact ⟨by rw [HR.out, Lib.mk_data]; rfl, HOut.out⟩
   ·rw [HK.out, hch]
    obtain ⟨N, hN⟩ : ∃ N, (replL l s.data.toList).length = N := ⟨_, rfl⟩
    have hqN : q = (N : Int) := by have := HQN.out; rw [hN] at this; exact this
    subst hqN
    have HN := Lib.hid hN
    have K1 := Lib.hid (show i0.bytes * N ≤ 281474976710656 by rw [hz2]; omega)
    have K2 := Lib.hid (show N ≤ maxLen by unfold maxLen; omega)
    clear hN hch HQ HQN hkl
    go_wp2_with (at_make; refine wpList_make_full _ rfl _ _ 62 rfl wo.heap.size 5 i0 (.int .u8 0) 1 Tryz.underlying62 hi hz0 hz1 .i64 .i64 _ _ N rfl rfl rfl rfl K1.out K2.out (Nat.le_refl _) ?_; intro w1 hown1 hgrow1)
    have hb1 : Below wo.heap.size wo w1 := (Below.refl _ wo).grown hgrow1 (Nat.le_refl _) (fun _ h => by cases h)
    have hbuf0 : BufAt w1 wo.heap.size N [] := by
     obtain ⟨_, ⟨h0, _⟩ | ⟨g, cap, cur, hv, hgB, hh, hnc, hcm, hsz, htk⟩⟩ := hown1
     ·cases h0
     ·simp only [Value.slice.injEq, Option.some.injEq, Addr.mk.injEq, and_true] at hv
      obtain ⟨rfl, _, rfl⟩ := hv
      exact ⟨cur.toList, by simpa using hh, by simpa using hsz⟩
    have HB1 := Lib.hid hb1
    have HBuf0 := Lib.hid hbuf0
    clear hown1 hgrow1 hb1 hbuf0
    go_loopw [13, 14] (fun jv iv wr => ∃ k j : Nat, k ≤ s.size ∧ iv = .int .i64 k ∧ jv = .int .i64 j ∧ Hid (j = (replL l (s.data.toList.take k)).length) ∧ j ≤ N ∧ Hid (BufAt wr wo.heap.size N (replL l (s.data.toList.take k))) ∧ Hid (Below wo.heap.size wo wr)) (fun _ iv _ => s.size - (intOf iv).toNat)
    case atStart => exact ⟨0, 0, by omega, rfl, rfl, rfl, by omega, HBuf0, HB1⟩
    case round =>
     clear hlt hk HB1 HBuf0
     obtain ⟨k, j, hk, rfl, rfl, HJ, hjN, HBuf, HBel⟩ := hrel
     by_cases hlt : k < s.size
     ·have hb := b_at hlt
      have HT := Lib.hid (replL_take (l := l) hb)
      have hbx := s[k].toNat_lt
      have htot : (replL l (s.data.toList.take (k + 1))).length ≤ N := by
       have h1 := replL_app (l := l) (s.data.toList.take (k + 1)) (s.data.toList.drop (k + 1))
       rw [List.take_append_drop] at h1
       have h2 := HN.out
       rw [h1, List.length_append] at h2
       omega
      clear hb
      rcases rep_cell (HRepO.out.below HBel.out) s[k] with ⟨hp, hc⟩ | ⟨x, g, cap, hp, hc, hg, he⟩
      ·have hL : replC l s[k] = [s[k]] := by unfold replC; rw [hp]
       have hjl : j < N := by rw [HT.out, hL, List.length_append, List.length_singleton] at htot; have := HJ.out; omega
       have HL := Lib.hid hL
       obtain ⟨⟨r0, hr0⟩, hz⟩ := HBuf.out.cell (by have := HJ.out; omega)
       have hput := HBuf.out.put (by have := HJ.out; omega) s[k]
       rw [← HJ.out] at hr0 hz hput
       have HPut := Lib.hid hput
       clear hL hp hput htot
       go_wp2
       go_roundw
       case rel =>
        refine ⟨k + 1, j + 1, by omega, by go_num, by go_num, ?_, by omega, ?_, ?_⟩
        ·show _ = _
         rw [HT.out, HL.out, List.length_append, ← HJ.out]
         rfl
        ·show BufAt _ _ _ _
         rw [HT.out, HL.out]
         exact HPut.out
        ·exact Below.setCell (p := ⟨wo.heap.size, j, none⟩) HBel.out (Nat.le_refl _) _
       case measure => simp [intOf]; omega
      ·have hL : replC l s[k] = x.2 := by unfold replC; rw [hp]
       have hx1 : 1 ≤ x.2.length := HP1.out x (List.mem_of_find?_eq_some hp)
       have hjx : j + x.2.length ≤ N := by rw [HT.out, hL, List.length_append] at htot; have := HJ.out; omega
       have HL := Lib.hid hL
       obtain ⟨rest, hre, hrl⟩ := HBuf.out
       have HRe := Lib.hid hre
       have HRl := Lib.hid hrl
       have hj1 : (j : Int) ≤ (N : Int) := by omega
       have hj2 : (j : Int) < (N : Int) := by omega
       have hbi : ((s[k].toNat : Nat) : Int) < 256 := by omega
       have S1 := Lib.hid (show (Tryz.prog.info? 5).map (·.size) = some 1 by rw [hi, Option.map_some, hz1])
       have S2 := Lib.hid (show (x.2.map bv).length = Nat.min x.2.length (N - j) by rw [List.length_map]; exact (Nat.min_eq_left (by omega)).symm)
       have S3 := Lib.hid (show ∀ (i : Nat) (v : Value), (x.2.map bv)[i]? = some v → wr.drew.cell? ((⟨g, 0, none⟩ : Addr).add i) = some v from fun i v hv => by
        have hadd : (⟨g, 0, none⟩ : Addr).add i = ⟨g, i, none⟩ := by unfold Addr.add; split <;> simp_all
        rw [hadd]
        rw [List.getElem?_map] at hv
        cases hu : x.2[i]? with
        | none => rw [hu] at hv; cases hv
        | some u =>
         rw [hu] at hv
         simp only [Option.map_some, Option.some.injEq] at hv
         subst hv
         exact he i u hu)
       have hNj : ¬ N = j := by omega
       have S4 := Lib.hid (show j + (x.2.map bv).length ≤ ((replL l (s.data.toList.take k)).map bv ++ rest).length by
        have h1 := HJ.out
        rw [List.length_map, List.length_append, List.length_map]; omega)
       have S5 := Lib.hid (show ∀ v ∈ x.2.map bv, v.oneCell' = true by
        intro v hv
        obtain ⟨u, _, rfl⟩ := List.mem_map.1 hv
        rfl)
       clear hL hp he hre hrl htot
       go_wp2
       go_region_law (refine step_copy_splice rfl (.tmp 105) (.tmp 111) 62 62 rfl 5 Tryz.underlying62 S1.out (some ⟨wo.heap.size, j, none⟩) (some ⟨g, 0, none⟩) (N - j) (N - j) x.2.length cap (by simp [Act.eval]) (by simp [Act.eval]) wo.heap.size j _ 5 HRe.out (x.2.map bv) S2.out (fun _ => ⟨rfl, ⟨g, 0, none⟩, rfl, S3.out⟩) S4.out S5.out wo.heap.size wo HBel.out.drew (Nat.le_refl _) ?_; intro w4 hg4 hb4)
       go_wp2
       go_roundw
       case rel =>
        refine ⟨k + 1, j + x.2.length, by omega, by go_num, by go_num, ?_, by omega, ?_, ?_⟩
        ·show _ = _
         rw [HT.out, HL.out, List.length_append, ← HJ.out]
        ·show BufAt _ _ _ _
         rw [HT.out, HL.out]
         have h4 := hg4.out
         rw [HJ.out] at h4
         exact BufAt.splice x.2 HRl.out (by have := HJ.out; omega) h4
        ·exact hb4
       case measure => simp [intOf]; omega
     ·have HK2 := Lib.hid (b_take (s := s) (k := k) (by omega))
      have HCv := Lib.hid (show _ from by have h1 := HBuf.out; rw [HK2.out] at h1; exact conv_buf h1 HN.out)
      have hcv := HCv.out
      go_wp2
      go_ret
      exact ⟨rfl, HOut.out.trans (HBel.out.mono HOut.out.size)⟩
/-- (*byteStringReplacer).Replace. -/
theorem run_any (B R : Nat) (l : List (UInt8 × List UInt8)) (s : ByteArray) (w : World) (hrep : Rep w B R l) (hko : keysOk l) (hs : s.size ≤ 1099511627776) (hl : l.length ≤ 100) (hm : ∀ x ∈ l, x.2.length ≤ 100) (hp1 : ∀ x ∈ l, 1 ≤ x.2.length) :
  Calls Tryz.prog 213 #[.pointer (some ⟨R, 0, none⟩), .string s] w fun e w' => e = .returned (.string ⟨(replL l s.data.toList).toArray⟩) ∧ Below w.heap.size w w' := by
 by_cases h8 : s.size < 8 * l.length
 ·exact run_short B R l s w hrep h8 hl hm hp1
 ·exact run_long B R l s w hrep hko (by omega) hs hl hm hp1
end Go.Proofs.YtanncakdlflopaaGreatDoor

namespace Go.Proofs.YtanncakdlflopaaGreatDoor
open Go.RowKit
set_option linter.unusedVariables false

/-- What stands while the blocks from B on stand. -/
def Firm (B : Nat) (P : World → Prop) : Prop := ∀ w w' : World, w.heap.size ≤ w'.heap.size → (∀ g, B ≤ g → g < w.heap.size → w'.heap[g]? = w.heap[g]?) → P w → P w'
theorem Firm.setCell {B : Nat} {P : World → Prop} (h : Firm B P) {w : World} {a : Addr} (ha : a.block < B) (v : Value) (hp : P w) : P (w.setCell a v) :=
 h _ _ (by simp [World.setCell]) (fun g hB _ => Below.heap_setCell _ _ _ _ (by omega)) hp
theorem Firm.drew {B : Nat} {P : World → Prop} (h : Firm B P) {w : World} (hp : P w) : P w.drew := h w w.drew (Nat.le_refl _) (fun _ _ _ => rfl) hp

set_option maxRecDepth 100000 in
set_option maxHeartbeats 1600000 in
theorem slow_gen (b : Nat) (d2 ov o : Value) (r : Nat → Value) (P : Nat → World → Prop) (w : World) (hP : ∀ R, Firm w.heap.size (P R))
  (hb : w.heap[b]? = some (.cells #[.int .u32 0, .int .i32 0, d2, .nilIface, ov] 163 (0, 0)))
  (hBO : Calls Tryz.prog 109 #[.pointer (some ⟨b, 0, none⟩)] (w.setCell ⟨b, 1, none⟩ (.int .i32 1)) fun e w' => ∃ R, e = .returned (.tuple #[]) ∧ P R w' ∧ Below b (w.setCell ⟨b, 1, none⟩ (.int .i32 1)) w' ∧ w'.heap[b]? = some (.cells #[.int .u32 0, .int .i32 1, d2, r R, o] 163 (0, 0))) :
  Calls Tryz.prog 123 #[.pointer (some ⟨b, 0, none⟩), .func (.func 109) #[.pointer (some ⟨b, 0, none⟩)] #[]] w fun e w' => ∃ R, e = .returned (.tuple #[]) ∧ P R w' ∧ Below b w w' ∧
   w'.heap[b]? = some (.cells #[.int .u32 1, .int .i32 0, d2, r R, o] 163 (0, 0)) := by
 have hbl := block_lt hb
 have hbL := heap_setCell_same w b 1 _ _ (.int .i32 1) hb
 have h0L : (w.setCell ⟨b, 1, none⟩ (.int .i32 1)).cell? ⟨b, 0, none⟩ = some (.int .u32 0) := by rw [cell_of_row _ _ _ _ _ _ hbL]; rfl
 have c1 : w.cell? ⟨b, 1, none⟩ = some (.int .i32 0) := by rw [cell_of_row _ _ _ _ _ _ hb]; rfl
 have z1 := frozen_of_row w b 1 _ _ hb
 have hnot : ∀ (x : Bool) (w : World), (Op.unary .not (.bool x)).run Tryz.prog w = .ok (.bool (!x)) w := fun _ _ => rfl
 have HBO := Lib.hid hBO
 have HP := Lib.hid hP
 clear hb hbL hBO hP
 go_enter_defers Tryz.func123, Tryz.ntmps123
 go_wp2_with (go_at_call 135; refine (s_lock ⟨b, 1, none⟩ _ c1 z1).mono ?_; rintro e w' ⟨rfl, rfl⟩)
 refine (s_load ⟨b, 0, none⟩ _ h0L).mono ?_
 rintro e w' ⟨rfl, rfl⟩
 go_wp2_with fail
 refine HBO.out.mono ?_
 rintro e w2 ⟨R, rfl, hp, hbel, hbR⟩
 have HR := Lib.hid hp
 have HBel := Lib.hid hbel
 have HbR := Lib.hid hbR
 clear hp hbel hbR
 go_wp2
 refine leaves_cons (f := 137) (args := #[.pointer (some ⟨b, 0, none⟩), .bool true]) (by simp) (by simp [go_sem]) ?_
 refine (s_store ⟨b, 0, none⟩ (.int .u32 0) .returning _ (by rw [cell_of_row _ _ _ _ _ _ HbR.out]; rfl) (frozen_of_row _ _ _ _ _ HbR.out)).mono ?_
 rintro e u' w'' ⟨rfl, rfl, rfl⟩
 have hb3 := heap_setCell_same w2.drew b 0 _ _ (.int .u32 1) HbR.out
 refine leaves_cons (f := 136) (args := #[.pointer (some ⟨b, 1, none⟩)]) (by simp [settle]) (by simp [go_sem]) ?_
 refine (s_unlock ⟨b, 1, none⟩ _ _ (by rw [cell_of_row _ _ _ _ _ _ hb3]; rfl) (frozen_of_row _ _ _ _ _ hb3)).mono ?_
 rintro e u' w'' ⟨rfl, rfl, rfl⟩
 have hb4 := heap_setCell_same _ b 1 _ _ (.int .i32 0) hb3
 have hfin : P R ((w2.drew.setCell ⟨b, 0, none⟩ (.int .u32 1)).setCell ⟨b, 1, none⟩ (.int .i32 0)) ∧ Below b w ((w2.drew.setCell ⟨b, 0, none⟩ (.int .u32 1)).setCell ⟨b, 1, none⟩ (.int .i32 0)) :=
  ⟨(HP.out R).setCell (a := ⟨b, 1, none⟩) hbl _ ((HP.out R).setCell (a := ⟨b, 0, none⟩) hbl _ ((HP.out R).drew HR.out)),
   Below.setCell (p := ⟨b, 1, none⟩) (Below.setCell (p := ⟨b, 0, none⟩) ((Below.setCell (p := ⟨b, 1, none⟩) (Below.refl b w) (Nat.le_refl _) _).trans HBel.out).drew (Nat.le_refl _) _) (Nat.le_refl _) _⟩
 have HF := Lib.hid hfin
 have HB4 := Lib.hid hb4
 clear hfin hb4 hb3
 have hres : ∀ (tm : Array Value) (W : World), (results Tryz.f123 tm).run Tryz.prog W = .ok (.tuple #[]) W := fun tm W => by simp [results, Tryz.results123]
 simp only [Leaves, settle, hres]
 exact ⟨_, rfl, R, rfl, HF.out.1, HF.out.2, HB4.out⟩

set_option maxRecDepth 100000 in
set_option maxHeartbeats 1600000 in
theorem do_gen (b : Nat) (d2 ov o : Value) (r : Nat → Value) (P : Nat → World → Prop) (w : World) (hP : ∀ R, Firm w.heap.size (P R))
  (hb : w.heap[b]? = some (.cells #[.int .u32 0, .int .i32 0, d2, .nilIface, ov] 163 (0, 0)))
  (hBO : Calls Tryz.prog 109 #[.pointer (some ⟨b, 0, none⟩)] (w.setCell ⟨b, 1, none⟩ (.int .i32 1)) fun e w' => ∃ R, e = .returned (.tuple #[]) ∧ P R w' ∧ Below b (w.setCell ⟨b, 1, none⟩ (.int .i32 1)) w' ∧ w'.heap[b]? = some (.cells #[.int .u32 0, .int .i32 1, d2, r R, o] 163 (0, 0))) :
  Calls Tryz.prog 108 #[.pointer (some ⟨b, 0, none⟩), .func (.func 109) #[.pointer (some ⟨b, 0, none⟩)] #[]] w fun e w' => ∃ R, e = .returned (.tuple #[]) ∧ P R w' ∧ Below b w w' ∧
   w'.heap[b]? = some (.cells #[.int .u32 1, .int .i32 0, d2, r R, o] 163 (0, 0)) := by
 have HS := Lib.hid (slow_gen b d2 ov o r P w hP hb hBO)
 have c0 : w.cell? ⟨b, 0, none⟩ = some (.int .u32 0) := by rw [cell_of_row _ _ _ _ _ _ hb]; rfl
 have hnot : ∀ (x : Bool) (w : World), (Op.unary .not (.bool x)).run Tryz.prog w = .ok (.bool (!x)) w := fun _ _ => rfl
 clear hb hBO hP
 go_enter Tryz.func108, Tryz.ntmps108
 go_wp2_with fail
 refine (s_load ⟨b, 0, none⟩ _ c0).mono ?_
 rintro e w' ⟨rfl, rfl⟩
 go_wp2_with fail
 refine HS.out.mono ?_
 rintro e w2 ⟨R, rfl, hp, hbel, hbR⟩
 have HR := Lib.hid hp
 have HBel := Lib.hid hbel
 have HbR := Lib.hid hbR
 clear hp hbel hbR
 go_wp2
 go_end0
 exact ⟨R, rfl, HR.out, HBel.out, HbR.out⟩

set_option maxRecDepth 100000 in
set_option maxHeartbeats 1000000 in
/-- buildOnce: r holds what the build makes, the pairs are gone. -/
theorem once_gen (b : Nat) (d0 d1 d2 ov : Value) (t : TypeId) (P : Nat → World → Prop) (w : World) (hP : ∀ R, Firm w.heap.size (P R))
  (hb : w.heap[b]? = some (.cells #[d0, d1, d2, .nilIface, ov] 163 (0, 0)))
  (hB : Calls Tryz.prog 124 #[.pointer (some ⟨b, 0, none⟩)] w fun e w' => ∃ R, e = .returned (.iface t (.pointer (some ⟨R, 0, none⟩))) ∧ P R w' ∧ Below w.heap.size w w') :
  Calls Tryz.prog 109 #[.pointer (some ⟨b, 0, none⟩)] w fun e w' => ∃ R, e = .returned (.tuple #[]) ∧ P R w' ∧ Below b w w' ∧
   w'.heap[b]? = some (.cells #[d0, d1, d2, (.iface t (.pointer (some ⟨R, 0, none⟩))), .slice none 0 0] 163 (0, 0)) := by
 have HB := Lib.hid hb
 have hbl := block_lt hb
 have HBld := Lib.hid hB
 have HP := Lib.hid hP
 clear hb hB hP
 go_enter Tryz.func109, Tryz.ntmps109
 go_wp2_with fail
 refine HBld.out.mono ?_
 rintro e w1 ⟨R, rfl, hst, hbel⟩
 have hb1 : w1.heap[b]? = some (.cells #[d0, d1, d2, .nilIface, ov] 163 (0, 0)) := by rw [hbel.block b hbl]; exact HB.out
 have c3 : w1.cell? ⟨b, 3, none⟩ = some .nilIface := by rw [cell_of_row _ _ _ _ _ _ hb1]; rfl
 have z3 := fun c => frozen_of_row w1 b c _ _ hb1
 have hb2 := heap_setCell_same w1 b 3 _ _ (.iface t (.pointer (some ⟨R, 0, none⟩))) hb1
 have c4 : (w1.setCell ⟨b, 3, none⟩ (.iface t (.pointer (some ⟨R, 0, none⟩)))).cell? ⟨b, 4, none⟩ = some ov := by rw [cell_of_row _ _ _ _ _ _ hb2]; rfl
 have hb3 := heap_setCell_same _ b 4 _ _ (.slice none 0 0) hb2
 have HB2 := Lib.hid hb2
 have HB3 := Lib.hid hb3
 have HBe := Lib.hid hbel
 have HR := Lib.hid hst
 clear hb1 hb2 hb3 hst
 go_wp2
 go_end0
 exact ⟨R, rfl, (HP.out R).setCell (a := ⟨b, 4, none⟩) hbl _ ((HP.out R).setCell (a := ⟨b, 3, none⟩) hbl _ HR.out), Below.setCell (p := ⟨b, 4, none⟩) (Below.setCell (p := ⟨b, 3, none⟩) (HBe.out.mono (Nat.le_of_lt hbl)) (Nat.le_refl _) _) (Nat.le_refl _) _, HB3.out⟩
end Go.Proofs.YtanncakdlflopaaGreatDoor
