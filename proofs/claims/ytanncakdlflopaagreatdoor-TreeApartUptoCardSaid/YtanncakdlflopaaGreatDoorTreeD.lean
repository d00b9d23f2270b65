/- tree.Check on any list of elements. (short) -/
import Derived.Test.YtanncakdlflopaaGreatDoorTreeC
namespace Go.Proofs.YtanncakdlflopaaGreatDoor
open Go.RowKit
set_option linter.unusedVariables false
set_option linter.unusedSimpArgs false
set_option maxRecDepth 100000

/-- The depths of a path's elements. -/
def DP (ds : List Value) (o : List Nat) : Prop := ∀ k q, (k :: q) <:+ o → ds[k]? = some (.int .i64 ((q.length + 1 : Nat) : Int))
theorem dp_one {ds : List Value} (h : 0 < ds.length) : DP (ds.set 0 (.int .i64 1)) [0] := by
 intro k q hs
 rcases List.suffix_cons_iff.1 hs with h1 | h1
 ·simp only [List.cons.injEq] at h1
  obtain ⟨rfl, rfl⟩ := h1
  rw [List.getElem?_set_self h]
  rfl
 ·exact absurd (List.suffix_nil.1 h1) (by simp)
theorem dp_push {ds : List Value} {i k : Nat} {q o : List Nat} (hl : i < ds.length) (hs : (k :: q) <:+ o) (h : DP ds o) (hlt : ∀ x ∈ k :: q, x < i) : DP (ds.set i (.int .i64 ((q.length + 2 : Nat) : Int))) (i :: k :: q) := by
 intro k' q' h1
 rcases List.suffix_cons_iff.1 h1 with h2 | h2
 ·simp only [List.cons.injEq] at h2
  obtain ⟨rfl, rfl⟩ := h2
  rw [List.getElem?_set_self hl]
  rfl
 ·have := hlt k' (h2.subset (by simp))
  rw [List.getElem?_set_ne (by omega)]
  exact h k' q' (h2.trans hs)
theorem dp_get {ds : List Value} {k : Nat} {q o : List Nat} (hs : (k :: q) <:+ o) (h : DP ds o) : ds[k]? = some (.int .i64 ((q.length + 1 : Nat) : Int)) := h k q hs
theorem chain_suf {l : List ElD} {o q : List Nat} {k : Nat} (hs : (k :: q) <:+ o) (h : chainP l o) : chainP l (k :: q) := by
 obtain ⟨pre, rfl⟩ := hs
 exact chain_sub h
theorem chain_all {l : List ElD} {i : Nat} {q : List Nat} (h : chainP l (i :: q)) : ∀ x ∈ i :: q, x ≤ i := by
 intro x hx
 rcases List.mem_cons.1 hx with rfl | hx
 ·exact Nat.le_refl _
 ·exact Nat.le_of_lt (chain_lt h x hx)
theorem elD_get {ms : List ElM} {i : Nat} {x : ElM} (h : ms[i]? = some x) : (elD ms)[i]? = some x.d := by unfold elD; rw [List.getElem?_map, h]; rfl
theorem chk_end {l : List ElD} {i m n : Nat} {o : List Nat} {r : Int} (hn : l.length = n) (h : chkF l (l.drop n) i o m = r) : r = if 60 < m then 7 else 0 := by
 rw [← hn, List.drop_length] at h
 exact h.symm
theorem chk_bad {l : List ElD} {i m : Nat} {o : List Nat} {r : Int} {e : ElD} (he : l[i]? = some e) (h : chkF l (l.drop i) i o m = r) (hr : rightB e = false) : r = 2 := by
 obtain ⟨hi, e1⟩ := List.getElem?_eq_some_iff.1 he
 rw [List.drop_eq_getElem_cons hi, e1, chkF, if_pos hr] at h
 exact h.symm
theorem chk_root {l : List ElD} {m : Nat} {o : List Nat} {r : Int} {e : ElD} (he : l[0]? = some e) (h : chkF l (l.drop 0) 0 o m = r) (hr : rightB e = true) : (e.up = -1 → chkF l (l.drop 1) 1 [0] (max m 1) = r) ∧ (e.up ≠ -1 → r = 2) := by
 obtain ⟨hi, e1⟩ := List.getElem?_eq_some_iff.1 he
 rw [List.drop_eq_getElem_cons hi, e1, chkF, if_neg (by rw [hr]; decide), if_pos rfl] at h
 refine ⟨fun hu => ?_, fun hu => ?_⟩
 ·rw [if_pos hu] at h; exact h
 ·rw [if_neg hu] at h; exact h.symm
theorem chk_step {l : List ElD} {i m : Nat} {o : List Nat} {r : Int} {e : ElD} (he : l[i]? = some e) (h : chkF l (l.drop i) i o m = r) (hr : rightB e = true) (hi0 : 0 < i) :
  (match o.dropWhile (fun k : Nat => !((k : Int) == e.up)) with
   | [] => 2
   | k :: q => if noText l k then chkF l (l.drop (i + 1)) (i + 1) (i :: k :: q) (max m (q.length + 2)) else 2) = r := by
 obtain ⟨hi, e1⟩ := List.getElem?_eq_some_iff.1 he
 rw [List.drop_eq_getElem_cons hi, e1, chkF, if_neg (by rw [hr]; decide), if_neg (by omega)] at h
 exact h
theorem chk_miss {l : List ElD} {i m : Nat} {o : List Nat} {r : Int} {e : ElD} (he : l[i]? = some e) (h : chkF l (l.drop i) i o m = r) (hr : rightB e = true) (hi0 : 0 < i) (hd : o.dropWhile (fun k : Nat => !((k : Int) == e.up)) = []) : r = 2 := by
 have := chk_step he h hr hi0
 rw [hd] at this
 exact this.symm
theorem chk_hit {l : List ElD} {i m k : Nat} {o q : List Nat} {r : Int} {e : ElD} (he : l[i]? = some e) (h : chkF l (l.drop i) i o m = r) (hr : rightB e = true) (hi0 : 0 < i) (hd : o.dropWhile (fun k : Nat => !((k : Int) == e.up)) = k :: q) :
  (noText l k = false → r = 2) ∧ (noText l k = true → chkF l (l.drop (i + 1)) (i + 1) (i :: k :: q) (max m (q.length + 2)) = r) := by
 have := chk_step he h hr hi0
 rw [hd] at this
 dsimp only at this
 refine ⟨fun hn => ?_, fun hn => ?_⟩
 ·rw [if_neg (by rw [hn]; decide)] at this; exact this.symm
 ·rw [if_pos hn] at this; exact this
theorem noText_at {l : List ElD} {k : Nat} {e : ElD} (h : l[k]? = some e) : noText l k = (e.t.toList == []) := by
 unfold noText
 rw [h]
 dsimp only
 rw [Lib.toList_data]
 cases e.t.data.toList <;> rfl
theorem chain_push {l : List ElD} {i k : Nat} {q : List Nat} {e : ElD} (he : l[i]? = some e) (hu : e.up = (k : Int)) (hk : k < i) (h : chainP l (k :: q)) : chainP l (i :: k :: q) := ⟨⟨e, he, hu⟩, hk, h⟩

set_option maxHeartbeats 16000000 in
theorem tcheck_any (p : Option Addr) (cp : Nat) (ms : List ElM) (W : World) (hT : U8 W) (h : ElIn W p ms) (hz : ∀ m ∈ ms, szOk m.d) :
  Calls Tryz.prog 12 #[.slice p ms.length cp] W fun e w' => e = .returned (.int .i64 (checkT (elD ms))) ∧ Below W.heap.size W w' := by
 have HM := Lib.hid (Mem.start W)
 have HT := Lib.hid hT
 have HI := Lib.hid h
 have HZ := Lib.hid hz
 obtain ⟨r, hr⟩ : ∃ r, checkT (elD ms) = r := ⟨_, rfl⟩
 rw [hr]
 have hln : (elD ms).length = ms.length := List.length_map ..
 unfold checkT at hr
 rw [hln] at hr
 clear hT h hz
 by_cases h2 : 20000 < ms.length
 ·rw [if_pos h2] at hr
  subst hr
  have d0 : decide ((20000 : Int) < (ms.length : Int)) = true := decide_eq_true (by omega)
  go_enter Tryz.func12, Tryz.ntmps12
  go_wp2_with fail
  go_ret
  exact ⟨rfl, HM.out.below⟩
 rw [if_neg h2] at hr
 have d0 : decide ((20000 : Int) < (ms.length : Int)) = false := decide_eq_false (by omega)
 by_cases h0 : ms.length = 0
 ·rw [if_pos (List.eq_nil_of_length_eq_zero (hln.trans h0))] at hr
  subst hr
  have b0 : ((ms.length : Int) == 0) = true := by rw [h0]; rfl
  go_enter Tryz.func12, Tryz.ntmps12
  go_wp2_with fail
  go_ret
  exact ⟨rfl, HM.out.below⟩
 rw [if_neg (fun e => h0 (by rw [← hln, e]; rfl))] at hr
 have b0 : ((ms.length : Int) == 0) = false := by simpa using (by omega : ¬ (ms.length : Int) = 0)
 have HR := Lib.hid hr
 clear hr
 go_enter Tryz.func12, Tryz.ntmps12
 go_wp2_with (first | (refine mks (n := ms.length) rfl HM.out rfl rfl rfl rfl rfl (by omega) (by omega) ?_; intro gd W1 HM1; replace HM := Lib.hid HM1; clear HM1))
 go_loopw [4, 19] (fun mv iv wr => ∃ (i m : Nat) (o : List Nat) (ds : List Value), mv = .int .i64 m ∧ iv = .int .i64 i ∧ i ≤ ms.length ∧ m ≤ 20000 ∧ o.length ≤ i ∧ ds.length = ms.length ∧ Hid (chkF (elD ms) ((elD ms).drop i) i o m = r) ∧ Hid (DP ds o) ∧ Hid (i = 0 ∨ ∃ q, o = (i - 1) :: q ∧ chainP (elD ms) o) ∧ Hid (Mem W wr [.row (some ⟨gd, 0, none⟩) ms.length 3 1 ms.length ds])) (fun _ iv _ => ms.length - (intOf iv).toNat)
 case atStart => exact ⟨0, 0, [], _, rfl, rfl, by omega, by omega, by simp, by rw [List.length_replicate], HR, Lib.hid (fun k q hs => absurd (List.suffix_nil.1 hs) (by simp)), Lib.hid (.inl rfl), HM⟩
 case round =>
  clear HM HR
  obtain ⟨i, m, o, ds, rfl, rfl, hi, hm, hol, hdl, HR, HD, HO, HM⟩ := hrel
  by_cases hlt : i < ms.length
  ·obtain ⟨b, hpb, hb⟩ := HI.out.row.some_at ElM.cs_len (by decide) hlt
   obtain ⟨x, hx⟩ : ∃ x, ms[i]? = some x := ⟨_, List.getElem?_eq_getElem hlt⟩
   have hxz := HZ.out x (List.mem_of_getElem? hx)
   obtain ⟨hxa, hxc⟩ := HI.out.at_ x (List.mem_of_getElem? hx)
   have he := elD_get hx
   have e1 := hb.elem ElM.cs 4 ElM.cs_len hx
   have HC := Lib.hid hb
   clear hb hx
   obtain ⟨⟨n, up, l, t⟩, pa, ca⟩ := x
   dsimp only at hxa hxc he
   have E1 := Lib.hid (show Cells W (b.add (i * 4)) [.string n, .int .i64 up, .slice pa l.length ca, .string t] from e1)
   have d1 : decide ((i : Int) < ms.length) = true := decide_eq_true (by omega)
   have hlt3 := Lib.hid (show i + 1 ≤ ms.length from hlt)
   have HRt := Lib.hid (fun g6 W2 (h : Mem W W2 [.box g6 42 [.string n, .int .i64 up, .slice pa l.length ca, .string t], .row (some ⟨gd, 0, none⟩) ms.length 3 1 ms.length ds]) => tright_any n t up l pa ca W2 (HT.out.below h.below) (h.sl hxa) hxc hxz)
   have HE := Lib.hid he
   have hig : i < ds.length := by omega
   subst hpb
   clear e1 hxa hxc hxz he
   cases hrt : rightB ⟨n, up, l, t⟩ with
   | false =>
    rw [hrt] at HRt
    have HR2 := Lib.hid (chk_bad HE.out HR.out hrt)
    clear hrt
    as_aux_lemma =>
    go_wp2_with (first | ((with_reducible refine iat 22 ?_); (refine ixa (i := i) rfl rfl rfl hlt ?_)) | ((with_reducible refine iat 23 ?_); (refine ldxW (HM.out.olds E1.out) rfl rfl ?_)) | (go_at_call 26; (with_reducible refine cB HM (HRt.out _ _ HM.out) ?_); clear HM; intro W1 HM) | ((with_reducible refine skip_op ?_ ?_); exact rfl) | refine mP ?_ | (refine mS ?_; clear HM; intro W1 HM) | (refine hal (dst := some 6) HM rfl ?_; clear HM; intro g6 W1 HM))
    go_ret
    exact ⟨by rw [HR2.out]; rfl, HM.out.below⟩
   | true =>
   rw [hrt] at HRt
   by_cases hi0 : i = 0
   ·subst hi0
    have hrr := chk_root HE.out HR.out hrt
    dsimp only at hrr
    by_cases hu : up = -1
    ·subst hu
     have HRn := Lib.hid (hrr.1 rfl)
     have HDn := Lib.hid (dp_one hig)
     have hds : (ds.set 0 (.int .i64 1))[0]? = some (.int .i64 1) := by rw [List.getElem?_set_self hig]
     clear hrr hrt HR HD HO
     as_aux_lemma =>
     go_wp2_with (first | ((with_reducible refine iat 22 ?_); (refine ixa (i := i) rfl rfl rfl hlt ?_)) | ((with_reducible refine iat 23 ?_); (refine ldxW (HM.out.olds E1.out) rfl rfl ?_)) | (go_at_call 26; (with_reducible refine cB HM (HRt.out _ _ HM.out) ?_); clear HM; intro W1 HM) | ((with_reducible refine skip_op ?_ ?_); exact rfl) | refine mP ?_ | (refine mS ?_; clear HM; intro W1 HM) | (refine hal (dst := some 6) HM rfl ?_; clear HM; intro g6 W1 HM) | ((with_reducible refine iat 49 ?_); (refine ixa (i := 0) rfl rfl rfl hlt ?_)) | ((with_reducible refine iat 86 ?_); (refine ixa (i := 0) rfl rfl rfl hlt ?_)) | ((with_reducible refine iat 87 ?_); (refine ldx1 (row_cell (i := 0) (HM.out.get (k := 1) rfl) hds) rfl ?_)) | ((with_reducible refine istore ?_); (refine strw (i := 0) (v := .int .i64 1) rfl HM.out 1 rfl rfl rfl rfl hig ?_); intro W1 HM1; replace HM := Lib.hid HM1; clear HM1; simp only [List.set, Nat.mul_one] at HM))
     go_roundw
     case rel => exact ⟨1, max m 1, [0], _, congrArg (Value.int .i64) (by omega), rfl, hlt3.out, by omega, by simp, by rw [List.length_set]; exact hdl, HRn, HDn, Lib.hid (.inr ⟨[], rfl, (rfl : (0 : Nat) = 0)⟩), Lib.hid (HM.out.sub (.cons _ (.refl _)))⟩
     case measure => have := hlt3.out; simp [intOf]; omega
    ·have HR2 := Lib.hid (hrr.2 hu)
     have b30 : (up == -1) = false := by simpa using hu
     clear hrr hrt
     as_aux_lemma =>
     go_wp2_with (first | ((with_reducible refine iat 22 ?_); (refine ixa (i := i) rfl rfl rfl hlt ?_)) | ((with_reducible refine iat 23 ?_); (refine ldxW (HM.out.olds E1.out) rfl rfl ?_)) | (go_at_call 26; (with_reducible refine cB HM (HRt.out _ _ HM.out) ?_); clear HM; intro W1 HM) | ((with_reducible refine skip_op ?_ ?_); exact rfl) | refine mP ?_ | (refine mS ?_; clear HM; intro W1 HM) | (refine hal (dst := some 6) HM rfl ?_; clear HM; intro g6 W1 HM))
     go_ret
     exact ⟨by rw [HR2.out]; rfl, HM.out.below⟩
   have b32 : ((i : Int) == 0) = false := by simpa using (by omega : ¬ (i : Int) = 0)
   have hpos : 0 < i := by omega
   obtain ⟨q0, rfl, hch⟩ := HO.out.resolve_left hi0
   have hall := chain_all hch
   by_cases hbad : up < 0 ∨ (i : Int) ≤ up
   ·have HR2 := Lib.hid (chk_miss HE.out HR.out hrt hpos (drop_miss (fun y hy => by have := hall y hy; dsimp only; omega)))
    clear hrt hall hch
    rcases hbad with hneg | hge
    ·by_cases hu : up = -1
     ·subst hu
      as_aux_lemma =>
      go_wp2_with (first | ((with_reducible refine iat 22 ?_); (refine ixa (i := i) rfl rfl rfl hlt ?_)) | ((with_reducible refine iat 23 ?_); (refine ldxW (HM.out.olds E1.out) rfl rfl ?_)) | (go_at_call 26; (with_reducible refine cB HM (HRt.out _ _ HM.out) ?_); clear HM; intro W1 HM) | ((with_reducible refine skip_op ?_ ?_); exact rfl) | refine mP ?_ | (refine mS ?_; clear HM; intro W1 HM) | (refine hal (dst := some 6) HM rfl ?_; clear HM; intro g6 W1 HM))
      go_ret
      exact ⟨by rw [HR2.out]; rfl, HM.out.below⟩
     ·have b30 : (up == -1) = false := by simpa using hu
      have hlt1 : up < -1 := by omega
      as_aux_lemma =>
      go_wp2_with (first | ((with_reducible refine iat 22 ?_); (refine ixa (i := i) rfl rfl rfl hlt ?_)) | ((with_reducible refine iat 23 ?_); (refine ldxW (HM.out.olds E1.out) rfl rfl ?_)) | (go_at_call 26; (with_reducible refine cB HM (HRt.out _ _ HM.out) ?_); clear HM; intro W1 HM) | ((with_reducible refine skip_op ?_ ?_); exact rfl) | refine mP ?_ | (refine mS ?_; clear HM; intro W1 HM) | (refine hal (dst := some 6) HM rfl ?_; clear HM; intro g6 W1 HM))
      go_ret
      exact ⟨by rw [HR2.out]; rfl, HM.out.below⟩
    ·have b30 : (up == -1) = false := by simpa using (by omega : ¬ up = -1)
     have d5 : decide (up ≥ (i : Int)) = true := decide_eq_true hge
     have d6 : decide ((i : Int) ≤ up) = true := decide_eq_true hge
     as_aux_lemma =>
     go_wp2_with (first | ((with_reducible refine iat 22 ?_); (refine ixa (i := i) rfl rfl rfl hlt ?_)) | ((with_reducible refine iat 23 ?_); (refine ldxW (HM.out.olds E1.out) rfl rfl ?_)) | (go_at_call 26; (with_reducible refine cB HM (HRt.out _ _ HM.out) ?_); clear HM; intro W1 HM) | ((with_reducible refine skip_op ?_ ?_); exact rfl) | refine mP ?_ | (refine mS ?_; clear HM; intro W1 HM) | (refine hal (dst := some 6) HM rfl ?_; clear HM; intro g6 W1 HM))
     go_ret
     exact ⟨by rw [HR2.out]; rfl, HM.out.below⟩
   have hup0 : 0 ≤ up := by omega
   have hupi : up < i := by omega
   have b30 : (up == -1) = false := by simpa using (by omega : ¬ up = -1)
   have d5 : decide (up ≥ (i : Int)) = false := decide_eq_false (by omega)
   have d6 : decide ((i : Int) ≤ up) = false := decide_eq_false (by omega)
   have HCh := Lib.hid hch
   have HAl := Lib.hid hall
   have HRt2 := Lib.hid hrt
   have hm1 : ((i - 1 : Nat) : Int) = (i : Int) - 1 := by omega
   clear hrt hall hch HO hbad
   as_aux_lemma =>
   go_wp2_with (first | ((with_reducible refine iat 22 ?_); (refine ixa (i := i) rfl rfl rfl hlt ?_)) | ((with_reducible refine iat 23 ?_); (refine ldxW (HM.out.olds E1.out) rfl rfl ?_)) | (go_at_call 26; (with_reducible refine cB HM (HRt.out _ _ HM.out) ?_); clear HM; intro W1 HM) | ((with_reducible refine skip_op ?_ ?_); exact rfl) | refine mP ?_ | (refine mS ?_; clear HM; intro W1 HM) | (refine hal (dst := some 6) HM rfl ?_; clear HM; intro g6 W1 HM) | ((with_reducible refine iat 49 ?_); (refine ixa (i := i) rfl rfl rfl hlt ?_)) | ((with_reducible refine istore ?_); (refine strw (i := i * 1) (v := .int .i64 1) rfl HM.out 1 rfl rfl rfl rfl (by rw [Nat.mul_one]; exact hig) ?_); intro W1 HM1; replace HM := Lib.hid HM1; clear HM1; simp only [List.set, Nat.mul_one] at HM))
   clear HRt
   go_loopw [7] (fun kv wr => ∃ (k : Nat) (q pre : List Nat), kv = .int .i64 k ∧ k < i ∧ Hid ((i - 1) :: q0 = pre ++ k :: q) ∧ Hid (∀ x ∈ pre, up < (x : Int)) ∧ Hid (Mem W wr [.box g6 42 [.string n, .int .i64 up, .slice pa l.length ca, .string t], .row (some ⟨gd, 0, none⟩) ms.length 3 1 ms.length (ds.set i (.int .i64 1))])) (fun kv _ => (intOf kv).toNat)
   case atStart => exact ⟨i - 1, q0, [], by rw [hm1], by omega, Lib.hid rfl, Lib.hid (by simp), HM⟩
   case round =>
    clear HM
    obtain ⟨k, q, pre, rfl, hki, HP, HU, HM⟩ := hrel
    have hsuf : (k :: q) <:+ (i - 1) :: q0 := ⟨pre, HP.out.symm⟩
    have hkl : k < ms.length := by omega
    obtain ⟨y, hy⟩ : ∃ y, ms[k]? = some y := ⟨_, List.getElem?_eq_getElem hkl⟩
    have hyd := elD_get hy
    have e2 := HC.out.elem ElM.cs 4 ElM.cs_len hy
    by_cases hku : up < (k : Int)
    ·obtain ⟨k', r', e, rfl, he2, hu2, hlt2⟩ := chain_more (chain_suf hsuf HCh.out) (by omega)
     rw [hyd] at he2
     obtain rfl : y.d = e := Option.some.inj he2
     obtain ⟨⟨yn, yu, yl, yt⟩, py, cy⟩ := y
     dsimp only at hu2
     subst hu2
     have EK := Lib.hid (show Cells W (b.add (k * 4)) [.string yn, .int .i64 (k' : Int), .slice py yl.length cy, .string yt] from e2)
     have d7 : decide (up < (k : Int)) = true := decide_eq_true hku
     have HP2 := Lib.hid (show (i - 1) :: q0 = (pre ++ [k]) ++ k' :: r' by rw [HP.out]; simp)
     have HU2 := Lib.hid (show ∀ x ∈ pre ++ [k], up < (x : Int) by
      intro x hx
      rcases List.mem_append.1 hx with hx | hx
      ·exact HU.out x hx
      ·simp at hx; rw [hx]; exact hku)
     clear e2 he2 hyd hy hsuf
     as_aux_lemma =>
     go_wp2_with (first | ((with_reducible refine iat 60 ?_); (refine ixa (i := k) rfl rfl rfl hkl ?_)) | ((with_reducible refine iat 62 ?_); (refine ldx1 (HM.out.olds EK.out 1 _ rfl) rfl ?_)) | ((with_reducible refine skip_op ?_ ?_); exact rfl) | refine mP ?_ | (refine mS ?_; clear HM; intro W1 HM) | (refine hal HM rfl ?_; clear HM; intro g1 W1 HM))
     go_roundw
     case rel => exact ⟨k', r', pre ++ [k], rfl, by omega, HP2, HU2, HM⟩
     case measure => simp [intOf]; omega
    ·have d7 : decide (up < (k : Int)) = false := decide_eq_false hku
     have hdrop := drop_pre (X := k :: q) HU.out
     rw [← HP.out] at hdrop
     by_cases hke : (k : Int) = up
     ·subst hke
      have bk : ((k : Int) != k) = false := by simp
      rw [drop_hit rfl] at hdrop
      have hh := chk_hit HE.out HR.out HRt2.out hpos hdrop
      rw [noText_at hyd] at hh
      obtain ⟨⟨yn, yu, yl, yt⟩, py, cy⟩ := y
      dsimp only at hh
      have EK := Lib.hid (show Cells W (b.add (k * 4)) [.string yn, .int .i64 yu, .slice py yl.length cy, .string yt] from e2)
      cases htx : (yt.toList == []) with
      | false =>
       have HR2 := Lib.hid (hh.1 htx)
       clear hh hdrop e2 hyd hy hsuf
       as_aux_lemma =>
       go_wp2_with (first | ((with_reducible refine iat 70 ?_); (refine ixa (i := k) rfl rfl rfl hkl ?_)) | ((with_reducible refine iat 72 ?_); (refine ldx1 (HM.out.olds EK.out 3 _ rfl) rfl ?_)) | ((with_reducible refine skip_op ?_ ?_); exact rfl) | refine mP ?_ | (refine mS ?_; clear HM; intro W1 HM) | (refine hal HM rfl ?_; clear HM; intro g1 W1 HM))
       go_ret
       exact ⟨by rw [HR2.out]; rfl, HM.out.below⟩
      | true =>
       have HRn := Lib.hid (hh.2 htx)
       have HDn := Lib.hid (dp_push hig hsuf HD.out (fun x hx => by have := HAl.out x (hsuf.subset hx); omega))
       have HOn := Lib.hid (chain_push HE.out rfl hki (chain_suf hsuf HCh.out))
       have hdk : (ds.set i (.int .i64 1))[k * 1]? = some (.int .i64 ((q.length + 1 : Nat) : Int)) := by rw [Nat.mul_one, List.getElem?_set_ne (by omega)]; exact dp_get hsuf HD.out
       have hdi : ((ds.set i (.int .i64 1)).set i (.int .i64 ((q.length + 1 : Nat) + 1 : Int)))[i * 1]? = some (.int .i64 ((q.length + 1 : Nat) + 1 : Int)) := by rw [Nat.mul_one, List.getElem?_set_self (by rw [List.length_set]; exact hig)]
       have hql : q.length < i := by have := hsuf.length_le; simp at this hol; omega
       have hig2 : i < (ds.set i (.int .i64 1)).length := by rw [List.length_set]; exact hig
       clear hh hdrop e2 hyd hy hsuf HR HD
       as_aux_lemma =>
       go_wp2_with (first | ((with_reducible refine iat 70 ?_); (refine ixa (i := k) rfl rfl rfl hkl ?_)) | ((with_reducible refine iat 72 ?_); (refine ldx1 (HM.out.olds EK.out 3 _ rfl) rfl ?_)) | ((with_reducible refine iat 79 ?_); (refine ixa (i := k) rfl rfl rfl hkl ?_)) | ((with_reducible refine iat 80 ?_); (refine ldx1 (row_cell (HM.out.get (k := 1) rfl) hdk) rfl ?_)) | ((with_reducible refine iat 82 ?_); (refine ixa (i := i) rfl rfl rfl hlt ?_)) | ((with_reducible refine iat 86 ?_); (refine ixa (i := i) rfl rfl rfl hlt ?_)) | ((with_reducible refine iat 87 ?_); (refine ldx1 (row_cell (HM.out.get (k := 1) rfl) hdi) rfl ?_)) | ((with_reducible refine istore ?_); (refine strw (i := i * 1) (v := .int .i64 ((q.length + 1 : Nat) + 1 : Int)) rfl HM.out 1 rfl rfl rfl rfl (by rw [Nat.mul_one]; exact hig2) ?_); intro W1 HM1; replace HM := Lib.hid HM1; clear HM1; simp only [List.set, Nat.mul_one] at HM) | ((with_reducible refine skip_op ?_ ?_); exact rfl) | refine mP ?_ | (refine mS ?_; clear HM; intro W1 HM) | (refine hal HM rfl ?_; clear HM; intro g1 W1 HM))
       go_roundw
       case rel => exact ⟨i + 1, max m (q.length + 2), i :: k :: q, _, congrArg (Value.int .i64) (by omega), by go_num, hlt3.out, by omega, by simp only [List.length_cons]; omega, by rw [List.length_set]; exact hdl, HRn, HDn, Lib.hid (.inr ⟨k :: q, rfl, HOn.out⟩), Lib.hid (by have h9 := HM.out.sub (.cons _ (.refl _)); rw [List.set_set, show ((q.length + 1 : Nat) : Int) + 1 = ((q.length + 2 : Nat) : Int) by omega] at h9; exact h9)⟩
       case measure => have := hlt3.out; simp [intOf]; omega
     ·have bk : ((k : Int) != up) = true := by simpa using hke
      have hk2 : ∀ x ∈ k :: q, (x : Int) < up := fun x hx => by have := chain_all (chain_suf hsuf HCh.out) x hx; omega
      have HR2 := Lib.hid (chk_miss HE.out HR.out HRt2.out hpos (hdrop.trans (drop_none hk2)))
      clear hdrop e2 hyd hy hsuf hk2
      as_aux_lemma =>
      go_wp2_with (first | ((with_reducible refine skip_op ?_ ?_); exact rfl) | refine mP ?_ | (refine mS ?_; clear HM; intro W1 HM) | (refine hal HM rfl ?_; clear HM; intro g1 W1 HM))
      go_ret
      exact ⟨by rw [HR2.out]; rfl, HM.out.below⟩
  ·obtain rfl : i = ms.length := by omega
   have d1 : decide ((ms.length : Int) < ms.length) = false := by simp
   have hr := chk_end hln HR.out
   by_cases h60 : 60 < m
   ·have d2 : decide ((60 : Int) < (m : Int)) = true := decide_eq_true (by omega)
    rw [if_pos h60] at hr
    as_aux_lemma =>
    go_wp2_with fail
    go_ret
    exact ⟨by rw [hr]; rfl, HM.out.below⟩
   ·have d2 : decide ((60 : Int) < (m : Int)) = false := decide_eq_false (by omega)
    rw [if_neg h60] at hr
    as_aux_lemma =>
    go_wp2_with fail
    go_ret
    exact ⟨by rw [hr]; rfl, HM.out.below⟩
end Go.Proofs.YtanncakdlflopaaGreatDoor
