/- The reference's Check on any list of elements. (short) -/
import Derived.Test.YtanncakdlflopaaGreatDoorTreeD
namespace Go.Proofs.YtanncakdlflopaaGreatDoor
open Go.RowKit
set_option linter.unusedVariables false
set_option linter.unusedSimpArgs false
set_option maxRecDepth 100000

def intC (l : List Nat) : List Value := l.map fun k : Nat => .int .i64 (k : Int)
theorem intC_len (l : List Nat) : (intC l).length = l.length := List.length_map ..
theorem intC_snoc (l : List Nat) (k : Nat) : intC (l ++ [k]) = intC l ++ [.int .i64 (k : Int)] := by simp [intC]
theorem intC_take (l : List Nat) : (intC l).take (l.length * 1) = intC l := List.take_of_length_le (by rw [intC_len]; omega)
def slLen : Value → Nat
 | .slice _ n _ => n
 | _ => 0
theorem drop_to {k : Nat} {q : List Nat} : ∀ {pre : List Nat}, (∀ x ∈ pre, ¬ (x : Int) = (k : Int)) → (pre ++ k :: q).dropWhile (fun x : Nat => !((x : Int) == (k : Int))) = k :: q
 | [], _ => drop_hit rfl
 | x :: pre, h => by
  have h1 := h x (by simp)
  rw [List.cons_append, List.dropWhile_cons, if_pos, drop_to (fun y hy => h y (by simp [hy]))]
  simpa using h1
theorem top_cell (k : Nat) (q : List Nat) : (intC (k :: q).reverse)[q.length * 1]? = some (.int .i64 (k : Int)) := by
 unfold intC
 rw [List.reverse_cons, List.map_append, Nat.mul_one, List.getElem?_append_right (by simp)]
 simp
theorem pop_take (k : Nat) (q : List Nat) : (intC (k :: q).reverse).take (q.length * 1) = intC q.reverse := by
 unfold intC
 rw [List.reverse_cons, List.map_append, Nat.mul_one, List.take_append_of_le_length (by simp)]
 exact List.take_of_length_le (by simp)
theorem push_row (i : Nat) (o : List Nat) : (intC o.reverse).take (o.length * 1) ++ [.int .i64 (i : Int)] = intC (i :: o).reverse := by
 have := intC_take o.reverse
 rw [List.length_reverse] at this
 rw [this, List.reverse_cons, intC_snoc]
theorem pop_mem {w0 W : World} {p : Option Addr} {c k : Nat} {q : List Nat} {L : List Res} (h : Mem w0 W (.row p c 3 1 (q.length + 1) (intC (k :: q).reverse) :: L)) : Mem w0 W (.row p c 3 1 q.length (intC q.reverse) :: L) := by
 have := h.trunc (k := 0) rfl (m := q.length) (by omega)
 rw [pop_take] at this
 exact this

set_option maxHeartbeats 16000000 in
theorem rcheck_any (p : Option Addr) (cp : Nat) (ms : List ElM) (W : World) (h : ElIn W p ms) (hz : ∀ m ∈ ms, szOk m.d) :
  Calls Tryz.prog 13 #[.slice p ms.length cp] W fun e w' => e = .returned (.int .i64 (checkT (elD ms))) ∧ Below W.heap.size W w' := by
 have HM := Lib.hid (Mem.start W)
 have HI := Lib.hid h
 have HZ := Lib.hid hz
 obtain ⟨r, hr⟩ : ∃ r, checkT (elD ms) = r := ⟨_, rfl⟩
 rw [hr]
 have hln : (elD ms).length = ms.length := List.length_map ..
 unfold checkT at hr
 rw [hln] at hr
 clear h hz
 by_cases h2 : 20000 < ms.length
 ·rw [if_pos h2] at hr
  subst hr
  have d0 : decide ((20000 : Int) < (ms.length : Int)) = true := decide_eq_true (by omega)
  go_enter Tryz.func13, Tryz.ntmps13
  go_wp2_with fail
  go_ret
  exact ⟨rfl, HM.out.below⟩
 rw [if_neg h2] at hr
 have d0 : decide ((20000 : Int) < (ms.length : Int)) = false := decide_eq_false (by omega)
 by_cases h0 : ms.length = 0
 ·rw [if_pos (List.eq_nil_of_length_eq_zero (hln.trans h0))] at hr
  subst hr
  have b0 : ((ms.length : Int) == 0) = true := by rw [h0]; rfl
  go_enter Tryz.func13, Tryz.ntmps13
  go_wp2_with (first | ((with_reducible refine skip_op ?_ ?_); exact rfl) | refine mP ?_ | (refine mS ?_; clear HM; intro W1 HM) | (refine mL ?_; clear HM; intro g1 W1 HM))
  go_ret
  exact ⟨rfl, HM.out.below⟩
 rw [if_neg (fun e => h0 (by rw [← hln, e]; rfl))] at hr
 have b0 : ((ms.length : Int) == 0) = false := by simpa using (by omega : ¬ (ms.length : Int) = 0)
 have hpos0 : 0 < ms.length := by omega
 obtain ⟨b, hpb, hb⟩ := HI.out.row.some_at ElM.cs_len (by decide) hpos0
 obtain ⟨x0, hx0⟩ : ∃ x, ms[0]? = some x := ⟨_, List.getElem?_eq_getElem hpos0⟩
 have he0 := elD_get hx0
 have e0 := hb.elem ElM.cs 4 ElM.cs_len hx0
 have HCb := Lib.hid hb
 subst hpb
 clear hb hx0
 obtain ⟨⟨n0, up0, l0, t0⟩, pa0, ca0⟩ := x0
 dsimp only at he0
 have E0 := Lib.hid (show Cells W (b.add (0 * 4)) [.string n0, .int .i64 up0, .slice pa0 l0.length ca0, .string t0] from e0)
 have HR := Lib.hid (show chkF (elD ms) ((elD ms).drop 0) 0 [] 0 = r from hr)
 clear e0 hr
 by_cases hu0 : ¬ up0 = -1
 ·have b1 : (up0 != -1) = true := by simpa using hu0
  have HR2 := Lib.hid (show r = 2 by
   cases hrt : rightB ⟨n0, up0, l0, t0⟩ with
   | false => exact chk_bad he0 HR.out hrt
   | true => exact (chk_root he0 HR.out hrt).2 hu0)
  clear HR he0
  as_aux_lemma =>
  go_enter Tryz.func13, Tryz.ntmps13
  go_wp2_with (first | ((with_reducible refine iat 15 ?_); (refine ixa (i := 0) rfl rfl rfl hpos0 ?_)) | ((with_reducible refine iat 17 ?_); (refine ldx1 (HM.out.olds E0.out 1 _ rfl) rfl ?_)) | ((with_reducible refine skip_op ?_ ?_); exact rfl) | refine mP ?_ | (refine mS ?_; clear HM; intro W1 HM) | (refine mL ?_; clear HM; intro g1 W1 HM))
  go_ret
  exact ⟨by rw [HR2.out]; rfl, HM.out.below⟩
 have hu0 := Classical.not_not.1 hu0
 subst hu0
 have HE0 := Lib.hid he0
 clear he0
 go_enter Tryz.func13, Tryz.ntmps13
 go_wp2_with (first | ((with_reducible refine iat 15 ?_); (refine ixa (i := 0) rfl rfl rfl hpos0 ?_)) | ((with_reducible refine iat 17 ?_); (refine ldx1 (HM.out.olds E0.out 1 _ rfl) rfl ?_)) | (refine mks (n := ms.length) rfl HM.out rfl rfl rfl rfl rfl (by omega) (by omega) ?_; intro gd W1 HM1; replace HM := Lib.hid HM1; clear HM1))
 have HM0 := Lib.hid (HM.out.row0 3 1)
 clear HM E0
 go_loopw [4, 5, 6] (fun mv ov iv wr => ∃ (i m : Nat) (o : List Nat) (ds : List Value) (po : Option Addr) (co : Nat), mv = .int .i64 m ∧ ov = .slice po o.length co ∧ iv = .int .i64 i ∧ i ≤ ms.length ∧ m ≤ 20000 ∧ o.length ≤ i ∧ ds.length = ms.length ∧ Hid (chkF (elD ms) ((elD ms).drop i) i o m = r) ∧ Hid (DP ds o) ∧ Hid (i = 0 ∧ o = [] ∨ ∃ q, o = (i - 1) :: q ∧ chainP (elD ms) o) ∧ Hid (Mem W wr [.row po co 3 1 o.length (intC o.reverse), .row (some ⟨gd, 0, none⟩) ms.length 3 1 ms.length ds])) (fun _ _ iv _ => ms.length - (intOf iv).toNat)
 case atStart => exact ⟨0, 0, [], _, none, 0, rfl, rfl, rfl, by omega, by omega, by simp, by rw [List.length_replicate], HR, Lib.hid (fun k q hs => absurd (List.suffix_nil.1 hs) (by simp)), Lib.hid (.inl ⟨rfl, rfl⟩), HM0⟩
 case round =>
  clear HM0 HR
  obtain ⟨i, m, o, ds, po, co, rfl, rfl, rfl, hi, hm, hol, hdl, HR, HD, HO, HM⟩ := hrel
  by_cases hlt : i < ms.length
  ·obtain ⟨x, hx⟩ : ∃ x, ms[i]? = some x := ⟨_, List.getElem?_eq_getElem hlt⟩
   have hxz := HZ.out x (List.mem_of_getElem? hx)
   obtain ⟨hxa, -⟩ := HI.out.at_ x (List.mem_of_getElem? hx)
   have he := elD_get hx
   have e1 := HCb.out.elem ElM.cs 4 ElM.cs_len hx
   clear hx
   obtain ⟨⟨n, up, l, t⟩, pa, ca⟩ := x
   dsimp only at hxa he
   have E1 := Lib.hid (show Cells W (b.add (i * 4)) [.string n, .int .i64 up, .slice pa l.length ca, .string t] from e1)
   have d1 : decide ((i : Int) < ms.length) = true := decide_eq_true (by omega)
   have hlt3 := Lib.hid (show i + 1 ≤ ms.length from hlt)
   have HRt := Lib.hid (fun W2 (h : Mem W W2 [.row po co 3 1 o.length (intC o.reverse), .row (some ⟨gd, 0, none⟩) ms.length 3 1 ms.length ds]) => relem_any n t up l pa ca W2 (h.sl hxa) hxz)
   have HE := Lib.hid he
   have hig : i < ds.length := by omega
   clear e1 hxa hxz he
   cases hrt : rightB ⟨n, up, l, t⟩ with
   | false =>
    rw [hrt] at HRt
    have HR2 := Lib.hid (chk_bad HE.out HR.out hrt)
    clear hrt
    as_aux_lemma =>
    go_wp2_with (first | ((with_reducible refine iat 31 ?_); (refine ixa (i := i) rfl rfl rfl hlt ?_)) | ((with_reducible refine iat 32 ?_); (refine ldxW (HM.out.olds E1.out) rfl rfl ?_)) | (go_at_call 27; (with_reducible refine cB HM (HRt.out _ HM.out) ?_); clear HM; intro W1 HM) | ((with_reducible refine skip_op ?_ ?_); exact rfl) | refine mP ?_ | (refine mS ?_; clear HM; intro W1 HM) | (refine mL ?_; clear HM; intro g1 W1 HM))
    go_ret
    exact ⟨by rw [HR2.out]; rfl, HM.out.below⟩
   | true =>
   rw [hrt] at HRt
   by_cases hi0 : i = 0
   ·subst hi0
    have hup : up = -1 := by have := HE.out; rw [HE0.out] at this; exact (congrArg ElD.up (Option.some.inj this)).symm
    have ho0 : o = [] := by
     rcases HO.out with h | ⟨q, h1, h2⟩
     ·exact h.2
     ·subst h1; simp at hol
    subst hup ho0
    have HRn := Lib.hid ((chk_root HE.out HR.out hrt).1 rfl)
    have HDn := Lib.hid (dp_one hig)
    have hds : (ds.set 0 (.int .i64 1))[0]? = some (.int .i64 1) := by rw [List.getElem?_set_self hig]
    clear hrt HR HD HO
    as_aux_lemma =>
    go_wp2_with (first | ((with_reducible refine iat 31 ?_); (refine ixa (i := i) rfl rfl rfl hlt ?_)) | ((with_reducible refine iat 32 ?_); (refine ldxW (HM.out.olds E1.out) rfl rfl ?_)) | (go_at_call 27; (with_reducible refine cB HM (HRt.out _ HM.out) ?_); clear HM; intro W1 HM) | ((with_reducible refine skip_op ?_ ?_); exact rfl) | refine mP ?_ | (refine mS ?_; clear HM; intro W1 HM) | (refine mL ?_; clear HM; intro g1 W1 HM))
    go_loopw [5] (fun ov wr => ov = .slice po 0 co ∧ Hid (Mem W wr [.row po co 3 1 0 (intC []), .row (some ⟨gd, 0, none⟩) ms.length 3 1 ms.length ds])) (fun _ _ => 0)
    case atStart => exact ⟨rfl, HM⟩
    case round =>
     clear HM
     obtain ⟨rfl, HM⟩ := hrel
     go_wp2_with fail
     refine wp_region_mem (by kernel_rfl) (by kernel_rfl) HM.out ?_; intro hNE; (repeat (any_goals (first | ((with_reducible refine qgd ?_); (with_reducible refine skip_q ?_ ?_ ?_); (exact rfl); (rotate_left; (exact (hNE.elim fun p => ⟨p.W, p, rfl⟩)))) | refine mQ ?_ | go_big_quiet_step (fail) | quiet_step (fail)))); clear hNE; refine wpQuiet_nil ?_; intro W1 HM1; replace HM := Lib.hid HM1; clear HM1
     go_wp2_with (first | ((with_reducible refine iat 31 ?_); (refine ixa (i := i) rfl rfl rfl hlt ?_)) | ((with_reducible refine iat 32 ?_); (refine ldxW (HM.out.olds E1.out) rfl rfl ?_)) | (go_at_call 27; (with_reducible refine cB HM (HRt.out _ HM.out) ?_); clear HM; intro W1 HM) | ((with_reducible refine skip_op ?_ ?_); exact rfl) | refine mP ?_ | (refine mS ?_; clear HM; intro W1 HM) | (refine mL ?_; clear HM; intro g1 W1 HM) | ((with_reducible refine iat 70 ?_); (refine ixa (i := 0) rfl rfl rfl hlt ?_)) | ((with_reducible refine iat 98 ?_); (refine ixa (i := 0) rfl rfl rfl hlt ?_)) | ((with_reducible refine iat 99 ?_); (refine ldx1 (row_cell (i := 0) (HM.out.get (k := 1) rfl) hds) rfl ?_)) | ((with_reducible refine istore ?_); (refine strw (i := 0) (v := .int .i64 1) rfl HM.out 1 rfl rfl rfl rfl hig ?_); intro W1 HM1; replace HM := Lib.hid HM1; clear HM1; simp only [List.set, Nat.mul_one] at HM) | (refine apb rfl HM.out 1 0 rfl rfl rfl rfl rfl rfl (by omega) (by omega) (by omega) ?_; intro p1 cap1 W1 HM1; replace HM := Lib.hid HM1; clear HM1; simp only [List.set] at HM))
     go_roundw
     case rel => exact ⟨1, max m 1, [0], _, p1, cap1, congrArg (Value.int .i64) (by omega), rfl, rfl, hlt3.out, by omega, by simp, by rw [List.length_set]; exact hdl, HRn, HDn, Lib.hid (.inr ⟨[], rfl, (rfl : (0 : Nat) = 0)⟩), Lib.hid (HM.out.sub (.cons _ (.refl _)))⟩
     case measure => have := hlt3.out; simp [intOf]; omega
   obtain ⟨q0, rfl, hch⟩ := HO.out.resolve_left (fun h => hi0 h.1)
   have hpos : 0 < i := by omega
   have hall := chain_all hch
   have HCh := Lib.hid hch
   have HAl := Lib.hid hall
   have HRt2 := Lib.hid hrt
   clear hrt hall hch HO
   as_aux_lemma =>
   go_wp2_with (first | ((with_reducible refine iat 31 ?_); (refine ixa (i := i) rfl rfl rfl hlt ?_)) | ((with_reducible refine iat 32 ?_); (refine ldxW (HM.out.olds E1.out) rfl rfl ?_)) | (go_at_call 27; (with_reducible refine cB HM (HRt.out _ HM.out) ?_); clear HM; intro W1 HM) | ((with_reducible refine skip_op ?_ ?_); exact rfl) | refine mP ?_ | (refine mS ?_; clear HM; intro W1 HM) | (refine mL ?_; clear HM; intro g1 W1 HM))
   clear HRt
   go_loopw [5] (fun ov wr => ∃ (q pre : List Nat), ov = .slice po q.length co ∧ Hid ((i - 1) :: q0 = pre ++ q) ∧ Hid (∀ x ∈ pre, ¬ (x : Int) = up) ∧ Hid (Mem W wr [.row po co 3 1 q.length (intC q.reverse), .row (some ⟨gd, 0, none⟩) ms.length 3 1 ms.length ds])) (fun ov _ => slLen ov)
   case atStart => exact ⟨(i - 1) :: q0, [], rfl, Lib.hid rfl, Lib.hid (by simp), HM⟩
   case round =>
    clear HM
    obtain ⟨q, pre, rfl, HP, HU, HM⟩ := hrel
    rcases q with _ | ⟨k, q⟩
    ·have HR2 := Lib.hid (chk_miss HE.out HR.out HRt2.out hpos (by rw [HP.out, List.append_nil]; exact drop_miss HU.out))
     simp only [List.length_nil, List.reverse_nil] at HM ⊢
     as_aux_lemma =>
     go_wp2_with fail
     refine wp_region_mem (by kernel_rfl) (by kernel_rfl) HM.out ?_; intro hNE; (repeat (any_goals (first | ((with_reducible refine qgd ?_); (with_reducible refine skip_q ?_ ?_ ?_); (exact rfl); (rotate_left; (exact (hNE.elim fun p => ⟨p.W, p, rfl⟩)))) | refine mQ ?_ | go_big_quiet_step (fail) | quiet_step (fail)))); clear hNE; refine wpQuiet_nil ?_; intro W1 HM1; replace HM := Lib.hid HM1; clear HM1
     go_wp2_with (first | ((with_reducible refine skip_op ?_ ?_); exact rfl) | refine mP ?_ | (refine mS ?_; clear HM; intro W1 HM) | (refine mL ?_; clear HM; intro g1 W1 HM))
     go_ret
     exact ⟨by rw [HR2.out]; rfl, HM.out.below⟩
    ·simp only [List.length_cons] at HM ⊢
     have hsuf : (k :: q) <:+ (i - 1) :: q0 := ⟨pre, HP.out.symm⟩
     have hki : k < i := by have := HAl.out k (hsuf.subset (by simp)); omega
     have hkl : k < ms.length := by omega
     have hql : q.length < i := by have := hsuf.length_le; simp at this hol; omega
     obtain ⟨bo, rfl⟩ := row_has (HM.out.get (k := 0) rfl) (by omega)
     have hqc : q.length ≤ co := by have := (row_cap (HM.out.get (k := 0) rfl)).1; omega
     obtain ⟨cs, hcs⟩ : ∃ cs, intC (k :: q).reverse = cs := ⟨_, rfl⟩
     have HTop := Lib.hid (show cs[q.length * 1]? = some (.int .i64 (k : Int)) by rw [← hcs]; exact top_cell k q)
     rw [hcs] at HM
     have HCs := Lib.hid hcs
     clear hcs
     have dpos : decide ((0 : Int) < (i : Int)) = true := decide_eq_true (by omega)
     have dlen : decide ((0 : Int) < (q.length : Int) + 1) = true := decide_eq_true (by omega)
     by_cases hku : (k : Int) = up
     ·subst hku
      have bk : ((k : Int) != k) = false := by simp
      have bl : ((q.length : Int) + 1 == 0) = false := by simpa using (by omega : ¬ (q.length : Int) + 1 = 0)
      have hdrop : ((i - 1) :: q0).dropWhile (fun x : Nat => !((x : Int) == (k : Int))) = k :: q := by rw [HP.out]; exact drop_to HU.out
      have hh := chk_hit HE.out HR.out HRt2.out hpos hdrop
      obtain ⟨y, hy⟩ : ∃ y, ms[k]? = some y := ⟨_, List.getElem?_eq_getElem hkl⟩
      rw [noText_at (elD_get hy)] at hh
      have e2 := HCb.out.elem ElM.cs 4 ElM.cs_len hy
      obtain ⟨⟨yn, yu, yl, yt⟩, py, cy⟩ := y
      dsimp only at hh
      have EK := Lib.hid (show Cells W (b.add (k * 4)) [.string yn, .int .i64 yu, .slice py yl.length cy, .string yt] from e2)
      cases htx : (yt.toList == []) with
      | false =>
       have HR2 := Lib.hid (hh.1 htx)
       clear hh hdrop e2 hy hsuf
       as_aux_lemma =>
       go_wp2_with fail
       refine wp_region_mem (by kernel_rfl) (by kernel_rfl) HM.out ?_; intro hNE; (repeat (any_goals (first | ((with_reducible refine qgd ?_); (with_reducible refine skip_q ?_ ?_ ?_); (exact rfl); (rotate_left; (exact (hNE.elim fun p => ⟨p.W, p, rfl⟩)))) | refine mQ ?_ | ((with_reducible refine qat 47 ?_); (refine qixa (i := q.length) rfl rfl (by simp) (by omega) ?_)) | ((with_reducible refine qat 48 ?_); (refine qd1 rfl (fun W ⟨qq, hq⟩ => hq ▸ row_cell (qq.mem.get (k := 0) rfl) HTop.out) ?_)) | ((with_reducible refine qat 51 ?_); (refine qixa (i := i) rfl rfl rfl hlt ?_)) | ((with_reducible refine qat 53 ?_); (refine qdx1 (i := 1) E1.out rfl rfl ?_)) | go_big_quiet_step (fail) | quiet_step (fail)))); clear hNE; refine wpQuiet_nil ?_; intro W1 HM1; replace HM := Lib.hid HM1; clear HM1
       go_wp2_with (first | ((with_reducible refine iat 76 ?_); (refine ixa (i := i) rfl rfl rfl hlt ?_)) | ((with_reducible refine iat 78 ?_); (refine ldx1 (HM.out.olds E1.out 1 _ rfl) rfl ?_)) | ((with_reducible refine iat 79 ?_); (refine ixa (i := k) rfl rfl rfl hkl ?_)) | ((with_reducible refine iat 81 ?_); (refine ldx1 (HM.out.olds EK.out 3 _ rfl) rfl ?_)) | ((with_reducible refine skip_op ?_ ?_); exact rfl) | refine mP ?_ | (refine mS ?_; clear HM; intro W1 HM) | (refine mL ?_; clear HM; intro g1 W1 HM) | ((with_reducible refine iat 70 ?_); (refine ixa (i := i) rfl rfl rfl hlt ?_)) | ((with_reducible refine istore ?_); (refine strw (i := i * 1) (v := .int .i64 1) rfl HM.out 1 rfl rfl rfl rfl (by rw [Nat.mul_one]; exact hig) ?_); intro W1 HM1; replace HM := Lib.hid HM1; clear HM1; simp only [List.set, Nat.mul_one] at HM))
       go_ret
       exact ⟨by rw [HR2.out]; rfl, HM.out.below⟩
      | true =>
       have HRn := Lib.hid (hh.2 htx)
       have HDn := Lib.hid (dp_push hig hsuf HD.out (fun x hx => by have := HAl.out x (hsuf.subset hx); omega))
       have HOn := Lib.hid (chain_push HE.out rfl hki (chain_suf hsuf HCh.out))
       have hdk : (ds.set i (.int .i64 1))[k * 1]? = some (.int .i64 ((q.length + 1 : Nat) : Int)) := by rw [Nat.mul_one, List.getElem?_set_ne (by omega)]; exact dp_get hsuf HD.out
       have hdi : ((ds.set i (.int .i64 1)).set i (.int .i64 ((q.length + 1 : Nat) + 1 : Int)))[i * 1]? = some (.int .i64 ((q.length + 1 : Nat) + 1 : Int)) := by rw [Nat.mul_one, List.getElem?_set_self (by rw [List.length_set]; exact hig)]
       have hig2 : i < (ds.set i (.int .i64 1)).length := by rw [List.length_set]; exact hig
       have HPr := Lib.hid (push_row i (k :: q))
       clear hh hdrop e2 hy hsuf HR HD
       as_aux_lemma =>
       go_wp2_with fail
       refine wp_region_mem (by kernel_rfl) (by kernel_rfl) HM.out ?_; intro hNE; (repeat (any_goals (first | ((with_reducible refine qgd ?_); (with_reducible refine skip_q ?_ ?_ ?_); (exact rfl); (rotate_left; (exact (hNE.elim fun p => ⟨p.W, p, rfl⟩)))) | refine mQ ?_ | ((with_reducible refine qat 47 ?_); (refine qixa (i := q.length) rfl rfl (by simp) (by omega) ?_)) | ((with_reducible refine qat 48 ?_); (refine qd1 rfl (fun W ⟨qq, hq⟩ => hq ▸ row_cell (qq.mem.get (k := 0) rfl) HTop.out) ?_)) | ((with_reducible refine qat 51 ?_); (refine qixa (i := i) rfl rfl rfl hlt ?_)) | ((with_reducible refine qat 53 ?_); (refine qdx1 (i := 1) E1.out rfl rfl ?_)) | go_big_quiet_step (fail) | quiet_step (fail)))); clear hNE; refine wpQuiet_nil ?_; intro W1 HM1; replace HM := Lib.hid HM1; clear HM1
       go_wp2_with (first | ((with_reducible refine iat 76 ?_); (refine ixa (i := i) rfl rfl rfl hlt ?_)) | ((with_reducible refine iat 78 ?_); (refine ldx1 (HM.out.olds E1.out 1 _ rfl) rfl ?_)) | ((with_reducible refine iat 79 ?_); (refine ixa (i := k) rfl rfl rfl hkl ?_)) | ((with_reducible refine iat 81 ?_); (refine ldx1 (HM.out.olds EK.out 3 _ rfl) rfl ?_)) | ((with_reducible refine skip_op ?_ ?_); exact rfl) | refine mP ?_ | (refine mS ?_; clear HM; intro W1 HM) | (refine mL ?_; clear HM; intro g1 W1 HM) | ((with_reducible refine iat 70 ?_); (refine ixa (i := i) rfl rfl rfl hlt ?_)) | ((with_reducible refine iat 88 ?_); (refine ixa (i := i) rfl rfl rfl hlt ?_)) | ((with_reducible refine iat 90 ?_); (refine ldx1 (HM.out.olds E1.out 1 _ rfl) rfl ?_)) | ((with_reducible refine iat 91 ?_); (refine ixa (i := k) rfl rfl rfl hkl ?_)) | ((with_reducible refine iat 92 ?_); (refine ldx1 (row_cell (HM.out.get (k := 1) rfl) hdk) rfl ?_)) | ((with_reducible refine iat 94 ?_); (refine ixa (i := i) rfl rfl rfl hlt ?_)) | ((with_reducible refine iat 98 ?_); (refine ixa (i := i) rfl rfl rfl hlt ?_)) | ((with_reducible refine iat 99 ?_); (refine ldx1 (row_cell (HM.out.get (k := 1) rfl) hdi) rfl ?_)) | (refine apb rfl HM.out 1 0 rfl rfl rfl rfl rfl rfl (by omega) (by omega) (by omega) ?_; intro p1 cap1 W1 HM1; replace HM := Lib.hid HM1; clear HM1; simp only [List.set] at HM) | (first | ((with_reducible refine istore ?_); (refine strw (i := i * 1) (v := .int .i64 ((q.length + 1 : Nat) + 1 : Int)) rfl HM.out 1 rfl rfl rfl rfl (by rw [Nat.mul_one]; exact hig2) ?_); intro W1 HM1; replace HM := Lib.hid HM1; clear HM1; simp only [List.set, Nat.mul_one] at HM) | ((with_reducible refine istore ?_); (refine strw (i := i * 1) (v := .int .i64 1) rfl HM.out 1 rfl rfl rfl rfl (by rw [Nat.mul_one]; exact hig) ?_); intro W1 HM1; replace HM := Lib.hid HM1; clear HM1; simp only [List.set, Nat.mul_one] at HM)))
       go_roundw
       case rel => exact ⟨i + 1, max m (q.length + 2), i :: k :: q, _, p1, cap1, congrArg (Value.int .i64) (by omega), rfl, by go_num, hlt3.out, by omega, by simp only [List.length_cons]; omega, by rw [List.length_set]; exact hdl, HRn, HDn, Lib.hid (.inr ⟨k :: q, rfl, HOn.out⟩), Lib.hid (by have h9 := HM.out.sub (.cons _ (.refl _)); rw [List.set_set, show ((q.length + 1 : Nat) : Int) + 1 = ((q.length + 2 : Nat) : Int) by omega] at h9; rw [← HPr.out, HCs.out]; exact h9)⟩
       case measure => have := hlt3.out; simp [intOf]; omega
     ·have bk : ((k : Int) != up) = true := by simpa using hku
      have HP2 := Lib.hid (show (i - 1) :: q0 = (pre ++ [k]) ++ q by rw [HP.out]; simp)
      have HU2 := Lib.hid (show ∀ x ∈ pre ++ [k], ¬ (x : Int) = up by
       intro x hx
       rcases List.mem_append.1 hx with hx | hx
       ·exact HU.out x hx
       ·simp at hx; rw [hx]; exact hku)
      clear hsuf
      as_aux_lemma =>
      go_wp2_with fail
      refine wp_region_mem (by kernel_rfl) (by kernel_rfl) HM.out ?_; intro hNE; (repeat (any_goals (first | ((with_reducible refine qgd ?_); (with_reducible refine skip_q ?_ ?_ ?_); (exact rfl); (rotate_left; (exact (hNE.elim fun p => ⟨p.W, p, rfl⟩)))) | refine mQ ?_ | ((with_reducible refine qat 47 ?_); (refine qixa (i := q.length) rfl rfl (by simp) (by omega) ?_)) | ((with_reducible refine qat 48 ?_); (refine qd1 rfl (fun W ⟨qq, hq⟩ => hq ▸ row_cell (qq.mem.get (k := 0) rfl) HTop.out) ?_)) | ((with_reducible refine qat 51 ?_); (refine qixa (i := i) rfl rfl rfl hlt ?_)) | ((with_reducible refine qat 53 ?_); (refine qdx1 (i := 1) E1.out rfl rfl ?_)) | go_big_quiet_step (fail) | quiet_step (fail)))); clear hNE; refine wpQuiet_nil ?_; intro W1 HM1; replace HM := Lib.hid HM1; clear HM1
      go_wp2_with (first | ((with_reducible refine iat 60 ?_); (refine sltx rfl rfl (m := q.length) (by simp) hqc ?_)))
      go_roundw
      case rel => exact ⟨q, pre ++ [k], rfl, HP2, HU2, Lib.hid (pop_mem (k := k) (by rw [HCs.out]; exact HM.out))⟩
      case measure => simp only [slLen]; omega
  ·obtain rfl : i = ms.length := by omega
   have d1 : decide ((ms.length : Int) < ms.length) = false := by simp
   have hr := chk_end hln HR.out
   by_cases h60 : 60 < m
   ·have d2 : decide ((60 : Int) < (m : Int)) = true := decide_eq_true (by omega)
    rw [if_pos h60] at hr
    as_aux_lemma =>
    go_wp2_with fail
    go_ret
    exact ⟨by rw [hr]; rfl, HM.out.below⟩
   ·have d2 : decide ((60 : Int) < (m : Int)) = false := decide_eq_false (by omega)
    rw [if_neg h60] at hr
    as_aux_lemma =>
    go_wp2_with fail
    go_ret
    exact ⟨by rw [hr]; rfl, HM.out.below⟩
end Go.Proofs.YtanncakdlflopaaGreatDoor
