/- Kids, both sides; the reference's Same of equal trees. (short) tree.Read on any document. (short) What the laws of trees ask first; the walk over TreeChecks. (short) Elements as they come in: plain data; what a bound on the whole gives. -/
import Derived.Test.YtanncakdlflopaaGreatDoorTreeE
import Derived.Test.YtanncakdlflopaaGreatDoorTreeGS
import Derived.OpenShut
import Derived.Test.YtanncakdlflopaaGreatDoorSepA
import Derived.Test.YtanncakdlflopaaGreatDoorRows
import Derived.Test.YtanncakdlflopaaGreatDoorTreeAB
namespace Go.Proofs.YtanncakdlflopaaGreatDoor
open Go.RowKit
set_option linter.unusedVariables false
set_option linter.unusedSimpArgs false
set_option maxRecDepth 100000

theorem kids_step {at_ : Int} {l : List ElD} {i : Nat} {e : ElD} (he : l[i]? = some e) : kidsF at_ (l.drop i) i = if e.up = at_ then i :: kidsF at_ (l.drop (i + 1)) (i + 1) else kidsF at_ (l.drop (i + 1)) (i + 1) := by
 obtain ⟨hi, e1⟩ := List.getElem?_eq_some_iff.1 he
 rw [List.drop_eq_getElem_cons hi, e1, kidsF]
/-- What Kids answers. -/
def kidsT (l : List ElD) (at_ : Int) : List Nat × Int := if checkT l ≠ 0 then ([], checkT l) else if at_ < 0 ∨ (l.length : Int) ≤ at_ then ([], 1) else (kidsF at_ l 0, 0)
def KPost (r : List Nat × Int) (w0 : World) (e : Ending) (w' : World) : Prop :=
 ∃ (p : Option Addr) (c : Nat), e = .returned (.tuple #[.slice p r.1.length c, .int .i64 r.2]) ∧ Mem w0 w' [.row p c 3 1 r.1.length (intC r.1)]
theorem k_none {r : List Nat × Int} {w0 w' : World} {c : Int} (h : r = ([], c)) (hb : Below w0.heap.size w0 w') : KPost r w0 (.returned (.tuple #[.slice none 0 0, .int .i64 c])) w' := by
 subst h
 exact ⟨none, 0, rfl, ((Mem.start w0).next hb).row0 _ _⟩
theorem k_some {r : List Nat × Int} {w0 w' : World} {o : List Nat} {p : Option Addr} {c : Nat} (h : r = (o, 0)) (hM : Mem w0 w' [.row p c 3 1 o.length (intC o)]) : KPost r w0 (.returned (.tuple #[.slice p o.length c, .int .i64 0])) w' := by
 subst h
 exact ⟨p, c, rfl, hM⟩

set_option maxHeartbeats 16000000 in
theorem rkids_any (p : Option Addr) (cp : Nat) (ms : List ElM) (at_ : Int) (W : World) (h : ElIn W p ms) (hl : ms.length ≤ 1048576) :
  Calls Tryz.prog 28 #[.slice p ms.length cp, .int .i64 at_] W fun e w' => ∃ (q : Option Addr) (c : Nat), e = .returned (.slice q (kidsF at_ (elD ms) 0).length c) ∧ Mem W w' [.row q c 3 1 (kidsF at_ (elD ms) 0).length (intC (kidsF at_ (elD ms) 0))] := by
 have HM := Lib.hid ((Mem.start W).row0 3 1)
 have HI := Lib.hid h
 have hln : (elD ms).length = ms.length := List.length_map ..
 obtain ⟨r, hr⟩ : ∃ r, kidsF at_ (elD ms) 0 = r := ⟨_, rfl⟩
 rw [hr]
 have HR := Lib.hid (show ([] : List Nat) ++ kidsF at_ ((elD ms).drop 0) 0 = r from hr)
 clear h hr
 go_enter Tryz.func28, Tryz.ntmps28
 go_wp2_with fail
 go_loopw [5, 6] (fun ov iv wr => ∃ (i : Nat) (o : List Nat) (q : Option Addr) (c : Nat), ov = .slice q o.length c ∧ iv = .int .i64 i ∧ i ≤ ms.length ∧ o.length ≤ i ∧ Hid (o ++ kidsF at_ ((elD ms).drop i) i = r) ∧ Hid (Mem W wr [.row q c 3 1 o.length (intC o)])) (fun _ iv _ => ms.length - (intOf iv).toNat)
 case atStart => exact ⟨0, [], none, 0, rfl, rfl, by omega, by simp, HR, HM⟩
 case round =>
  clear HM HR
  obtain ⟨i, o, q, c, rfl, rfl, hi, ho, HR, HM⟩ := hrel
  by_cases hlt : i < ms.length
  ·obtain ⟨b, hpb, hb⟩ := HI.out.row.some_at ElM.cs_len (by decide) hlt
   obtain ⟨x, hx⟩ : ∃ x, ms[i]? = some x := ⟨_, List.getElem?_eq_getElem hlt⟩
   have hst := kids_step (at_ := at_) (elD_get hx)
   have e1 := hb.elem ElM.cs 4 ElM.cs_len hx
   clear hb hx
   obtain ⟨⟨n, up, l, t⟩, pa, ca⟩ := x
   dsimp only at hst
   have E1 := Lib.hid (show Cells W (b.add (i * 4)) [.string n, .int .i64 up, .slice pa l.length ca, .string t] from e1)
   have d1 : decide ((i : Int) < ms.length) = true := decide_eq_true (by omega)
   have hlt3 := Lib.hid (show i + 1 ≤ ms.length from hlt)
   subst hpb
   clear e1
   by_cases hu : up = at_
   ·have b1 : (up == at_) = true := by simpa using hu
    rw [if_pos hu] at hst
    have HN := Lib.hid (show (o ++ [i]) ++ kidsF at_ ((elD ms).drop (i + 1)) (i + 1) = r by have := HR.out; rw [hst] at this; simpa using this)
    clear hst HR
    as_aux_lemma =>
    go_wp2_with (first | ((with_reducible refine iat 15 ?_); (refine ixa (i := i) rfl rfl rfl hlt ?_)) | ((with_reducible refine iat 17 ?_); (refine ldx1 (HM.out.olds E1.out 1 _ rfl) rfl ?_)) | (refine apb rfl HM.out 1 0 rfl rfl rfl rfl rfl rfl (by omega) (by omega) (by omega) ?_; intro p1 cap1 W1 HM1; replace HM := Lib.hid HM1; clear HM1; simp only [List.set] at HM) | refine mP ?_ | (refine mL ?_; clear HM; intro g1 W1 HM))
    go_roundw
    case rel => exact ⟨i + 1, o ++ [i], p1, cap1, by rw [List.length_append]; rfl, by go_num, hlt3.out, by rw [List.length_append]; simp; omega, HN, Lib.hid (by have := HM.out.sub (.cons _ (.refl _)); rw [intC_take] at this; rw [intC_snoc, List.length_append]; exact this)⟩
    case measure => have := hlt3.out; simp [intOf]; omega
   ·have b1 : (up == at_) = false := by simpa using hu
    rw [if_neg hu] at hst
    have HN := Lib.hid (show o ++ kidsF at_ ((elD ms).drop (i + 1)) (i + 1) = r by have := HR.out; rw [hst] at this; exact this)
    clear hst HR
    as_aux_lemma =>
    go_wp2_with (first | ((with_reducible refine iat 15 ?_); (refine ixa (i := i) rfl rfl rfl hlt ?_)) | ((with_reducible refine iat 17 ?_); (refine ldx1 (HM.out.olds E1.out 1 _ rfl) rfl ?_)))
    go_roundw
    case rel => exact ⟨i + 1, o, q, c, rfl, by go_num, hlt3.out, by omega, HN, HM⟩
    case measure => have := hlt3.out; simp [intOf]; omega
  ·obtain rfl : i = ms.length := by omega
   have d1 : decide ((ms.length : Int) < ms.length) = false := by simp
   have hro : o = r := by have := HR.out; rw [← hln, List.drop_length] at this; simpa [kidsF] using this
   subst hro
   as_aux_lemma =>
   go_wp2_with fail
   go_ret
   exact ⟨q, c, rfl, HM.out⟩

set_option maxHeartbeats 16000000 in
theorem rdockids_any (p : Option Addr) (cp : Nat) (ms : List ElM) (at_ : Int) (W : World) (h : ElIn W p ms) (hz : ∀ m ∈ ms, szOk m.d) (hl : ms.length ≤ 1048576) (r : List Nat × Int) (hr : kidsT (elD ms) at_ = r) :
  Calls Tryz.prog 14 #[.slice p ms.length cp, .int .i64 at_] W (KPost r W) := by
 have HM := Lib.hid (Mem.start W)
 have HC := Lib.hid (rcheck_any p cp ms W h hz)
 have hln : (elD ms).length = ms.length := List.length_map ..
 have HI := Lib.hid h
 unfold kidsT at hr
 rw [hln] at hr
 by_cases hc : checkT (elD ms) = 0
 ·rw [hc] at HC
  rw [if_neg (by simpa using hc)] at hr
  by_cases hat : at_ < 0 ∨ (ms.length : Int) ≤ at_
  ·rw [if_pos hat] at hr
   have HR := Lib.hid hr.symm
   clear h hz hr
   rcases hat with hneg | hge
   ·as_aux_lemma =>
    go_enter Tryz.func14, Tryz.ntmps14
    go_wp2_with (first | (go_at_call 13; (with_reducible refine cB HM (HC.out) ?_); clear HM; intro W1 HM) | ((with_reducible refine skip_op ?_ ?_); exact rfl))
    go_ret2
    exact k_none HR.out HM.out.below
   ·have d5 : decide (at_ ≥ (ms.length : Int)) = true := decide_eq_true hge
    have d6 : decide ((ms.length : Int) ≤ at_) = true := decide_eq_true hge
    have hnn : ¬ at_ < 0 := by omega
    as_aux_lemma =>
    go_enter Tryz.func14, Tryz.ntmps14
    go_wp2_with (first | (go_at_call 13; (with_reducible refine cB HM (HC.out) ?_); clear HM; intro W1 HM) | ((with_reducible refine skip_op ?_ ?_); exact rfl))
    go_ret2
    exact k_none HR.out HM.out.below
  ·rw [if_neg hat] at hr
   have HR := Lib.hid hr.symm
   have hnn : ¬ at_ < 0 := fun e => hat (.inl e)
   have d5 : decide (at_ ≥ (ms.length : Int)) = false := decide_eq_false (fun e => hat (.inr e))
   have d6 : decide ((ms.length : Int) ≤ at_) = false := decide_eq_false (fun e => hat (.inr e))
   have HK := Lib.hid (fun W2 (hM : Mem W W2 []) => rkids_any p cp ms at_ W2 (HI.out.mem hM) hl)
   clear h hz hr hat
   as_aux_lemma =>
   go_enter Tryz.func14, Tryz.ntmps14
   go_wp2_with (first | (go_at_call 13; (with_reducible refine cB HM (HC.out) ?_); clear HM; intro W1 HM) | ((with_reducible refine skip_op ?_ ?_); exact rfl))
   refine (HK.out _ HM.out).mono ?_
   rintro e W2 ⟨q, c, rfl, hM2⟩
   have HM2 := Lib.hid (HM.out.comp2 hM2)
   clear hM2
   go_wp2_with fail
   go_ret2
   exact k_some HR.out HM2.out
 ·have HR := Lib.hid (show r = ([], checkT (elD ms)) by rw [if_pos hc] at hr; exact hr.symm)
  have b1 : (checkT (elD ms) != 0) = true := by simpa using hc
  clear h hz hr
  as_aux_lemma =>
  go_enter Tryz.func14, Tryz.ntmps14
  go_wp2_with (first | (go_at_call 13; (with_reducible refine cB HM (HC.out) ?_); clear HM; intro W1 HM) | ((with_reducible refine skip_op ?_ ?_); exact rfl))
  go_ret2
  exact k_none HR.out HM.out.below

set_option maxHeartbeats 16000000 in
theorem tkids_any (p : Option Addr) (cp : Nat) (ms : List ElM) (at_ : Int) (W : World) (hT : U8 W) (h : ElIn W p ms) (hz : ∀ m ∈ ms, szOk m.d) (hl : ms.length ≤ 1048576) (r : List Nat × Int) (hr : kidsT (elD ms) at_ = r) :
  Calls Tryz.prog 15 #[.slice p ms.length cp, .int .i64 at_] W (KPost r W) := by
 have HM := Lib.hid (Mem.start W)
 have HC := Lib.hid (tcheck_any p cp ms W hT h hz)
 have hln : (elD ms).length = ms.length := List.length_map ..
 have HI := Lib.hid h
 unfold kidsT at hr
 rw [hln] at hr
 by_cases hc : checkT (elD ms) = 0
 ·rw [hc] at HC
  rw [if_neg (by simpa using hc)] at hr
  by_cases hat : at_ < 0 ∨ (ms.length : Int) ≤ at_
  ·rw [if_pos hat] at hr
   have HR := Lib.hid hr.symm
   clear h hz hr
   rcases hat with hneg | hge
   ·as_aux_lemma =>
    go_enter Tryz.func15, Tryz.ntmps15
    go_wp2_with (first | (go_at_call 12; (with_reducible refine cB HM (HC.out) ?_); clear HM; intro W1 HM) | ((with_reducible refine skip_op ?_ ?_); exact rfl) | refine mP ?_ | (refine mS ?_; clear HM; intro W1 HM) | (refine mL ?_; clear HM; intro g1 W1 HM) | (refine hal HM rfl ?_; clear HM; intro g1 W1 HM))
    go_ret2
    exact k_none HR.out HM.out.below
   ·have d5 : decide (at_ ≥ (ms.length : Int)) = true := decide_eq_true hge
    have d6 : decide ((ms.length : Int) ≤ at_) = true := decide_eq_true hge
    have hnn : ¬ at_ < 0 := by omega
    as_aux_lemma =>
    go_enter Tryz.func15, Tryz.ntmps15
    go_wp2_with (first | (go_at_call 12; (with_reducible refine cB HM (HC.out) ?_); clear HM; intro W1 HM) | ((with_reducible refine skip_op ?_ ?_); exact rfl) | refine mP ?_ | (refine mS ?_; clear HM; intro W1 HM) | (refine mL ?_; clear HM; intro g1 W1 HM) | (refine hal HM rfl ?_; clear HM; intro g1 W1 HM))
    go_ret2
    exact k_none HR.out HM.out.below
  ·rw [if_neg hat] at hr
   have hnn : ¬ at_ < 0 := fun e => hat (.inl e)
   have d5 : decide (at_ ≥ (ms.length : Int)) = false := decide_eq_false (fun e => hat (.inr e))
   have d6 : decide ((ms.length : Int) ≤ at_) = false := decide_eq_false (fun e => hat (.inr e))
   obtain ⟨rk, hrk⟩ : ∃ x, kidsF at_ (elD ms) 0 = x := ⟨_, rfl⟩
   rw [hrk] at hr
   subst hr
   have HR := Lib.hid (show ([] : List Nat) ++ kidsF at_ ((elD ms).drop 0) 0 = rk from hrk)
   clear h hz hat hrk
   go_enter Tryz.func15, Tryz.ntmps15
   go_wp2_with (first | (go_at_call 12; (with_reducible refine cB HM (HC.out) ?_); clear HM; intro W1 HM) | ((with_reducible refine skip_op ?_ ?_); exact rfl) | refine mP ?_ | (refine mS ?_; clear HM; intro W1 HM) | (refine mL ?_; clear HM; intro g1 W1 HM) | (refine hal HM rfl ?_; clear HM; intro g1 W1 HM))
   have HM0 := Lib.hid (HM.out.row0 3 1)
   clear HM HC
   go_loopw [7, 25] (fun ov iv wr => ∃ (i : Nat) (o : List Nat) (q : Option Addr) (c : Nat), ov = .slice q o.length c ∧ iv = .int .i64 i ∧ i ≤ ms.length ∧ o.length ≤ i ∧ Hid (o ++ kidsF at_ ((elD ms).drop i) i = rk) ∧ Hid (Mem W wr [.row q c 3 1 o.length (intC o)])) (fun _ iv _ => ms.length - (intOf iv).toNat)
   case atStart => exact ⟨0, [], none, 0, rfl, rfl, by omega, by simp, HR, HM0⟩
   case round =>
    clear HM0 HR
    obtain ⟨i, o, q, c, rfl, rfl, hi, ho, HR, HM⟩ := hrel
    by_cases hlt : i < ms.length
    ·obtain ⟨b, hpb, hb⟩ := HI.out.row.some_at ElM.cs_len (by decide) hlt
     obtain ⟨x, hx⟩ : ∃ x, ms[i]? = some x := ⟨_, List.getElem?_eq_getElem hlt⟩
     have hst := kids_step (at_ := at_) (elD_get hx)
     have e1 := hb.elem ElM.cs 4 ElM.cs_len hx
     clear hb hx
     obtain ⟨⟨n, up, l, t⟩, pa, ca⟩ := x
     dsimp only at hst
     have E1 := Lib.hid (show Cells W (b.add (i * 4)) [.string n, .int .i64 up, .slice pa l.length ca, .string t] from e1)
     have d1 : decide ((i : Int) < ms.length) = true := decide_eq_true (by omega)
     have hlt3 := Lib.hid (show i + 1 ≤ ms.length from hlt)
     subst hpb
     clear e1
     by_cases hu : up = at_
     ·have b1 : (up == at_) = true := by simpa using hu
      rw [if_pos hu] at hst
      have HN := Lib.hid (show (o ++ [i]) ++ kidsF at_ ((elD ms).drop (i + 1)) (i + 1) = rk by have := HR.out; rw [hst] at this; simpa using this)
      clear hst HR
      as_aux_lemma =>
      go_wp2_with (first | ((with_reducible refine iat 28 ?_); (refine ixa (i := i) rfl rfl rfl hlt ?_)) | ((with_reducible refine iat 29 ?_); (refine ldxW (HM.out.olds E1.out) rfl rfl ?_)) | (refine apb rfl HM.out 2 0 rfl rfl rfl rfl rfl rfl (by omega) (by omega) (by omega) ?_; intro p1 cap1 W1 HM1; replace HM := Lib.hid HM1; clear HM1; simp only [List.set] at HM) | ((with_reducible refine skip_op ?_ ?_); exact rfl) | refine mP ?_ | (refine mS ?_; clear HM; intro W1 HM) | (refine mL ?_; clear HM; intro g1 W1 HM) | (refine hal (dst := some 9) HM rfl ?_; clear HM; intro g9 W1 HM))
      go_roundw
      case rel => exact ⟨i + 1, o ++ [i], p1, cap1, by rw [List.length_append]; rfl, by go_num, hlt3.out, by rw [List.length_append]; simp; omega, HN, Lib.hid (by have := HM.out.sub (.cons _ (.cons _ (.refl _))); rw [intC_take] at this; rw [intC_snoc, List.length_append]; exact this)⟩
      case measure => have := hlt3.out; simp [intOf]; omega
     ·have b1 : (up == at_) = false := by simpa using hu
      rw [if_neg hu] at hst
      have HN := Lib.hid (show o ++ kidsF at_ ((elD ms).drop (i + 1)) (i + 1) = rk by have := HR.out; rw [hst] at this; exact this)
      clear hst HR
      as_aux_lemma =>
      go_wp2_with (first | ((with_reducible refine iat 28 ?_); (refine ixa (i := i) rfl rfl rfl hlt ?_)) | ((with_reducible refine iat 29 ?_); (refine ldxW (HM.out.olds E1.out) rfl rfl ?_)) | ((with_reducible refine skip_op ?_ ?_); exact rfl) | refine mP ?_ | (refine mS ?_; clear HM; intro W1 HM) | (refine mL ?_; clear HM; intro g1 W1 HM) | (refine hal (dst := some 9) HM rfl ?_; clear HM; intro g9 W1 HM))
      go_roundw
      case rel => exact ⟨i + 1, o, q, c, rfl, by go_num, hlt3.out, by omega, HN, Lib.hid (HM.out.sub (.cons _ (.refl _)))⟩
      case measure => have := hlt3.out; simp [intOf]; omega
    ·obtain rfl : i = ms.length := by omega
     have d1 : decide ((ms.length : Int) < ms.length) = false := by simp
     have hro : o = rk := by have := HR.out; rw [← hln, List.drop_length] at this; simpa [kidsF] using this
     subst hro
     as_aux_lemma =>
     go_wp2_with fail
     go_ret2
     exact k_some rfl HM.out
 ·have HR := Lib.hid (show r = ([], checkT (elD ms)) by rw [if_pos hc] at hr; exact hr.symm)
  have b1 : (checkT (elD ms) != 0) = true := by simpa using hc
  clear h hz hr
  as_aux_lemma =>
  go_enter Tryz.func15, Tryz.ntmps15
  go_wp2_with (first | (go_at_call 12; (with_reducible refine cB HM (HC.out) ?_); clear HM; intro W1 HM) | ((with_reducible refine skip_op ?_ ?_); exact rfl) | refine mP ?_ | (refine mS ?_; clear HM; intro W1 HM) | (refine mL ?_; clear HM; intro g1 W1 HM) | (refine hal HM rfl ?_; clear HM; intro g1 W1 HM))
  go_ret2
  exact k_none HR.out HM.out.below

set_option maxHeartbeats 4000000 in
theorem rtsame_any (p q : Option Addr) (c d : Nat) (xs ys : List ElM) (w : World) (h1 : ElIn w p xs) (h2 : ElIn w q ys) (he : elD xs = elD ys) (hl : xs.length ≤ 4611686018427387904) (ha : ∀ m ∈ xs, m.d.l.length ≤ 4611686018427387904) :
  Calls Tryz.prog 11 #[.slice p xs.length c, .slice q ys.length d] w fun e w' => e = .returned (.bool true) ∧ Below w.heap.size w w' := by
 have hlen : xs.length = ys.length := by
  have := congrArg List.length he
  simpa [elD] using this
 rw [← hlen]
 have HM := Lib.hid (Mem.start w)
 have H1 := Lib.hid h1
 have H2 := Lib.hid h2
 have HE := Lib.hid he
 have HL := Lib.hid hlen
 have HAl := Lib.hid ha
 clear h1 h2 he hlen ha
 have b0 : ((xs.length : Int) != xs.length) = false := by simp
 go_enter Tryz.func11, Tryz.ntmps11
 go_wp2_with fail
 go_loopw [5] (fun iv wr => ∃ i : Nat, iv = .int .i64 i ∧ i ≤ xs.length ∧ Hid (Mem w wr [])) (fun iv _ => xs.length - (intOf iv).toNat)
 case atStart => exact ⟨0, rfl, by omega, HM⟩
 case round =>
  clear HM
  obtain ⟨i, rfl, hi, HM⟩ := hrel
  by_cases hlt : i < xs.length
  ·have hlty : i < ys.length := by rw [← HL.out]; exact hlt
   obtain ⟨x, hx⟩ : ∃ t, xs[i]? = some t := ⟨_, List.getElem?_eq_getElem hlt⟩
   obtain ⟨y, hy⟩ : ∃ t, ys[i]? = some t := ⟨_, List.getElem?_eq_getElem hlty⟩
   have hdd : x.d = y.d := by
    have := congrArg (·[i]?) HE.out
    simp only [elD, List.getElem?_map, hx, hy, Option.map_some, Option.some.injEq] at this
    exact this
   obtain ⟨b, rfl, hb⟩ := H1.out.row.some_at ElM.cs_len (by decide) hlt
   obtain ⟨b', rfl, hb'⟩ := H2.out.row.some_at ElM.cs_len (by decide) hlty
   have hxa := (H1.out.at_ x (List.mem_of_getElem? hx)).1
   have hya := (H2.out.at_ y (List.mem_of_getElem? hy)).1
   have hxl := HAl.out x (List.mem_of_getElem? hx)
   have e1 := hb.elem ElM.cs 4 ElM.cs_len hx
   have e2 := hb'.elem ElM.cs 4 ElM.cs_len hy
   clear hx hy
   obtain ⟨⟨n, up, l, t⟩, pa, ca⟩ := x
   obtain ⟨dy, pb, cb⟩ := y
   dsimp only at hdd
   subst hdd
   have E1 := Lib.hid (show Cells w (b.add (i * 4)) [.string n, .int .i64 up, .slice pa l.length ca, .string t] from e1)
   have E2 := Lib.hid (show Cells w (b'.add (i * 4)) [.string n, .int .i64 up, .slice pb l.length cb, .string t] from e2)
   have HA := Lib.hid (fun W2 (h : Mem w W2 []) => rsattrs_any pa pb ca cb l W2 (h.sl hxa) (h.sl hya) hxl)
   have hlt3 := Lib.hid (show i + 1 ≤ xs.length from hlt)
   have d1 : decide ((i : Int) < xs.length) = true := decide_eq_true (by omega)
   have b1 : (up != up) = false := by simp
   have b2 : (n.toList == n.toList) = true := by simp
   have b3 : (t.toList == t.toList) = true := by simp
   clear hb hb' e1 e2 hxa hxl hya
   go_wp2_with fail
   refine wp_region_mem (by kernel_rfl) (by kernel_rfl) HM.out ?_; intro hNE; (repeat (any_goals (first | ((with_reducible refine qgd ?_); (with_reducible refine skip_q ?_ ?_ ?_); (exact rfl); (rotate_left; (exact (hNE.elim fun p => ⟨p.W, p, rfl⟩)))) | refine mQ ?_ | ((with_reducible show wpQuiet _ _ _ _ (Oper.mk _ (Op.call { callee := Callee.value (Operand.func 25), args := _, argTypes := _ }) _ _ _ _ :: _) _); (refine qcall HM.out (fun W hC => HA.out _ hC) Tryz.func25 rfl rfl rfl ?_)) | ((with_reducible refine qat 19 ?_); (refine qixa rfl rfl rfl hlt ?_)) | ((with_reducible refine qat 24 ?_); (refine qixa rfl rfl rfl hlt ?_)) | ((with_reducible refine qat 31 ?_); (refine qixa rfl rfl rfl hlt ?_)) | ((with_reducible refine qat 36 ?_); (refine qixa rfl rfl rfl hlt ?_)) | ((with_reducible refine qat 44 ?_); (refine qixa rfl rfl rfl hlt ?_)) | ((with_reducible refine qat 49 ?_); (refine qixa rfl rfl rfl hlt ?_)) | ((with_reducible refine qat 57 ?_); (refine qixa rfl rfl rfl hlt ?_)) | ((with_reducible refine qat 62 ?_); (refine qixa rfl rfl rfl hlt ?_)) | ((with_reducible refine qat 21 ?_); (refine qdx0 E1.out rfl rfl ?_)) | ((with_reducible refine qat 26 ?_); (refine qdx0 E2.out rfl rfl ?_)) | ((with_reducible refine qat 33 ?_); (refine qdx1 (i := 1) E1.out rfl rfl ?_)) | ((with_reducible refine qat 38 ?_); (refine qdx1 (i := 1) E2.out rfl rfl ?_)) | ((with_reducible refine qat 46 ?_); (refine qdx1 (i := 3) E1.out rfl rfl ?_)) | ((with_reducible refine qat 51 ?_); (refine qdx1 (i := 3) E2.out rfl rfl ?_)) | ((with_reducible refine qat 59 ?_); (refine qdx1 (i := 2) E1.out rfl rfl ?_)) | ((with_reducible refine qat 64 ?_); (refine qdx1 (i := 2) E2.out rfl rfl ?_)) | go_big_quiet_step (fail) | quiet_step (fail)))); clear hNE; refine wpQuiet_nil ?_; intro W1 HM1; replace HM := Lib.hid HM1; clear HM1
   go_wp2
   go_roundw
   case rel => exact ⟨i + 1, by go_num, hlt3.out, HM⟩
   case measure => have := hlt3.out; simp [intOf]; omega
  ·obtain rfl : i = xs.length := by omega
   have d1 : decide ((xs.length : Int) < xs.length) = false := by simp
   go_wp2
   go_ret
   exact ⟨rfl, HM.out.below⟩
end Go.Proofs.YtanncakdlflopaaGreatDoor

namespace Go.Proofs.YtanncakdlflopaaGreatDoor
open Go.RowKit
set_option linter.unusedVariables false
set_option linter.unusedSimpArgs false
set_option maxRecDepth 100000

/-- What tree.Read answers. -/
def TRPost (r : Option (List ElD) × Int) (w0 : World) (S : ByteArray) (e : Ending) (w' : World) : Prop :=
 match r with
 |(none, c) => ∃ j : Nat, j ≤ S.size ∧ (c == 0) = false ∧ e = .returned (.tuple #[.slice none 0 0, .int .i64 j, .int .i64 c]) ∧ Below w0.heap.size w0 w'
 |(some t, _) => ∃ (els : List ElM) (p : Option Addr) (c : Nat), elD els = t ∧ els.length ≤ 300000 ∧ e = .returned (.tuple #[.slice p els.length c, .int .i64 0, .int .i64 0]) ∧ Mem w0 w' (.row p c 42 4 els.length (elC els) :: elR els)
theorem tr_none {r : Option (List ElD) × Int} {w0 w' : World} {S : ByteArray} {c : Int} (h : r = (none, c)) (hc : (c == 0) = false) {j : Nat} (hj : j ≤ S.size) (hb : Below w0.heap.size w0 w') : TRPost r w0 S (.returned (.tuple #[.slice none 0 0, .int .i64 j, .int .i64 c])) w' := by
 subst h; exact ⟨j, hj, hc, rfl, hb⟩
theorem rot3 {w0 W : World} {a b c : Res} {L : List Res} (h : Mem w0 W (a :: b :: c :: L)) : Mem w0 W (c :: a :: b :: L) := h.perm ((List.Perm.cons _ (List.Perm.swap _ _ _)).trans (List.Perm.swap _ _ _))
theorem grow_step {l : List EvD} {i : Nat} {e : EvD} {g : GrD} (h : l[i]? = some e) : growF (l.drop i) g = match grow1 g e with
  | none => none
  | some g2 => growF (l.drop (i + 1)) g2 := by
 obtain ⟨hi, e1⟩ := List.getElem?_eq_some_iff.1 h
 rw [List.drop_eq_getElem_cons hi, e1, growF]
 cases grow1 g e <;> rfl
theorem clear_step {l : List ElD} {hs : List Bool} {j : Nat} {e : ElD} {b : Bool} (h : l[j]? = some e) (hb : hs[j]? = some b) : clearF (l.drop j) (hs.drop j) = if b then (if blankB e.t then (clearF (l.drop (j + 1)) (hs.drop (j + 1))).map (⟨e.n, e.up, e.l, ⟨#[]⟩⟩ :: ·) else none) else (clearF (l.drop (j + 1)) (hs.drop (j + 1))).map (e :: ·) := by
 obtain ⟨hi, e1⟩ := List.getElem?_eq_some_iff.1 h
 obtain ⟨hj, e2⟩ := List.getElem?_eq_some_iff.1 hb
 rw [List.drop_eq_getElem_cons hi, e1, List.drop_eq_getElem_cons hj, e2, clearF]
theorem sub_row {R A : List Res} {a b c d : Res} (h : R.Sublist A) : (b :: R).Sublist (a :: b :: c :: d :: A) := .cons _ (.cons_cons _ (.cons _ (.cons _ h)))

theorem clr_false {L L' : List ElD} {hs : List Bool} {j : Nat} {e : ElD} {cr : Option (List ElD)} (hcr : (clearF (L.drop j) (hs.drop j)).map (L'.take j ++ ·) = cr) (he : L[j]? = some e) (hb : hs[j]? = some false) (he' : L'[j]? = some e) : (clearF (L.drop (j + 1)) (hs.drop (j + 1))).map (L'.take (j + 1) ++ ·) = cr := by
 rw [clear_step he hb, if_neg (by decide)] at hcr
 rw [← hcr, List.take_add_one, he']
 cases clearF (L.drop (j + 1)) (hs.drop (j + 1)) with
 | none => rfl
 | some v => simp
theorem clr_bad {L L' : List ElD} {hs : List Bool} {j : Nat} {e : ElD} {cr : Option (List ElD)} (hcr : (clearF (L.drop j) (hs.drop j)).map (L'.take j ++ ·) = cr) (he : L[j]? = some e) (hb : hs[j]? = some true) (h : blankB e.t = false) : cr = none := by
 rw [clear_step he hb, if_pos rfl, if_neg (by rw [h]; decide)] at hcr
 exact hcr.symm
theorem clr_true {L L' : List ElD} {hs : List Bool} {j : Nat} {e : ElD} {cr : Option (List ElD)} (hcr : (clearF (L.drop j) (hs.drop j)).map (L'.take j ++ ·) = cr) (he : L[j]? = some e) (hb : hs[j]? = some true) (h : blankB e.t = true) (hj : j < L'.length) : (clearF (L.drop (j + 1)) (hs.drop (j + 1))).map ((L'.set j ⟨e.n, e.up, e.l, ⟨#[]⟩⟩).take (j + 1) ++ ·) = cr := by
 rw [clear_step he hb, if_pos rfl, if_pos h] at hcr
 rw [← hcr, List.take_add_one, List.getElem?_set_self hj, List.take_set_of_le (Nat.le_refl _)]
 cases clearF (L.drop (j + 1)) (hs.drop (j + 1)) with
 | none => rfl
 | some v => simp
theorem drop_next {L L' : List ElD} {j : Nat} (h : L'.drop j = L.drop j) : L'.drop (j + 1) = L.drop (j + 1) := by
 have := congrArg (List.drop 1) h
 rwa [List.drop_drop, List.drop_drop] at this
theorem drop_at {L L' : List ElD} {j : Nat} {e : ElD} (h : L'.drop j = L.drop j) (he : L'[j]? = some e) : L[j]? = some e := by
 have := congrArg (·[0]?) h
 simp only [List.getElem?_drop, Nat.add_zero] at this
 rw [← this]; exact he
theorem bo_cell {l : List Bool} {j : Nat} {b : Bool} (h : l[j]? = some b) : (boC l)[j * 1]? = some (.bool b) := by
 unfold boC; rw [Nat.mul_one, List.getElem?_map, h]; rfl
/-- Elements of one's own as they lie. -/
theorem elin_own {w0 W : World} {L : List Res} {p : Option Addr} {c n : Nat} {els : List ElM} (h : Mem w0 W L) (h1 : .row p c 42 4 n (elC els) ∈ L) (h2 : ∀ r ∈ elR els, r ∈ L) : ElIn W p els :=
 ⟨row_sl (h.holds _ h1), fun m hm => ⟨row_sl (h.holds _ (h2 _ (List.mem_map.2 ⟨m, hm, rfl⟩))), (row_cap (h.holds m.res (h2 _ (List.mem_map.2 ⟨m, hm, rfl⟩)))).1⟩⟩

set_option maxHeartbeats 16000000 in
theorem tread_any (S : ByteArray) (W : World) (r : Option (List ElD) × Int) (hr : treeR S = r) (hT : U8 W) (hE : ErrsAt W) (hX : MaxAt W) (hs : S.size ≤ 1048576) :
  Calls Tryz.prog 10 #[.string S] W (TRPost r W S) := by
 have HM := Lib.hid (Mem.start W)
 have HT := Lib.hid hT
 obtain ⟨rm, hrm⟩ : ∃ x, markF S = x := ⟨_, rfl⟩
 have HRd := Lib.hid (mRead_any S W rm hrm hT hE hX hs)
 unfold treeR at hr
 rw [hrm] at hr
 clear hT hE hX
 obtain ⟨o, c0⟩ := rm
 cases o with
 | none =>
  dsimp only at hr
  subst hr
  clear hrm
  go_enter Tryz.func10, Tryz.ntmps10
  go_wp2_with fail
  refine HRd.out.mono ?_
  rintro e W2 ⟨j, hj, hc, rfl, hb⟩
  have HM1 := Lib.hid (HM.out.next hb)
  have b1 : (c0 != 0) = true := by simpa using hc
  clear HM hb
  have HM := HM1
  clear HM1
  go_wp2_with fail
  go_ret3
  exact ⟨j, hj, hc, rfl, HM.out.below⟩
 | some l =>
  obtain ⟨rfl, hs3, hok⟩ := markF_ok hrm
  have HOk := Lib.hid hok
  dsimp only at hr
  clear hrm hok
  go_enter Tryz.func10, Tryz.ntmps10
  go_wp2_with fail
  refine HRd.out.mono ?_
  rintro e W2 ⟨ms, p, c, hl, hms, rfl, hM⟩
  clear HM HRd
  have HM := Lib.hid hM
  clear hM
  have HL := Lib.hid hl
  go_wp2_with (first | ((with_reducible refine skip_op ?_ ?_); exact rfl) | refine mP ?_ | (refine mS ?_; clear HM; intro W1 HM) | ((with_reducible refine iat 24 ?_); refine mB ?_; clear HM; intro g24 W1 HM) | (refine hal HM rfl ?_; clear HM; intro g1 W1 HM))
  have HM0 := Lib.hid (rot3 ((HM.out.row0 4 1).row0 42 4))
  clear HM
  obtain ⟨T, hTT⟩ : ∃ T, Res.row p c 57 4 ms.length (outC ms) :: outR ms = T := ⟨_, rfl⟩
  rw [hTT] at HM0
  have HTT := Lib.hid hTT
  obtain ⟨gr, hgr⟩ : ∃ x, growF l ⟨[], [], []⟩ = x := ⟨_, rfl⟩
  rw [hgr] at hr
  have HR := Lib.hid hr
  have HG := Lib.hid (show growF ((outD ms).drop 0) ⟨elD [], [], []⟩ = gr by rw [hl]; exact hgr)
  clear hTT hr hgr hl
  go_loopw [27] (fun iv wr => ∃ (i : Nat) (els : List ElM) (has : List Bool) (st : List Nat) (pt ph : Option Addr) (ct ch : Nat), iv = .int .i64 i ∧ i ≤ ms.length ∧ els.length ≤ i ∧ has.length = els.length ∧ Hid (growF ((outD ms).drop i) ⟨elD els, has, st⟩ = gr) ∧ Hid (upP (elD els) st) ∧ Hid (∀ x ∈ elD els, x.n.size ≤ 300000 ∧ x.t.size ≤ 300000 * i ∧ ∀ a ∈ x.l, a.1.size ≤ 300000 ∧ a.2.size ≤ 300000) ∧ Hid ((elR els).Sublist (outR (ms.take i))) ∧
   Hid (Mem W wr (.box g24 55 [.slice pt els.length ct, .slice ph has.length ch, .int .i64 (topI st)] :: .row pt ct 42 4 els.length (elC els) :: .row ph ch 4 1 has.length (boC has) :: T))) (fun iv _ => ms.length - (intOf iv).toNat)
  case atStart => exact ⟨0, [], [], [], none, none, 0, 0, rfl, by omega, by simp, rfl, HG, Lib.hid trivial, Lib.hid (by intro x hx; simp [elD] at hx), Lib.hid (List.nil_sublist _), HM0⟩
  case round =>
   clear HM0 HG
   obtain ⟨i, els, has, st, pt, ph, ct, ch, rfl, hi, hel, hhl, HG, HU, HZ, HS, HM⟩ := hrel
   by_cases hlt : i < ms.length
   ·have hT2 := HM.out
    rw [← HTT.out] at hT2
    obtain ⟨gp, rfl⟩ := row_some (hT2.get (k := 3) rfl) (by omega)
    obtain ⟨m, hm⟩ : ∃ m, ms[i]? = some m := ⟨_, List.getElem?_eq_getElem hlt⟩
    have hmd : (outD ms)[i]? = some m.d := by unfold outD; rw [List.getElem?_map, hm]; rfl
    have hmok := HOk.out m.d (by rw [← HL.out]; exact List.mem_of_getElem? hmd)
    have hgs := grow_step (g := ⟨elD els, has, st⟩) hmd
    have HEv := Lib.hid (fun (W2 : World) (h : Mem W W2 (.box g24 55 [.slice pt els.length ct, .slice ph has.length ch, .int .i64 (topI st)] :: .row pt ct 42 4 els.length (elC els) :: .row ph ch 4 1 has.length (boC has) :: T)) => show Cells W2 ((⟨gp, 0, none⟩ : Addr).add (i * 4)) [.int .i64 m.d.k, .string m.d.n, .slice m.p m.d.l.length m.c, .string m.d.t] from by
     rw [← HTT.out] at h
     exact (row_cells (h.get (k := 3) rfl) 0).2.2.elem EvM.cs 4 EvM.cs_len hm)
    have d1 : decide ((i : Int) < ms.length) = true := decide_eq_true (by omega)
    have hlt3 := Lib.hid (show i + 1 ≤ ms.length from hlt)
    have hsn : outR (ms.take (i + 1)) = outR (ms.take i) ++ [m.res] := by unfold outR; rw [List.take_add_one, hm]; simp
    have HTk := Lib.hid (fun W2 h => take_any W W2 g24 T els has st pt ph ct ch m (300000 * i) (by omega) hhl HU.out (by omega) hmok (fun x hx => (HZ.out x.d (List.mem_map.2 ⟨x, hx, rfl⟩)).2.1) h)
    have HSn := Lib.hid hsn
    have HMo := Lib.hid hmok
    clear hT2 hm hmd hmok hsn
    go_wp2_with (first | ((with_reducible refine iat 29 ?_); (refine ixa (i := i) rfl rfl rfl hlt ?_)) | ((with_reducible refine iat 30 ?_); (refine ldxW (HEv.out _ HM.out) rfl rfl ?_)) | ((with_reducible refine skip_op ?_ ?_); exact rfl) | refine mP ?_ | (refine mS ?_; clear HM; intro W1 HM) | (refine hal (dst := some 10) HM rfl ?_; clear HM; intro g10 W1 HM) | (refine mB ?_; clear HM; intro g1 W1 HM))
    refine (HTk.out _ (HM.out.sub (.cons _ (.refl _)))).mono ?_
    rintro e W3 h
    clear HTk HEv
    have hgn := HG.out
    rw [hgs] at hgn
    cases hg : grow1 ⟨elD els, has, st⟩ m.d with
    | none =>
     rw [hg] at hgn h
     obtain ⟨rfl, hb⟩ := h
     have HR2 := Lib.hid (show r = (none, 5) by have := HR.out; rw [← hgn] at this; exact this.symm)
     have HB := Lib.hid hb
     clear hgs hgn hg hb
     as_aux_lemma =>
     go_wp2_with fail
     go_ret3
     exact tr_none HR2.out rfl (Nat.le_refl _) HB.out
    | some g =>
     rw [hg] at hgn h
     obtain ⟨rfl, els', pt', ph', ct', ch', hts, hRr, hlen, hup', hhas, hM⟩ := h
     have HM1 := Lib.hid hM
     have HG2 := Lib.hid (show growF ((outD ms).drop (i + 1)) ⟨elD els', g.has, g.st⟩ = gr by rw [hts]; exact hgn)
     have HU2 := Lib.hid (show upP (elD els') g.st by rw [hts]; exact hup')
     have HZ2 := Lib.hid (show ∀ x ∈ elD els', x.n.size ≤ 300000 ∧ x.t.size ≤ 300000 * (i + 1) ∧ ∀ a ∈ x.l, a.1.size ≤ 300000 ∧ a.2.size ≤ 300000 by
      rw [hts, Nat.mul_add, Nat.mul_one]
      exact grow_sz hg HMo.out HZ.out)
     have HS2 := Lib.hid (show (elR els').Sublist (outR (ms.take (i + 1))) by
      rw [HSn.out]
      rcases hRr with h1 | h1
      ·rw [h1]; exact HS.out.trans (List.sublist_append_left _ _)
      ·rw [h1]; exact HS.out.append (.refl _))
     clear HM hM hgs hgn hg hts hup' hRr HG HU HZ HS
     have HM := HM1
     clear HM1
     as_aux_lemma =>
     go_wp2_with fail
     go_roundw
     case rel => exact ⟨i + 1, els', g.has, g.st, pt', ph', ct', ch', by go_num, hlt3.out, by omega, hhas, HG2, HU2, HZ2, HS2, HM⟩
     case measure => have := hlt3.out; simp [intOf]; omega
   ·obtain rfl : i = ms.length := by omega
    have d1 : decide ((ms.length : Int) < ms.length) = false := by simp
    have hgn := HG.out
    rw [List.drop_of_length_le (by unfold outD; rw [List.length_map]; exact Nat.le_refl _)] at hgn
    have hr := HR.out
    rw [← hgn] at hr
    dsimp only [growF] at hr
    have hed : (elD els).length = els.length := List.length_map ..
    rw [hed] at hr
    clear HR hgn HG
    have HTs := Lib.hid (show ∀ x ∈ outR ms, x ∈ T from fun x hx => by rw [← HTT.out]; exact .tail _ hx)
    have HS2 := Lib.hid (show (elR els).Sublist (outR ms) by have := HS.out; rwa [List.take_length] at this)
    clear HS
    by_cases h0 : els.length = 0
    ·have HR2 := Lib.hid (show r = (none, 5) by rw [if_pos (.inl h0)] at hr; exact hr.symm)
     have b0 : ((els.length : Int) == 0) = true := by rw [h0]; rfl
     clear hr h0
     as_aux_lemma =>
     go_wp2_with (first | ((with_reducible refine skip_op ?_ ?_); exact rfl) | refine mP ?_ | (refine mS ?_; clear HM; intro W1 HM) | (refine hal HM rfl ?_; clear HM; intro g1 W1 HM) | (refine mB ?_; clear HM; intro g1 W1 HM))
     go_ret3
     exact tr_none HR2.out rfl (Nat.le_refl _) HM.out.below
    have b0 : ((els.length : Int) == 0) = false := by simpa using h0
    cases st with
    | cons k q =>
     have HR2 := Lib.hid (show r = (none, 5) by rw [if_pos (.inr (by simp))] at hr; exact hr.symm)
     simp only [topI] at HM
     clear hr HU
     as_aux_lemma =>
     go_wp2_with (first | ((with_reducible refine skip_op ?_ ?_); exact rfl) | refine mP ?_ | (refine mS ?_; clear HM; intro W1 HM) | (refine hal HM rfl ?_; clear HM; intro g1 W1 HM) | (refine mB ?_; clear HM; intro g1 W1 HM))
     go_ret3
     exact tr_none HR2.out rfl (Nat.le_refl _) HM.out.below
    | nil =>
    rw [if_neg (by rintro (h | h); exact h0 h; exact h rfl)] at hr
    obtain ⟨cr, hcr⟩ : ∃ x, clearF (elD els) has = x := ⟨_, rfl⟩
    rw [hcr] at hr
    have HR := Lib.hid hr
    have HC := Lib.hid (show (clearF ((elD els).drop 0) (has.drop 0)).map ((elD els).take 0 ++ ·) = cr by
     rw [List.drop_zero, List.drop_zero, hcr, List.take_zero]
     cases cr <;> rfl)
    simp only [topI] at HM
    obtain ⟨bt, rfl⟩ := row_has (HM.out.get (k := 1) rfl) (by omega)
    obtain ⟨bh, rfl⟩ := row_has (HM.out.get (k := 2) rfl) (by omega)
    have HHl := Lib.hid hhl
    have hl2 : has.length ≤ 1048576 := by omega
    have hl3 : 0 < has.length := by omega
    have HEd := Lib.hid hed
    clear hr hcr HU hhl hed
    as_aux_lemma =>
    go_wp2_with (first | ((with_reducible refine skip_op ?_ ?_); exact rfl) | refine mP ?_ | (refine mS ?_; clear HM; intro W1 HM) | (refine hal HM rfl ?_; clear HM; intro g1 W1 HM) | (refine mB ?_; clear HM; intro g1 W1 HM))
    go_loopw [58] (fun iv wr => ∃ (j : Nat) (es : List ElM), iv = .int .i64 j ∧ j ≤ els.length ∧ Hid (es.length = els.length) ∧ Hid ((clearF ((elD els).drop j) (has.drop j)).map ((elD es).take j ++ ·) = cr) ∧ Hid ((elD es).drop j = (elD els).drop j) ∧ Hid (elR es = elR els) ∧ Hid (∀ x ∈ elD es, x.n.size ≤ 300000 ∧ x.t.size ≤ 300000 * ms.length ∧ ∀ a ∈ x.l, a.1.size ≤ 300000 ∧ a.2.size ≤ 300000) ∧
     Hid (Mem W wr (.box g24 55 [.slice (some bt) els.length ct, .slice (some bh) has.length ch, .int .i64 (-1)] :: .row (some bt) ct 42 4 els.length (elC es) :: .row (some bh) ch 4 1 has.length (boC has) :: T))) (fun iv _ => els.length - (intOf iv).toNat)
    case atStart => exact ⟨0, els, rfl, by omega, Lib.hid rfl, HC, Lib.hid rfl, Lib.hid rfl, HZ, HM⟩
    case round =>
     clear HM HC HZ
     obtain ⟨j, es, rfl, hj, HLe, HC, HDr, HEr, HZ, HM⟩ := hrel
     by_cases hjl : j < els.length
     ·obtain ⟨x, hx⟩ : ∃ x, es[j]? = some x := ⟨_, List.getElem?_eq_getElem (by rw [HLe.out]; exact hjl)⟩
      have hjh : j < has.length := by rw [HHl.out]; exact hjl
      obtain ⟨b, hb⟩ : ∃ b, has[j]? = some b := ⟨_, List.getElem?_eq_getElem hjh⟩
      have hxd := elD_at hx
      have hxL := drop_at HDr.out hxd
      have HBc := Lib.hid (bo_cell hb)
      have htc := flat_getx ElM.cs 4 ElM.cs_len hx (j := 3) (by omega)
      have hxz := HZ.out x.d (List.mem_of_getElem? hxd)
      have d2 : decide ((j : Int) < els.length) = true := decide_eq_true (by omega)
      have hj3 := Lib.hid (show j + 1 ≤ els.length from hjl)
      obtain ⟨⟨n, up, la, t⟩, pa, ca⟩ := x
      dsimp only at hxd hxL hxz
      have HTc := Lib.hid (show (elC es)[j * 4 + 3]? = some (.string t) from htc)
      have HXs := Lib.hid hx
      have HXd := Lib.hid hxd
      have HXL := Lib.hid hxL
      have HXz := Lib.hid hxz
      have HBb := Lib.hid hb
      have HBl := Lib.hid (fun W => tblank_any t W (by have := hxz.2.1; omega))
      clear hx hb hxd hxL htc hxz
      cases b with
      | false =>
       have HC2 := Lib.hid (clr_false HC.out HXL.out HBb.out HXd.out)
       have HD2 := Lib.hid (drop_next HDr.out)
       as_aux_lemma =>
       go_wp2_with (first | ((with_reducible refine iat 66 ?_); (refine ixa (i := j) rfl rfl rfl hjh ?_)) | ((with_reducible refine iat 67 ?_); (refine ldx1 (row_cell (HM.out.get (k := 2) rfl) HBc.out) rfl ?_)) | ((with_reducible refine skip_op ?_ ?_); exact rfl) | refine mP ?_ | (refine mS ?_; clear HM; intro W1 HM) | (refine hal HM rfl ?_; clear HM; intro g1 W1 HM) | (refine mB ?_; clear HM; intro g1 W1 HM))
       go_roundw
       case rel => exact ⟨j + 1, es, by go_num, hj3.out, HLe, HC2, HD2, HEr, HZ, HM⟩
       case measure => have := hj3.out; simp [intOf]; omega
      | true =>
       cases hbk : blankB t with
       | false =>
        rw [hbk] at HBl
        have HR2 := Lib.hid (show r = (none, 5) by have := HR.out; rw [clr_bad HC.out HXL.out HBb.out hbk] at this; exact this.symm)
        clear hbk
        as_aux_lemma =>
        go_wp2_with (first | ((with_reducible refine iat 66 ?_); (refine ixa (i := j) rfl rfl rfl hjh ?_)) | ((with_reducible refine iat 67 ?_); (refine ldx1 (row_cell (HM.out.get (k := 2) rfl) HBc.out) rfl ?_)) | ((with_reducible refine iat 74 ?_); (refine ixa (i := j) rfl rfl rfl hjl ?_)) | ((with_reducible refine iat 76 ?_); (refine ldx1 (row_cellf (HM.out.get (k := 1) rfl) HTc.out) rfl ?_)) | (go_at_call 24; (with_reducible refine cB HM (HBl.out _) ?_); clear HM; intro W1 HM) | ((with_reducible refine skip_op ?_ ?_); exact rfl) | refine mP ?_ | (refine mS ?_; clear HM; intro W1 HM) | (refine hal HM rfl ?_; clear HM; intro g1 W1 HM) | (refine mB ?_; clear HM; intro g1 W1 HM))
        go_ret3
        exact tr_none HR2.out rfl (Nat.le_refl _) HM.out.below
       | true =>
        rw [hbk] at HBl
        have hjd : j < (elD es).length := (List.getElem?_eq_some_iff.1 HXd.out).1
        have HC2 := Lib.hid (clr_true HC.out HXL.out HBb.out hbk hjd)
        have HD2 := Lib.hid (show ((elD es).set j ⟨n, up, la, ⟨#[]⟩⟩).drop (j + 1) = (elD els).drop (j + 1) by rw [List.drop_set_of_lt (by omega)]; exact drop_next HDr.out)
        have hcl : j * 4 + 3 < (elC es).length := by rw [elC_len, HLe.out]; omega
        have hse : elD (es.set j ⟨⟨n, up, la, ⟨#[]⟩⟩, pa, ca⟩) = (elD es).set j ⟨n, up, la, ⟨#[]⟩⟩ := by unfold elD; rw [List.map_set]
        have HSe := Lib.hid hse
        have HSt := Lib.hid (flat_set ElM.cs 4 ElM.cs_len (y := ⟨⟨n, up, la, ⟨#[]⟩⟩, pa, ca⟩) HXs.out rfl (by omega) (j := 3) (v := .string ⟨#[]⟩))
        clear hbk hse
        as_aux_lemma =>
        go_wp2_with (first | ((with_reducible refine iat 66 ?_); (refine ixa (i := j) rfl rfl rfl hjh ?_)) | ((with_reducible refine iat 67 ?_); (refine ldx1 (row_cell (HM.out.get (k := 2) rfl) HBc.out) rfl ?_)) | ((with_reducible refine iat 74 ?_); (refine ixa (i := j) rfl rfl rfl hjl ?_)) | ((with_reducible refine iat 76 ?_); (refine ldx1 (row_cellf (HM.out.get (k := 1) rfl) HTc.out) rfl ?_)) | ((with_reducible refine iat 86 ?_); (refine ixa (i := j) rfl rfl rfl hjl ?_)) | (go_at_call 24; (with_reducible refine cB HM (HBl.out _) ?_); clear HM; intro W1 HM) | ((with_reducible refine istore ?_); (refine strw (i := j * 4 + 3) (v := .string ⟨#[]⟩) rfl HM.out 1 rfl (by rw [← add_add']; rfl) rfl rfl hcl ?_); intro W1 HM1; replace HM := Lib.hid HM1; clear HM1; simp only [List.set] at HM) | ((with_reducible refine skip_op ?_ ?_); exact rfl) | refine mP ?_ | (refine mS ?_; clear HM; intro W1 HM) | (refine hal HM rfl ?_; clear HM; intro g1 W1 HM) | (refine mB ?_; clear HM; intro g1 W1 HM))
        go_roundw
        case rel =>
         refine ⟨j + 1, es.set j ⟨⟨n, up, la, ⟨#[]⟩⟩, pa, ca⟩, by go_num, hj3.out, Lib.hid (by rw [List.length_set]; exact HLe.out), Lib.hid (by rw [HSe.out]; exact HC2.out), Lib.hid (by rw [HSe.out]; exact HD2.out), Lib.hid ((elR_set (y := ⟨⟨n, up, la, ⟨#[]⟩⟩, pa, ca⟩) HXs.out rfl).trans HEr.out), Lib.hid ?_, Lib.hid ?_⟩
         ·rw [HSe.out]
          intro y hy
          rcases List.mem_or_eq_of_mem_set hy with hy | rfl
          ·exact HZ.out y hy
          ·exact ⟨HXz.out.1, Nat.zero_le _, HXz.out.2.2⟩
         ·have h9 := HM.out
          unfold elC at h9 ⊢
          rw [HSt.out] at h9
          exact h9
        case measure => have := hj3.out; simp [intOf]; omega
     ·obtain rfl : j = els.length := by omega
      have d2 : decide ((els.length : Int) < els.length) = false := by simp
      have hcr : cr = some (elD es) := by
       have := HC.out
       rw [List.drop_of_length_le (by rw [HEd.out]; exact Nat.le_refl _), List.take_of_length_le (by unfold elD; rw [List.length_map, HLe.out]; exact Nat.le_refl _)] at this
       rw [← this]
       simp [clearF]
      have hr := HR.out
      rw [hcr] at hr
      dsimp only at hr
      have HSub := Lib.hid (show (elR es).Sublist (outR ms) by rw [HEr.out]; exact HS2.out)
      have HCk := Lib.hid (fun (W2 : World) (h : Mem W W2 (.box g24 55 [.slice (some bt) els.length ct, .slice (some bh) has.length ch, .int .i64 (-1)] :: .row (some bt) ct 42 4 els.length (elC es) :: .row (some bh) ch 4 1 has.length (boC has) :: T)) => show Calls Tryz.prog 12 #[.slice (some bt) els.length ct] W2 fun e w' => e = .returned (.int .i64 (checkT (elD es))) ∧ Below W2.heap.size W2 w' from by
       have h3 := tcheck_any (some bt) ct es W2 (HT.out.below h.below) (elin_own h (.tail _ (.head _)) (fun x hx => .tail _ (.tail _ (.tail _ (HTs.out x (HSub.out.mem hx)))))) (fun m hm => by
        have := HZ.out m.d (List.mem_map.2 ⟨m, hm, rfl⟩)
        exact ⟨by omega, by omega, fun a ha => by have := this.2.2 a ha; omega⟩)
       rw [HLe.out] at h3
       exact h3)
      clear HR HC HDr HZ
      by_cases hck : checkT (elD es) = 0
      ·rw [if_pos hck] at hr
       subst hr
       rw [hck] at HCk
       clear hcr
       as_aux_lemma =>
       go_wp2_with (first | (go_at_call 12; (with_reducible refine cB HM (HCk.out _ HM.out) ?_); clear HM; intro W1 HM) | ((with_reducible refine skip_op ?_ ?_); exact rfl) | refine mP ?_ | (refine mS ?_; clear HM; intro W1 HM) | (refine hal HM rfl ?_; clear HM; intro g1 W1 HM) | (refine mB ?_; clear HM; intro g1 W1 HM))
       go_ret3
       refine ⟨es, some bt, ct, rfl, by rw [HLe.out]; omega, by rw [HLe.out]; rfl, ?_⟩
       have h9 := HM.out
       rw [← HTT.out] at h9
       rw [HLe.out]
       exact h9.sub (sub_row HSub.out)
      ·rw [if_neg hck] at hr
       have HR2 := Lib.hid hr.symm
       have b1 : (checkT (elD es) != 0) = true := by simpa using hck
       have b2 : (checkT (elD es) == 0) = false := by simpa using hck
       clear hck hcr hr
       as_aux_lemma =>
       go_wp2_with (first | (go_at_call 12; (with_reducible refine cB HM (HCk.out _ HM.out) ?_); clear HM; intro W1 HM) | ((with_reducible refine skip_op ?_ ?_); exact rfl) | refine mP ?_ | (refine mS ?_; clear HM; intro W1 HM) | (refine hal HM rfl ?_; clear HM; intro g1 W1 HM) | (refine mB ?_; clear HM; intro g1 W1 HM))
       go_ret3
       exact tr_none HR2.out b2 (Nat.le_refl _) HM.out.below
end Go.Proofs.YtanncakdlflopaaGreatDoor

namespace Go.Proofs.YtanncakdlflopaaGreatDoor
open Go.RowKit
set_option linter.unusedVariables false
set_option linter.unusedSimpArgs false
set_option maxRecDepth 100000

def kT : ByteArray := ⟨#[60, 97, 62, 60, 98, 62, 116, 60, 47, 98, 62, 60, 47, 97, 62]⟩
theorem known_doc : treeR kT = (some [⟨⟨#[97]⟩, -1, [], ⟨#[]⟩⟩, ⟨⟨#[98]⟩, 0, [], ⟨#[116]⟩⟩], 0) := by kernel_rfl
theorem lit2L (a b c d a' b' c' d' : Value) : Instr.fill (fun i => some (i * 4, 4)) ((Array.range (2 * 4)).map ((Value.agg #[.string ⟨#[]⟩, .int .i64 0, .slice none 0 0, .string ⟨#[]⟩]).cells[· % (Value.agg #[.string ⟨#[]⟩, .int .i64 0, .slice none 0 0, .string ⟨#[]⟩]).cells.size]!)) [(0, .agg #[a, b, c, d]), (1, .agg #[a', b', c', d'])] = some ([a, b, c, d, a', b', c', d'].toArray) := by
 simp [Instr.fill, Array.range, Value.cells]
 apply Array.ext'
 simp [List.ofFn_succ]
section
variable {P : Program} {ops : Array Oper} {Q : Exit → Act → World → Prop} {a : Act} {W W' w0 : World} {rest : List Oper} {L : List Res}
variable {dst : Option Tmp} {ty0 : TypeId} {pos : String} {after : Array Edge} {gd : Option (Nat × Bool)}
theorem bs2L {t e : TypeId} {bytes : Nat} [hR : RowT P t e 4 bytes (.agg #[.string ⟨#[]⟩, .int .i64 0, .slice none 0 0, .string ⟨#[]⟩])] {x y : Operand} {p q r s p' q' r' s' : Value} (hw : Region.wanted ⟨dst, .buildSlice t 2 #[(0, x), (1, y)], ty0, pos, after, gd⟩ (yielded ops a.tmps) = true) (HM : Mem w0 W L)
  (hx : a.eval x = .agg #[p, q, r, s]) (hy : a.eval y = .agg #[p', q', r', s'])
  (h : ∀ g W', Mem w0 W' (.box g e [p, q, r, s, p', q', r', s'] :: L) → wpList P ops Q (⟨dst, .move (.const (.slice (some ⟨g, 0, none⟩) 2 2)), ty0, pos, after, gd⟩ :: rest) a W') : wpList P ops Q (⟨dst, .buildSlice t 2 #[(0, x), (1, y)], ty0, pos, after, gd⟩ :: rest) a W := by
 refine bsb (cs := [p, q, r, s, p', q', r', s']) hw HM (by omega) (by omega) ?_ h
 have hp1 : (Array.map (fun x : Nat × Operand => (x.1, a.eval x.2)) #[(0, x), (1, y)]).toList = [(0, a.eval x), (1, a.eval y)] := by simp
 show Instr.fill _ _ (Array.map (fun x : Nat × Operand => (x.1, a.eval x.2)) #[(0, x), (1, y)]).toList = _
 rw [hp1, hx, hy]
 exact lit2L ..
end
theorem tknown_any (W : World) (hT : U8 W) (hE : ErrsAt W) (hX : MaxAt W) :
  Calls Tryz.prog 8 #[] W fun e w' => e = .returned (.bool true) ∧ Below W.heap.size W w' := by
 have HM := Lib.hid (Mem.start W)
 have HR := Lib.hid (tread_any kT W _ known_doc hT hE hX (by decide))
 clear hT hE hX
 go_enter Tryz.func8, Tryz.ntmps8
 go_wp2_with fail
 refine HR.out.mono ?_
 rintro e W2 ⟨els, p, c, hd, hl, rfl, hM⟩
 clear HM HR
 have HM := Lib.hid hM
 have HD := Lib.hid hd
 clear hM
 go_wp2_with (first | (refine bs2L rfl HM.out rfl rfl ?_; intro g1 W1 HM1; replace HM := Lib.hid HM1; clear HM1) | ((with_reducible refine skip_op ?_ ?_); exact rfl) | (refine mL ?_; clear HM; intro g1 W1 HM))
 have HM2 := HM.out
 have hsl : Sl _ (some ⟨g1, 0, none⟩) (elC [⟨⟨⟨#[97]⟩, -1, [], ⟨#[]⟩⟩, none, 0⟩, ⟨⟨⟨#[98]⟩, 0, [], ⟨#[116]⟩⟩, none, 0⟩]) := ⟨(fun e => by cases e), (fun a e => by cases e; exact box_cells (HM2.get (k := 0) rfl) 0)⟩
 have h3 := rtsame_any p (some ⟨g1, 0, none⟩) c 2 els [⟨⟨⟨#[97]⟩, -1, [], ⟨#[]⟩⟩, none, 0⟩, ⟨⟨⟨#[98]⟩, 0, [], ⟨#[116]⟩⟩, none, 0⟩] _
  (elin_own HM2 (.tail _ (.head _)) (fun r hr => .tail _ (.tail _ hr)))
  ⟨hsl, by
   intro m hm
   simp only [List.mem_cons, List.not_mem_nil, or_false] at hm
   rcases hm with rfl | rfl
   ·exact ⟨⟨(fun _ => rfl), (fun a e => by cases e)⟩, Nat.le_refl _⟩
   ·exact ⟨⟨(fun _ => rfl), (fun a e => by cases e)⟩, Nat.le_refl _⟩⟩
  hd (by omega) (by
   intro m hm
   have h4 : m.d ∈ elD els := List.mem_map.2 ⟨m, hm, rfl⟩
   rw [hd] at h4
   simp only [List.mem_cons, List.not_mem_nil, or_false] at h4
   rcases h4 with h4 | h4
   ·rw [h4]; exact Nat.zero_le _
   ·rw [h4]; exact Nat.zero_le _)
 have HS := Lib.hid h3
 clear h3 HM2
 go_wp2_with (first | (go_at_call 11; (with_reducible refine cB HM (HS.out) ?_); clear HM; intro W1 HM))
 go_ret
 exact ⟨rfl, HM.out.below⟩

theorem kidsF_len {a : Int} : ∀ (l : List ElD) (i : Nat), (kidsF a l i).length ≤ l.length
 | [], _ => Nat.le_refl _
 | e :: r, i => by
  have := kidsF_len (a := a) r (i + 1)
  unfold kidsF
  split
  ·simp only [List.length_cons]; omega
  ·simp only [List.length_cons]; omega
theorem kidsT_len {l : List ElD} {a : Int} {o : List Nat} {c : Int} (h : kidsT l a = (o, c)) : o.length ≤ l.length := by
 unfold kidsT at h
 split at h
 ·simp only [Prod.mk.injEq] at h; rw [← h.1]; exact Nat.zero_le _
 split at h
 ·simp only [Prod.mk.injEq] at h; rw [← h.1]; exact Nat.zero_le _
 ·simp only [Prod.mk.injEq] at h; rw [← h.1]; exact kidsF_len l 0

end Go.Proofs.YtanncakdlflopaaGreatDoor

namespace Go.Proofs.YtanncakdlflopaaGreatDoor
open Go.RowKit Go.ChangeShapes Go.WideShapes Go.Deep
set_option linter.unusedVariables false
set_option maxRecDepth 100000
section
variable {H : Type} {enc : TypeId × Value → H} {P : Program} {w : World}
theorem rows_dec {α : Type} (f : α → List Value) (k : Nat) (hk : 0 < k) (hf : ∀ x, (f x).length = k) (good : α → DataW H → Prop) {t e : TypeId} {fuel : Nat} {cs : List Value} {x : DataW H × List MemPlace} (ht : P.underlying t = some (.slice e)) (hC : P.cellsOf e = k)
  (hdec : ∀ (n : Nat) (cs : List Value) (x : DataW H × List MemPlace), DataW.trod enc P w 0 (fun _ => true) true n e cs = some x → ∃ y, cs = f y ∧ good y x.1)
  (h : DataW.trod enc P w 0 (fun _ => true) true fuel t cs = some x) :
  ∃ (q : Option Addr) (c : Nat) (l : List α), cs = [.slice q l.length c] ∧ l.length ≤ c ∧ Sl w q (l.flatMap f) ∧ ((x.1 = .nil ∧ l = []) ∨ ∃ es sp, x.1 = .slice es sp ∧ es.length = l.length ∧ ∀ (i : Nat) (y : α), l[i]? = some y → ∃ z, es[i]? = some z ∧ good y z) := by
 rcases open_slice ht h with ⟨h1, h2⟩ | ⟨a, n0, c0, m, n, D, Pl, h1, hb, hl, hm, hmm, hx, hi⟩
 ·exact ⟨none, 0, [], h1, Nat.le_refl _, ⟨fun _ => rfl, fun a e => by cases e⟩, Or.inl ⟨by rw [h2], rfl⟩⟩
 ·have hmc : m = c0 := by simpa using hmm
  obtain ⟨l, hll, hlp⟩ := list_of (p := fun i (y : α) => Cells w (a.add (i * k)) (f y) ∧ good y (D i)) n0 (fun i hin => by
   obtain ⟨cs', hc, ht'⟩ := hi i (by omega)
   rw [hC] at hc
   obtain ⟨y, rfl, hg⟩ := hdec _ _ _ ht'
   obtain ⟨_, hcl, hat⟩ := World.cells?_some hc
   refine ⟨y, fun j u hj => ?_, hg⟩
   have hjl : j < k := by rw [← hf y]; exact (List.getElem?_eq_some_iff.1 hj).1
   rw [hat j hjl, hj])
  subst hll
  refine ⟨some a, c0, l, h1, hl, ⟨(fun e => by cases e), (fun b e => by cases e; exact cells_flat f k hk hf (fun i y hy => (hlp i y hy).1))⟩, Or.inr ⟨(List.range l.length).map D, _, by rw [hx], by simp, fun i y hy => ⟨D i, ?_, (hlp i y hy).2⟩⟩⟩
  have hil : i < l.length := (List.getElem?_eq_some_iff.1 hy).1
  rw [List.getElem?_map, List.getElem?_range hil]
  rfl
theorem bulk_mem {d : DataW H} {l : List (DataW H)} (h : d ∈ l) : Rows.uptoBulk d ≤ Rows.uptoBulkAll l := by
 induction l with
 | nil => cases h
 | cons x r ih =>
  simp only [Rows.uptoBulkAll]
  cases List.mem_cons.1 h with
  | inl e => subst e; omega
  | inr e => have := ih e; omega
theorem bulk_one (d : DataW H) : 1 ≤ Rows.uptoBulk d := by
 cases d with
 | lit l => cases l <;> simp [Rows.uptoBulk]
 | nil => simp [Rows.uptoBulk]
 | ptr d => simp [Rows.uptoBulk]
 | slice elems spare => simp [Rows.uptoBulk]
 | agg parts => simp [Rows.uptoBulk]
 | iface t d => simp [Rows.uptoBulk]
 | map entries => simp [Rows.uptoBulk]
 | held h => simp [Rows.uptoBulk]
theorem bulk_length (l : List (DataW H)) : l.length ≤ Rows.uptoBulkAll l := by
 induction l with
 | nil => simp [Rows.uptoBulkAll]
 | cons x r ih => have := bulk_one x; simp only [Rows.uptoBulkAll, List.length_cons]; omega
theorem bulk_slice (es sp : List (DataW H)) : Rows.uptoBulkAll es ≤ Rows.uptoBulk (.slice es sp) := by
 simp only [Rows.uptoBulk]; omega
theorem attr_dec {n : Nat} {cs : List Value} {x : DataW H × List MemPlace} (h : DataW.trod enc Tryz.prog w 0 (fun _ => true) true n 44 cs = some x) :
  ∃ y : AtD, cs = y.cs ∧ (y.1.size ≤ Rows.uptoBulk x.1 ∧ y.2.size ≤ Rows.uptoBulk x.1) := by
 obtain ⟨xs, m, -, rfl, hl, hlen, hf⟩ := DataW.trod_struct Tryz.underlying44 h
 rw [show Tryz.prog.cellsOf 44 = 2 by kernel_rfl] at hl
 have k2 : Tryz.prog.cellsOf 9 = 1 := by kernel_rfl
 match cs, hl, xs, hlen with
 | [c0, c1], _, [y0, y1], _ =>
  have h0 : DataW.trod enc Tryz.prog w 0 (fun _ => true) true m 9 [c0] = some y0 := field_at hf 0 9 0 1 rfl k2
  have h1 : DataW.trod enc Tryz.prog w 0 (fun _ => true) true m 9 [c1] = some y1 := field_at hf 1 9 1 1 rfl k2
  obtain ⟨v0, e0, x0, -⟩ := DataW.trod_string (x := y0) Tryz.underlying9 h0
  obtain ⟨v1, e1, x1, -⟩ := DataW.trod_string (x := y1) Tryz.underlying9 h1
  simp at e0 e1
  subst e0 e1
  have b0 : Rows.uptoBulk y0.1 = v0.size + 1 := by rw [x0]; simp [Rows.uptoBulk]
  have b1 : Rows.uptoBulk y1.1 = v1.size + 1 := by rw [x1]; simp [Rows.uptoBulk]
  refine ⟨(v0, v1), rfl, ?_⟩
  show v0.size ≤ Rows.uptoBulk (.agg [y0.1, y1.1]) ∧ v1.size ≤ Rows.uptoBulk (.agg [y0.1, y1.1])
  simp only [Rows.uptoBulk, Rows.uptoBulkAll, b0, b1]
  omega
theorem attrs_dec {n : Nat} {cs : List Value} {x : DataW H × List MemPlace} (h : DataW.trod enc Tryz.prog w 0 (fun _ => true) true n 40 cs = some x) :
  ∃ (q : Option Addr) (c : Nat) (l : List AtD), cs = [.slice q l.length c] ∧ l.length ≤ c ∧ Sl w q (l.flatMap AtD.cs) ∧ (∀ a ∈ l, a.1.size ≤ Rows.uptoBulk x.1 ∧ a.2.size ≤ Rows.uptoBulk x.1) ∧ l.length ≤ Rows.uptoBulk x.1 := by
 obtain ⟨q, c, l, h1, h2, h3, h4⟩ := rows_dec AtD.cs 2 (by decide) AtD.cs_len (fun (y : AtD) z => y.1.size ≤ Rows.uptoBulk z ∧ y.2.size ≤ Rows.uptoBulk z) Tryz.underlying40 (by kernel_rfl) (fun n cs x hx => attr_dec hx) h
 refine ⟨q, c, l, h1, h2, h3, ?_⟩
 rcases h4 with ⟨-, rfl⟩ | ⟨es, sp, hx, hl, hg⟩
 ·exact ⟨fun a ha => by simp at ha, Nat.zero_le _⟩
 ·have h7 := bulk_slice es sp
  have h8 := bulk_length es
  refine ⟨fun a ha => ?_, by rw [hx]; omega⟩
  obtain ⟨i, hi⟩ := List.mem_iff_getElem?.1 ha
  obtain ⟨z, hz, g1, g2⟩ := hg i a hi
  have h6 := bulk_mem (List.mem_of_getElem? hz)
  rw [hx]
  omega
theorem elem_dec {n : Nat} {cs : List Value} {x : DataW H × List MemPlace} (h : DataW.trod enc Tryz.prog w 0 (fun _ => true) true n 42 cs = some x) :
  ∃ y : ElM, cs = y.cs ∧ ((Sl w y.p (y.d.l.flatMap AtD.cs) ∧ y.d.l.length ≤ y.c) ∧ y.d.n.size ≤ Rows.uptoBulk x.1 ∧ y.d.t.size ≤ Rows.uptoBulk x.1 ∧ (∀ a ∈ y.d.l, a.1.size ≤ Rows.uptoBulk x.1 ∧ a.2.size ≤ Rows.uptoBulk x.1) ∧ y.d.l.length ≤ Rows.uptoBulk x.1) := by
 obtain ⟨xs, m, -, rfl, hl, hlen, hf⟩ := DataW.trod_struct Tryz.underlying42 h
 rw [show Tryz.prog.cellsOf 42 = 4 by kernel_rfl] at hl
 have k1 : Tryz.prog.cellsOf 3 = 1 := by kernel_rfl
 have k2 : Tryz.prog.cellsOf 9 = 1 := by kernel_rfl
 have k3 : Tryz.prog.cellsOf 40 = 1 := by kernel_rfl
 match cs, hl, xs, hlen with
 | [c0, c1, c2, c3], _, [y0, y1, y2, y3], _ =>
  have h0 : DataW.trod enc Tryz.prog w 0 (fun _ => true) true m 9 [c0] = some y0 := field_at hf 0 9 0 1 rfl k2
  have h1 : DataW.trod enc Tryz.prog w 0 (fun _ => true) true m 3 [c1] = some y1 := field_at hf 1 3 1 1 rfl k1
  have h2 : DataW.trod enc Tryz.prog w 0 (fun _ => true) true m 40 [c2] = some y2 := field_at hf 2 40 2 1 rfl k3
  have h3 : DataW.trod enc Tryz.prog w 0 (fun _ => true) true m 9 [c3] = some y3 := field_at hf 3 9 3 1 rfl k2
  obtain ⟨v0, e0, x0, -⟩ := DataW.trod_string (x := y0) Tryz.underlying9 h0
  obtain ⟨v1, e1, -, -⟩ := DataW.trod_int (x := y1) Tryz.underlying3 h1
  obtain ⟨q, c, l, e2, hc, hS, hz, hzl⟩ := attrs_dec (x := y2) h2
  obtain ⟨v3, e3, x3, -⟩ := DataW.trod_string (x := y3) Tryz.underlying9 h3
  simp at e0 e1 e2 e3
  subst e0 e1 e2 e3
  have b0 : Rows.uptoBulk y0.1 = v0.size + 1 := by rw [x0]; simp [Rows.uptoBulk]
  have b3 : Rows.uptoBulk y3.1 = v3.size + 1 := by rw [x3]; simp [Rows.uptoBulk]
  have hB : Rows.uptoBulk (.agg [y0.1, y1.1, y2.1, y3.1]) ≥ Rows.uptoBulk y0.1 ∧ Rows.uptoBulk (.agg [y0.1, y1.1, y2.1, y3.1]) ≥ Rows.uptoBulk y2.1 ∧ Rows.uptoBulk (.agg [y0.1, y1.1, y2.1, y3.1]) ≥ Rows.uptoBulk y3.1 := by
   simp only [Rows.uptoBulk, Rows.uptoBulkAll]
   omega
  refine ⟨⟨⟨v0, v1, l, v3⟩, q, c⟩, rfl, ⟨hS, hc⟩, ?_⟩
  show v0.size ≤ Rows.uptoBulk (.agg [y0.1, y1.1, y2.1, y3.1]) ∧ v3.size ≤ Rows.uptoBulk (.agg [y0.1, y1.1, y2.1, y3.1]) ∧ (∀ a ∈ l, a.1.size ≤ Rows.uptoBulk (.agg [y0.1, y1.1, y2.1, y3.1]) ∧ a.2.size ≤ Rows.uptoBulk (.agg [y0.1, y1.1, y2.1, y3.1])) ∧ l.length ≤ Rows.uptoBulk (.agg [y0.1, y1.1, y2.1, y3.1])
  exact ⟨by omega, by omega, fun a ha => by have := hz a ha; omega, by omega⟩
end
end Go.Proofs.YtanncakdlflopaaGreatDoor
