/- (*writer).element: an element with all that is within it. (short) tree.Write on any list of elements. (short) The reference's blanks and head of an element. (short) -/
import Derived.Test.YtanncakdlflopaaGreatDoorTreeWA
import Derived.Test.YtanncakdlflopaaGreatDoorTreeHI
import Derived.Test.YtanncakdlflopaaGreatDoorShelf3
import Derived.Test.YtanncakdlflopaaGreatDoorTreeWB
import Derived.Test.YtanncakdlflopaaGreatDoorTreeE
namespace Go.Proofs.YtanncakdlflopaaGreatDoor
open Go.RowKit
set_option linter.unusedVariables false
set_option linter.unusedSimpArgs false
set_option maxRecDepth 100000

theorem rot4 {w0 W : World} {a b c d : Res} {L : List Res} (h : Mem w0 W (a :: b :: c :: d :: L)) : Mem w0 W (b :: c :: d :: a :: L) := h.perm ((List.Perm.swap _ _ _).trans (List.Perm.cons _ ((List.Perm.swap _ _ _).trans (List.Perm.cons _ (List.Perm.swap _ _ _)))))
theorem rep_pad (n : Nat) : Lib.repeatL [32, 32] n = padL n := by
 induction n with
 | zero => rfl
 | succ n ih => rw [Lib.repeatL, ih]; unfold padL; rw [List.replicate_succ]; rfl
/-- Which elements have others within. -/
def hasL (l : List ElD) : List Bool := (List.range l.length).map (hasK l)
theorem hasL_at {l : List ElD} {i : Nat} (h : i < l.length) : (hasL l)[i]? = some (hasK l i) := by
 unfold hasL
 rw [List.getElem?_map, List.getElem?_range h]
 rfl
theorem name_at_some {l : List ElD} {i : Nat} {e : ElD} (h : l[i]? = some e) : nameL l i = e.n := by unfold nameL; rw [h]
theorem tailL_kids {l : List ElD} {i : Nat} {e : ElD} (h : hasK l i = true) : tailL l i e = [62, 10] := by unfold tailL; rw [if_pos h]
theorem tailL_none {l : List ElD} {i : Nat} {e : ElD} (h : hasK l i = false) (ht : e.t.data.toList = []) : tailL l i e = [47, 62, 10] := by unfold tailL; rw [if_neg (by rw [h]; decide), if_pos ht]
theorem tailL_text {l : List ElD} {i : Nat} {e : ElD} (h : hasK l i = false) (ht : ¬ e.t.data.toList = []) : tailL l i e = 62 :: (escT false e.t.data.toList ++ endL e.n) := by unfold tailL; rw [if_neg (by rw [h]; decide), if_neg ht]

set_option maxHeartbeats 16000000 in
theorem telem_any (ms : List ElM) (p : Option Addr) (cp g gh : Nat) (full : List UInt8) (w0 : World) (hT : U8 w0) (hI : ElIn w0 p ms) (hz : ∀ m ∈ ms, szW m.d) (hck : checkT (elD ms) = 0) (hfl : full.length ≤ 17000000000000) :
  ∀ (d at_ : Nat) (dp : Int) (o : List Nat) (out : List UInt8) (W : World) (L : List Res), ms.length - at_ ≤ d → at_ < ms.length → o.length ≤ at_ → dp = (o.length : Int) → PreW (elD ms) full at_ out o →
   WrAt w0 W g (.slice p ms.length cp) (.slice (some ⟨gh, 0, none⟩) ms.length ms.length) out (.row (some ⟨gh, 0, none⟩) ms.length 4 1 ms.length (boC (hasL (elD ms))) :: L) →
   Calls Tryz.prog 33 #[.pointer (some ⟨g, 0, none⟩), .int .i64 at_, .int .i64 dp] W fun e W' => ∃ (next : Nat) (out2 : List UInt8), at_ < next ∧ next ≤ ms.length ∧ e = .returned (.int .i64 next) ∧ PostW (elD ms) full next out2 o ∧
    WrAt w0 W' g (.slice p ms.length cp) (.slice (some ⟨gh, 0, none⟩) ms.length ms.length) out2 (.row (some ⟨gh, 0, none⟩) ms.length 4 1 ms.length (boC (hasL (elD ms))) :: L) := by
 have HT := Lib.hid hT
 have HI := Lib.hid hI
 have HZs := Lib.hid (show ∀ x ∈ elD ms, szW x from fun x hx => by obtain ⟨m, hm, rfl⟩ := List.mem_map.1 hx; exact hz m hm)
 have HCk := Lib.hid hck
 have hln : (elD ms).length = ms.length := List.length_map ..
 have hn2 : ms.length ≤ 20000 := by have := (checkT_parts hck).2.1; omega
 clear hT hI hck hz
 intro d
 induction d with
 | zero => intro at_ dp o out W L h1 h2; exact absurd h2 (by omega)
 | succ d ih =>
 intro at_ dp o out W L hd hlt hol hdp hpre h
 subst hdp
 have HIH := Lib.hid ih
 obtain ⟨pv, pw, cw, hp, hzz, hM⟩ := h
 have HM := Lib.hid hM
 have HP := Lib.hid hp
 have HZ := Lib.hid hzz
 obtain ⟨b, rfl, hb⟩ := HI.out.row.some_at ElM.cs_len (by decide) hlt
 obtain ⟨x, hx⟩ : ∃ x, ms[at_]? = some x := ⟨_, List.getElem?_eq_getElem hlt⟩
 obtain ⟨hxa, hxc⟩ := HI.out.at_ x (List.mem_of_getElem? hx)
 have he := elD_get hx
 have e1 := hb.elem ElM.cs 4 ElM.cs_len hx
 have hsz := HZs.out x.d (List.mem_of_getElem? he)
 obtain ⟨hrt, -, -⟩ := checkT_all HCk.out at_ x.d he
 have hpl := pre_len hpre he
 obtain ⟨⟨n, up, l, t⟩, pa, ca⟩ := x
 dsimp only at hxa hxc he hsz hrt hpl
 have hn1 := hsz.1
 have ht1 := hsz.2.1
 dsimp only at hn1 ht1
 obtain ⟨-, htx, hl16, -⟩ := right_parts hrt
 dsimp only at htx hl16
 have hhl := headL_len hsz hl16
 have htl := tailL_len (l := elD ms) (i := at_) hsz
 have E1 := Lib.hid (show Cells w0 (b.add (at_ * 4)) [.string n, .int .i64 up, .slice pa l.length ca, .string t] from e1)
 have HA := Lib.hid hxa
 have HC := Lib.hid hb
 have HSz := Lib.hid hsz
 have HRt := Lib.hid hrt
 have HE := Lib.hid he
 have HPre := Lib.hid hpre
 have hhc := bo_cell (hasL_at (l := elD ms) (i := at_) (by omega))
 obtain ⟨pad, hpad⟩ : ∃ v : ByteArray, v = ⟨(padL o.length).toArray⟩ := ⟨_, rfl⟩
 have hps : pad.size = 2 * o.length := by rw [hpad, mk_size, padL_len]
 have hpd : pad.data.toList = padL o.length := by rw [hpad]
 have HRep := Lib.hid (fun W => Tryz.strings_Repeat ⟨#[32, 32]⟩ o.length W (by omega) (by show 2 * o.length ≤ _; omega))
 rw [show (⟨#[32, 32]⟩ : ByteArray).data.toList = [32, 32] from rfl] at HRep
 simp only [rep_pad] at HRep
 rw [← hpad] at HRep
 have HPd := Lib.hid hpd
 clear hM hp hzz ih e1 hxa hxc he hsz hrt hpre hb hx hpad hpd
 cases hk : hasK (elD ms) at_ with
 | false =>
  rw [hk] at hhc
  by_cases hte : t.data.toList = []
  ·have b0 : (t.toList == []) = true := by rw [Lib.toList_data, hte]; rfl
   have HTl := Lib.hid (tailL_none (e := ⟨n, up, l, t⟩) hk hte)
   have HPo := Lib.hid (pre_leaf HPre.out HE.out hk)
   clear hte hk
   as_aux_lemma =>
   go_enter Tryz.func33, Tryz.ntmps33
   go_wp2_with (first | ((with_reducible refine iat 17 ?_); (refine ixa (i := at_) rfl rfl rfl hlt ?_)) | ((with_reducible refine iat 18 ?_); (refine ldxW (HM.out.olds E1.out) rfl rfl ?_)) | (go_at_call 48; (with_reducible refine cB HM (HRep.out _) ?_); clear HM; intro W1 HM0; have HM := Lib.hid (rot4 HM0.out); clear HM0) | (go_at_call 32; (refine cW (tbw_at ⟨_, _, _, HP.out, HZ.out, HM.out⟩ _ (by (try simp only [ByteArray.size_append, mk_size, List.length_append, List.length_cons, List.length_nil, size_list]); omega)) ?_); clear HM HP HZ; (try clear W1); intro W1 pv pw cw HP HZ HM) | (go_at_call 49; (refine cW (thead_any n t up l pa ca g _ _ _ w0 _ _ HT.out HA.out HSz.out HRt.out (by (try simp only [List.length_append, size_list]); omega) ⟨_, _, _, HP.out, HZ.out, HM.out⟩) ?_); clear HM HP HZ; (try clear W1); intro W1 pv pw cw HP HZ HM) | ((with_reducible refine iat 54 ?_); (refine ixa (i := at_) rfl rfl rfl hlt ?_)) | ((with_reducible refine iat 55 ?_); (refine ldx1 (row_cell (HM.out.get (k := 2) rfl) hhc) rfl ?_)) | ((with_reducible refine skip_op ?_ ?_); exact rfl) | refine mP ?_ | (refine mS ?_; clear HM; intro W1 HM) | (refine hal (dst := some 7) HM rfl ?_; clear HM; intro g7 W1 HM))
   go_ret
   have hq : out ++ pad.data.toList ++ headL ⟨n, up, l, t⟩ ++ [47, 62, 10] = out ++ (padL o.length ++ (headL ⟨n, up, l, t⟩ ++ tailL (elD ms) at_ ⟨n, up, l, t⟩)) := by
    rw [HTl.out, HPd.out]; simp
   refine ⟨at_ + 1, out ++ pad.data.toList ++ headL ⟨n, up, l, t⟩ ++ [47, 62, 10], by omega, by omega, rfl, by rw [hq]; exact HPo.out, pv, pw, cw, HP.out, HZ.out, HM.out.sub (.cons_cons _ (.cons_cons _ (.cons_cons _ (.cons _ (.refl _)))))⟩
  ·have b0 : (t.toList == []) = false := by rw [Lib.toList_data]; simpa using hte
   have HTl := Lib.hid (tailL_text (e := ⟨n, up, l, t⟩) hk hte)
   have HPo := Lib.hid (pre_leaf HPre.out HE.out hk)
   have hvl := escT_len false t.data.toList
   rw [size_list] at hvl
   obtain ⟨v, hv2⟩ : ∃ v : ByteArray, v = ⟨(escT false t.data.toList).toArray⟩ := ⟨_, rfl⟩
   have hvs : v.size ≤ 40000000 := by rw [hv2, mk_size]; omega
   have HEs := Lib.hid (fun W h => escape_any t false W h (by omega))
   rw [esc_ok htx, ← hv2] at HEs
   have HV := Lib.hid (show v.data.toList = escT false t.data.toList by rw [hv2])
   clear hte hk hv2 hvl htx
   as_aux_lemma =>
   go_enter Tryz.func33, Tryz.ntmps33
   go_wp2_with (first | ((with_reducible refine iat 17 ?_); (refine ixa (i := at_) rfl rfl rfl hlt ?_)) | ((with_reducible refine iat 18 ?_); (refine ldxW (HM.out.olds E1.out) rfl rfl ?_)) | (go_at_call 48; (with_reducible refine cB HM (HRep.out _) ?_); clear HM; intro W1 HM0; have HM := Lib.hid (rot4 HM0.out); clear HM0) | (go_at_call 32; (refine cW (tbw_at ⟨_, _, _, HP.out, HZ.out, HM.out⟩ _ (by (try simp only [ByteArray.size_append, mk_size, List.length_append, List.length_cons, List.length_nil, size_list]); omega)) ?_); clear HM HP HZ; (try clear W1); intro W1 pv pw cw HP HZ HM) | (go_at_call 49; (refine cW (thead_any n t up l pa ca g _ _ _ w0 _ _ HT.out HA.out HSz.out HRt.out (by (try simp only [List.length_append, size_list]); omega) ⟨_, _, _, HP.out, HZ.out, HM.out⟩) ?_); clear HM HP HZ; (try clear W1); intro W1 pv pw cw HP HZ HM) | ((with_reducible refine iat 54 ?_); (refine ixa (i := at_) rfl rfl rfl hlt ?_)) | ((with_reducible refine iat 55 ?_); (refine ldx1 (row_cell (HM.out.get (k := 2) rfl) hhc) rfl ?_)) | (go_at_call 50; (with_reducible refine cB HM (HEs.out _ (HT.out.below HM.out.below)) ?_); clear HM; intro W1 HM) | ((with_reducible refine skip_op ?_ ?_); exact rfl) | refine mP ?_ | (refine mS ?_; clear HM; intro W1 HM) | (refine hal (dst := some 7) HM rfl ?_; clear HM; intro g7 W1 HM))
   refine wp_region_steps2 [(true, 0), (true, 1), (true, 2), (true, 3), (true, 4), (true, 5), (true, 6), (true, 7), (true, 8), (true, 9), (false, 10)] (by kernel_rfl) (by kernel_rfl) rfl (by kernel_rfl) (fun _ _ _ _ _ h => h) HM.out _ (.cons _ (.cons _ (.cons_cons _ (.cons_cons _ (.refl _))))) ?_
   intro hNE W1 HM1; replace HM := Lib.hid HM1; clear HM1
   have HS0 := Lib.hid (HM.out.sub (.cons _ (.cons _ (.cons_cons _ (.cons_cons _ (.refl _))))))
   simp only [wpSteps, List.getElem?_cons_succ, List.getElem?_cons_zero]
   (repeat (first | ((with_reducible refine wpQuiet_nil ?_); (try dsimp only)) | ((with_reducible refine qgd ?_); (with_reducible refine skip_q ?_ ?_ ?_); (exact rfl); (rotate_left; (exact (hNE.elim fun p => ⟨p.W, p, rfl⟩)))) | refine mQ ?_ | ((with_reducible refine qload ?_); first | (refine qdb1 HS0.out 0 rfl rfl rfl ?_) | (refine qdb1 HS0.out 1 rfl rfl rfl ?_) | (refine qdbW HS0.out 0 rfl rfl rfl ?_) | (refine qdbW HS0.out 1 rfl rfl rfl ?_) | (refine qdbS HS0.out 0 rfl rfl rfl ?_; simp only [List.take, List.drop]) | (refine qdbS HS0.out 1 rfl rfl rfl ?_; simp only [List.take, List.drop])) | (fail) | go_big_quiet_step (fail) | quiet_step (fail)))
   go_wp2_with (first | ((with_reducible refine igd ?_); (with_reducible refine skip_op ?_ ?_); (exact rfl)) | (go_at_call 32; (refine cW (tbw_at ⟨_, _, _, HP.out, HZ.out, HM.out⟩ _ (by (try simp only [ByteArray.size_append, mk_size, List.length_append, List.length_cons, List.length_nil, size_list]); omega)) ?_); clear HM HP HZ; (try clear W1); intro W1 pv pw cw HP HZ HM))
   refine ⟨⟨⟨_, HM.out.sub (by repeat (first | exact List.nil_sublist _ | with_reducible exact List.Sublist.refl _ | with_reducible refine List.Sublist.cons_cons _ ?_ | refine List.Sublist.cons _ ?_))⟩, rfl⟩, ?_⟩
   (try dsimp only)
   (repeat (first | ((with_reducible refine wpQuiet_nil ?_); (try dsimp only)) | ((with_reducible refine qgd ?_); (with_reducible refine skip_q ?_ ?_ ?_); (exact rfl); (rotate_left; (exact (hNE.elim fun p => ⟨p.W, p, rfl⟩)))) | refine mQ ?_ | ((with_reducible refine qload ?_); first | (refine qdb1 HS0.out 0 rfl rfl rfl ?_) | (refine qdb1 HS0.out 1 rfl rfl rfl ?_) | (refine qdbW HS0.out 0 rfl rfl rfl ?_) | (refine qdbW HS0.out 1 rfl rfl rfl ?_) | (refine qdbS HS0.out 0 rfl rfl rfl ?_; simp only [List.take, List.drop]) | (refine qdbS HS0.out 1 rfl rfl rfl ?_; simp only [List.take, List.drop])) | (fail) | go_big_quiet_step (fail) | quiet_step (fail)))
   clear HS0 hNE
   go_wp2_with fail
   go_ret
   obtain ⟨o3, ho3⟩ : ∃ x, out ++ pad.data.toList ++ headL ⟨n, up, l, t⟩ ++ ((((⟨#[62]⟩ ++ v) ++ ⟨#[60, 47]⟩) ++ n) ++ ⟨#[62, 10]⟩ : ByteArray).data.toList = x := ⟨_, rfl⟩
   rw [ho3] at HM HZ
   have hq : o3 = out ++ (padL o.length ++ (headL ⟨n, up, l, t⟩ ++ tailL (elD ms) at_ ⟨n, up, l, t⟩)) := by
    rw [HTl.out, ← ho3]
    simp [ByteArray.data_append, HPd.out, HV.out, endL]
   refine ⟨at_ + 1, o3, by omega, by omega, rfl, by rw [hq]; exact HPo.out, pv, pw, cw, HP.out, HZ.out, HM.out.sub (.cons_cons _ (.cons_cons _ (.cons_cons _ (.cons _ (.refl _)))))⟩
 | true =>
  rw [hk] at hhc
  have HPo := Lib.hid (pre_kids HPre.out HE.out hk)
  have HK := Lib.hid hk
  have HNm := Lib.hid (name_at_some HE.out)
  clear hk
  as_aux_lemma =>
  go_enter Tryz.func33, Tryz.ntmps33
  go_wp2_with (first | ((with_reducible refine iat 17 ?_); (refine ixa (i := at_) rfl rfl rfl hlt ?_)) | ((with_reducible refine iat 18 ?_); (refine ldxW (HM.out.olds E1.out) rfl rfl ?_)) | (go_at_call 48; (with_reducible refine cB HM (HRep.out _) ?_); clear HM; intro W1 HM0; have HM := Lib.hid (rot4 HM0.out); clear HM0) | (go_at_call 32; (refine cW (tbw_at ⟨_, _, _, HP.out, HZ.out, HM.out⟩ _ (by (try simp only [ByteArray.size_append, mk_size, List.length_append, List.length_cons, List.length_nil, size_list]); omega)) ?_); clear HM HP HZ; (try clear W1); intro W1 pv pw cw HP HZ HM) | (go_at_call 49; (refine cW (thead_any n t up l pa ca g _ _ _ w0 _ _ HT.out HA.out HSz.out HRt.out (by (try simp only [List.length_append, size_list]); omega) ⟨_, _, _, HP.out, HZ.out, HM.out⟩) ?_); clear HM HP HZ; (try clear W1); intro W1 pv pw cw HP HZ HM) | ((with_reducible refine iat 54 ?_); (refine ixa (i := at_) rfl rfl rfl hlt ?_)) | ((with_reducible refine iat 55 ?_); (refine ldx1 (row_cell (HM.out.get (k := 2) rfl) hhc) rfl ?_)) | ((with_reducible refine skip_op ?_ ?_); exact rfl) | refine mP ?_ | (refine mS ?_; clear HM; intro W1 HM) | (refine hal (dst := some 7) HM rfl ?_; clear HM; intro g7 W1 HM))
  have hq : out ++ pad.data.toList ++ headL ⟨n, up, l, t⟩ ++ [62, 10] = out ++ (padL o.length ++ (headL ⟨n, up, l, t⟩ ++ [62, 10])) := by
   rw [HPd.out]; simp
  rw [hq] at HM HZ
  generalize out ++ (padL o.length ++ (headL ⟨n, up, l, t⟩ ++ [62, 10])) = o3 at HM HZ HPo
  clear hq hhc
  go_loopw [9] (fun iv wr => ∃ (next : Nat) (o2 : List UInt8) (pv : Value) (pw : Option Addr) (cw : Nat), iv = .int .i64 next ∧ at_ < next ∧ next ≤ ms.length ∧ Hid (PostW (elD ms) full next o2 (at_ :: o)) ∧ Hid (WrP g pv) ∧ Hid (o2 = [] → pw = none ∧ cw = 0) ∧
   Hid (Mem w0 wr (.box g 71 (wrC (.slice (some b) ms.length cp) (.slice (some ⟨gh, 0, none⟩) ms.length ms.length) pv pw o2.length cw) :: .row pw cw 5 1 o2.length (bC o2) :: .row (some ⟨gh, 0, none⟩) ms.length 4 1 ms.length (boC (hasL (elD ms))) :: .box g7 42 [.string n, .int .i64 up, .slice pa l.length ca, .string t] :: L))) (fun iv _ => ms.length - (intOf iv).toNat)
  case atStart => exact ⟨at_ + 1, o3, pv, pw, cw, by go_num, by omega, by omega, HPo, HP, HZ, HM⟩
  case round =>
   clear HM HP HZ HPo
   obtain ⟨next, o2, pv, pw, cw, rfl, hn, hnl, HPo, HP, HZ, HM⟩ := hrel
   have hol2 := post_len HPo.out
   by_cases hlt2 : next < ms.length
   ·obtain ⟨y, hy⟩ : ∃ y, ms[next]? = some y := ⟨_, List.getElem?_eq_getElem hlt2⟩
    have hyd := elD_get hy
    have e2 := HC.out.elem ElM.cs 4 ElM.cs_len hy
    obtain ⟨⟨yn, yu, yl, yt⟩, py, cy⟩ := y
    dsimp only at hyd
    have EK := Lib.hid (show Cells w0 (b.add (next * 4)) [.string yn, .int .i64 yu, .slice py yl.length cy, .string yt] from e2)
    have HYd := Lib.hid hyd
    have d1 : decide ((next : Int) < ms.length) = true := decide_eq_true (by omega)
    clear e2 hyd hy
    by_cases hu : yu = (at_ : Int)
    ·subst hu
     by_cases hs : o2.length ≤ 300000
     ·have d3 : decide ((o2.length : Int) ≤ 300000) = true := decide_eq_true (by omega)
      have HPn := Lib.hid (post_next HPo.out HYd.out (by omega) rfl hs)
      have HC2 := Lib.hid (fun W pv pw cw hP hZ hM => HIH.out next ((o.length : Int) + 1) (at_ :: o) o2 W (.box g7 42 [.string n, .int .i64 up, .slice pa l.length ca, .string t] :: L) (by omega) hlt2 (by rw [List.length_cons]; omega) (by rw [List.length_cons]; omega) HPn.out ⟨pv, pw, cw, hP, hZ, hM⟩)
      as_aux_lemma =>
      go_wp2_with (first | ((with_reducible refine iat 73 ?_); (refine ixa (i := next) rfl rfl rfl hlt2 ?_)) | ((with_reducible refine iat 75 ?_); (refine ldx1 (HM.out.olds EK.out 1 _ rfl) rfl ?_)) | (go_at_call 34; (refine cW (tblen_at ⟨_, _, _, HP.out, HZ.out, HM.out⟩) ?_); clear HM HP HZ; (try clear W1); intro W1 pv pw cw HP HZ HM) | ((with_reducible refine skip_op ?_ ?_); exact rfl) | refine mP ?_ | (refine mS ?_; clear HM; intro W1 HM) | (refine hal HM rfl ?_; clear HM; intro g1 W1 HM))
      refine (HC2.out _ _ _ _ HP.out HZ.out HM.out).mono ?_
      rintro e W3 ⟨next2, o4, hn2, hnl2, rfl, hpo, pv2, pw2, cw2, hp2, hz2, hM2⟩
      clear HM HP HZ HC2
      go_wp2_with fail
      go_roundw
      case rel => exact ⟨next2, o4, pv2, pw2, cw2, rfl, by omega, hnl2, Lib.hid hpo, Lib.hid hp2, Lib.hid hz2, Lib.hid hM2⟩
      case measure => simp [intOf]; omega
     ·have d3 : decide ((o2.length : Int) ≤ 300000) = false := decide_eq_false (by omega)
      have HPc := Lib.hid (post_close HZs.out HPo.out HK.out (by omega) (.inr (by omega)))
      as_aux_lemma =>
      go_wp2_with (first | ((with_reducible refine iat 73 ?_); (refine ixa (i := next) rfl rfl rfl hlt2 ?_)) | ((with_reducible refine iat 75 ?_); (refine ldx1 (HM.out.olds EK.out 1 _ rfl) rfl ?_)) | (go_at_call 34; (refine cW (tblen_at ⟨_, _, _, HP.out, HZ.out, HM.out⟩) ?_); clear HM HP HZ; (try clear W1); intro W1 pv pw cw HP HZ HM) | ((with_reducible refine skip_op ?_ ?_); exact rfl) | refine mP ?_ | (refine mS ?_; clear HM; intro W1 HM) | (refine hal HM rfl ?_; clear HM; intro g1 W1 HM))
      refine wp_region_steps2 [(true, 0), (true, 1), (true, 2), (true, 3), (true, 4), (true, 5), (true, 6), (true, 7), (true, 8), (false, 9)] (by kernel_rfl) (by kernel_rfl) rfl (by kernel_rfl) (fun _ _ _ _ _ h => h) HM.out _ (.cons _ (.cons _ (.cons_cons _ (.cons_cons _ (.refl _))))) ?_
      intro hNE W1 HM1; replace HM := Lib.hid HM1; clear HM1
      have HS0 := Lib.hid (HM.out.sub (.cons _ (.cons _ (.cons_cons _ (.cons_cons _ (.refl _))))))
      simp only [wpSteps, List.getElem?_cons_succ, List.getElem?_cons_zero]
      (repeat (first | ((with_reducible refine wpQuiet_nil ?_); (try dsimp only)) | ((with_reducible refine qgd ?_); (with_reducible refine skip_q ?_ ?_ ?_); (exact rfl); (rotate_left; (exact (hNE.elim fun p => ⟨p.W, p, rfl⟩)))) | refine mQ ?_ | ((with_reducible refine qload ?_); first | (refine qdb1 HS0.out 0 rfl rfl rfl ?_) | (refine qdb1 HS0.out 1 rfl rfl rfl ?_) | (refine qdbW HS0.out 0 rfl rfl rfl ?_) | (refine qdbW HS0.out 1 rfl rfl rfl ?_) | (refine qdbS HS0.out 0 rfl rfl rfl ?_; simp only [List.take, List.drop]) | (refine qdbS HS0.out 1 rfl rfl rfl ?_; simp only [List.take, List.drop])) | (fail) | go_big_quiet_step (fail) | quiet_step (fail)))
      go_wp2_with (first | ((with_reducible refine igd ?_); (with_reducible refine skip_op ?_ ?_); (exact rfl)) | (go_at_call 32; (refine cW (tbw_at ⟨_, _, _, HP.out, HZ.out, HM.out⟩ _ (by (try simp only [ByteArray.size_append, mk_size, List.length_append, List.length_cons, List.length_nil, size_list]); omega)) ?_); clear HM HP HZ; (try clear W1); intro W1 pv pw cw HP HZ HM))
      refine ⟨⟨⟨_, HM.out.sub (by repeat (first | exact List.nil_sublist _ | with_reducible exact List.Sublist.refl _ | with_reducible refine List.Sublist.cons_cons _ ?_ | refine List.Sublist.cons _ ?_))⟩, rfl⟩, ?_⟩
      (try dsimp only)
      (repeat (first | ((with_reducible refine wpQuiet_nil ?_); (try dsimp only)) | ((with_reducible refine qgd ?_); (with_reducible refine skip_q ?_ ?_ ?_); (exact rfl); (rotate_left; (exact (hNE.elim fun p => ⟨p.W, p, rfl⟩)))) | refine mQ ?_ | ((with_reducible refine qload ?_); first | (refine qdb1 HS0.out 0 rfl rfl rfl ?_) | (refine qdb1 HS0.out 1 rfl rfl rfl ?_) | (refine qdbW HS0.out 0 rfl rfl rfl ?_) | (refine qdbW HS0.out 1 rfl rfl rfl ?_) | (refine qdbS HS0.out 0 rfl rfl rfl ?_; simp only [List.take, List.drop]) | (refine qdbS HS0.out 1 rfl rfl rfl ?_; simp only [List.take, List.drop])) | (fail) | go_big_quiet_step (fail) | quiet_step (fail)))
      clear HS0 hNE
      go_wp2_with fail
      go_ret
      obtain ⟨o3, ho3⟩ : ∃ x, o2 ++ (((pad ++ ⟨#[60, 47]⟩) ++ n) ++ ⟨#[62, 10]⟩ : ByteArray).data.toList = x := ⟨_, rfl⟩
      rw [ho3] at HM HZ
      have hq : o3 = o2 ++ (padL o.length ++ endL (nameL (elD ms) at_)) := by
       rw [HNm.out, ← ho3]
       simp [ByteArray.data_append, HPd.out, endL]
      refine ⟨_, o3, by omega, by omega, rfl, by rw [hq]; exact HPc.out, pv, pw, cw, HP.out, HZ.out, HM.out.sub (.cons_cons _ (.cons_cons _ (.cons_cons _ (.cons _ (.refl _)))))⟩
    ·have b2 : (yu == (at_ : Int)) = false := by simpa using hu
     have HPc := Lib.hid (post_close HZs.out HPo.out HK.out (by omega) (.inl (fun e he => by rw [HYd.out] at he; cases he; exact hu)))
     as_aux_lemma =>
     go_wp2_with (first | ((with_reducible refine iat 73 ?_); (refine ixa (i := next) rfl rfl rfl hlt2 ?_)) | ((with_reducible refine iat 75 ?_); (refine ldx1 (HM.out.olds EK.out 1 _ rfl) rfl ?_)) | (go_at_call 34; (refine cW (tblen_at ⟨_, _, _, HP.out, HZ.out, HM.out⟩) ?_); clear HM HP HZ; (try clear W1); intro W1 pv pw cw HP HZ HM) | ((with_reducible refine skip_op ?_ ?_); exact rfl) | refine mP ?_ | (refine mS ?_; clear HM; intro W1 HM) | (refine hal HM rfl ?_; clear HM; intro g1 W1 HM))
     refine wp_region_steps2 [(true, 0), (true, 1), (true, 2), (true, 3), (true, 4), (true, 5), (true, 6), (true, 7), (true, 8), (false, 9)] (by kernel_rfl) (by kernel_rfl) rfl (by kernel_rfl) (fun _ _ _ _ _ h => h) HM.out _ (.cons _ (.cons _ (.cons_cons _ (.cons_cons _ (.refl _))))) ?_
     intro hNE W1 HM1; replace HM := Lib.hid HM1; clear HM1
     have HS0 := Lib.hid (HM.out.sub (.cons _ (.cons _ (.cons_cons _ (.cons_cons _ (.refl _))))))
     simp only [wpSteps, List.getElem?_cons_succ, List.getElem?_cons_zero]
     (repeat (first | ((with_reducible refine wpQuiet_nil ?_); (try dsimp only)) | ((with_reducible refine qgd ?_); (with_reducible refine skip_q ?_ ?_ ?_); (exact rfl); (rotate_left; (exact (hNE.elim fun p => ⟨p.W, p, rfl⟩)))) | refine mQ ?_ | ((with_reducible refine qload ?_); first | (refine qdb1 HS0.out 0 rfl rfl rfl ?_) | (refine qdb1 HS0.out 1 rfl rfl rfl ?_) | (refine qdbW HS0.out 0 rfl rfl rfl ?_) | (refine qdbW HS0.out 1 rfl rfl rfl ?_) | (refine qdbS HS0.out 0 rfl rfl rfl ?_; simp only [List.take, List.drop]) | (refine qdbS HS0.out 1 rfl rfl rfl ?_; simp only [List.take, List.drop])) | (fail) | go_big_quiet_step (fail) | quiet_step (fail)))
     go_wp2_with (first | ((with_reducible refine igd ?_); (with_reducible refine skip_op ?_ ?_); (exact rfl)) | (go_at_call 32; (refine cW (tbw_at ⟨_, _, _, HP.out, HZ.out, HM.out⟩ _ (by (try simp only [ByteArray.size_append, mk_size, List.length_append, List.length_cons, List.length_nil, size_list]); omega)) ?_); clear HM HP HZ; (try clear W1); intro W1 pv pw cw HP HZ HM))
     refine ⟨⟨⟨_, HM.out.sub (by repeat (first | exact List.nil_sublist _ | with_reducible exact List.Sublist.refl _ | with_reducible refine List.Sublist.cons_cons _ ?_ | refine List.Sublist.cons _ ?_))⟩, rfl⟩, ?_⟩
     (try dsimp only)
     (repeat (first | ((with_reducible refine wpQuiet_nil ?_); (try dsimp only)) | ((with_reducible refine qgd ?_); (with_reducible refine skip_q ?_ ?_ ?_); (exact rfl); (rotate_left; (exact (hNE.elim fun p => ⟨p.W, p, rfl⟩)))) | refine mQ ?_ | ((with_reducible refine qload ?_); first | (refine qdb1 HS0.out 0 rfl rfl rfl ?_) | (refine qdb1 HS0.out 1 rfl rfl rfl ?_) | (refine qdbW HS0.out 0 rfl rfl rfl ?_) | (refine qdbW HS0.out 1 rfl rfl rfl ?_) | (refine qdbS HS0.out 0 rfl rfl rfl ?_; simp only [List.take, List.drop]) | (refine qdbS HS0.out 1 rfl rfl rfl ?_; simp only [List.take, List.drop])) | (fail) | go_big_quiet_step (fail) | quiet_step (fail)))
     clear HS0 hNE
     go_wp2_with fail
     go_ret
     obtain ⟨o3, ho3⟩ : ∃ x, o2 ++ (((pad ++ ⟨#[60, 47]⟩) ++ n) ++ ⟨#[62, 10]⟩ : ByteArray).data.toList = x := ⟨_, rfl⟩
     rw [ho3] at HM HZ
     have hq : o3 = o2 ++ (padL o.length ++ endL (nameL (elD ms) at_)) := by
      rw [HNm.out, ← ho3]
      simp [ByteArray.data_append, HPd.out, endL]
     refine ⟨_, o3, by omega, by omega, rfl, by rw [hq]; exact HPc.out, pv, pw, cw, HP.out, HZ.out, HM.out.sub (.cons_cons _ (.cons_cons _ (.cons_cons _ (.cons _ (.refl _)))))⟩
   ·obtain rfl : next = ms.length := by omega
    have d1 : decide ((ms.length : Int) < ms.length) = false := by simp
    have HPc := Lib.hid (post_close HZs.out HPo.out HK.out (by omega) (.inl (fun e he => by rw [List.getElem?_eq_none (by omega)] at he; cases he)))
    as_aux_lemma =>
    go_wp2_with (first | (go_at_call 34; (refine cW (tblen_at ⟨_, _, _, HP.out, HZ.out, HM.out⟩) ?_); clear HM HP HZ; (try clear W1); intro W1 pv pw cw HP HZ HM) | ((with_reducible refine skip_op ?_ ?_); exact rfl) | refine mP ?_ | (refine mS ?_; clear HM; intro W1 HM) | (refine hal HM rfl ?_; clear HM; intro g1 W1 HM))
    refine wp_region_steps2 [(true, 0), (true, 1), (true, 2), (true, 3), (true, 4), (true, 5), (true, 6), (true, 7), (true, 8), (false, 9)] (by kernel_rfl) (by kernel_rfl) rfl (by kernel_rfl) (fun _ _ _ _ _ h => h) HM.out _ (.cons _ (.cons _ (.cons_cons _ (.cons_cons _ (.refl _))))) ?_
    intro hNE W1 HM1; replace HM := Lib.hid HM1; clear HM1
    have HS0 := Lib.hid (HM.out.sub (.cons _ (.cons _ (.cons_cons _ (.cons_cons _ (.refl _))))))
    simp only [wpSteps, List.getElem?_cons_succ, List.getElem?_cons_zero]
    (repeat (first | ((with_reducible refine wpQuiet_nil ?_); (try dsimp only)) | ((with_reducible refine qgd ?_); (with_reducible refine skip_q ?_ ?_ ?_); (exact rfl); (rotate_left; (exact (hNE.elim fun p => ⟨p.W, p, rfl⟩)))) | refine mQ ?_ | ((with_reducible refine qload ?_); first | (refine qdb1 HS0.out 0 rfl rfl rfl ?_) | (refine qdb1 HS0.out 1 rfl rfl rfl ?_) | (refine qdbW HS0.out 0 rfl rfl rfl ?_) | (refine qdbW HS0.out 1 rfl rfl rfl ?_) | (refine qdbS HS0.out 0 rfl rfl rfl ?_; simp only [List.take, List.drop]) | (refine qdbS HS0.out 1 rfl rfl rfl ?_; simp only [List.take, List.drop])) | (fail) | go_big_quiet_step (fail) | quiet_step (fail)))
    go_wp2_with (first | ((with_reducible refine igd ?_); (with_reducible refine skip_op ?_ ?_); (exact rfl)) | (go_at_call 32; (refine cW (tbw_at ⟨_, _, _, HP.out, HZ.out, HM.out⟩ _ (by (try simp only [ByteArray.size_append, mk_size, List.length_append, List.length_cons, List.length_nil, size_list]); omega)) ?_); clear HM HP HZ; (try clear W1); intro W1 pv pw cw HP HZ HM))
    refine ⟨⟨⟨_, HM.out.sub (by repeat (first | exact List.nil_sublist _ | with_reducible exact List.Sublist.refl _ | with_reducible refine List.Sublist.cons_cons _ ?_ | refine List.Sublist.cons _ ?_))⟩, rfl⟩, ?_⟩
    (try dsimp only)
    (repeat (first | ((with_reducible refine wpQuiet_nil ?_); (try dsimp only)) | ((with_reducible refine qgd ?_); (with_reducible refine skip_q ?_ ?_ ?_); (exact rfl); (rotate_left; (exact (hNE.elim fun p => ⟨p.W, p, rfl⟩)))) | refine mQ ?_ | ((with_reducible refine qload ?_); first | (refine qdb1 HS0.out 0 rfl rfl rfl ?_) | (refine qdb1 HS0.out 1 rfl rfl rfl ?_) | (refine qdbW HS0.out 0 rfl rfl rfl ?_) | (refine qdbW HS0.out 1 rfl rfl rfl ?_) | (refine qdbS HS0.out 0 rfl rfl rfl ?_; simp only [List.take, List.drop]) | (refine qdbS HS0.out 1 rfl rfl rfl ?_; simp only [List.take, List.drop])) | (fail) | go_big_quiet_step (fail) | quiet_step (fail)))
    clear HS0 hNE
    go_wp2_with fail
    go_ret
    obtain ⟨o3, ho3⟩ : ∃ x, o2 ++ (((pad ++ ⟨#[60, 47]⟩) ++ n) ++ ⟨#[62, 10]⟩ : ByteArray).data.toList = x := ⟨_, rfl⟩
    rw [ho3] at HM HZ
    have hq : o3 = o2 ++ (padL o.length ++ endL (nameL (elD ms) at_)) := by
     rw [HNm.out, ← ho3]
     simp [ByteArray.data_append, HPd.out, endL]
    refine ⟨_, o3, by omega, by omega, rfl, by rw [hq]; exact HPc.out, pv, pw, cw, HP.out, HZ.out, HM.out.sub (.cons_cons _ (.cons_cons _ (.cons_cons _ (.cons _ (.refl _)))))⟩
end Go.Proofs.YtanncakdlflopaaGreatDoor

namespace Go.Proofs.YtanncakdlflopaaGreatDoor
open Go.RowKit
set_option linter.unusedVariables false
set_option linter.unusedSimpArgs false
set_option maxRecDepth 100000

/-- Which elements have others within, as far as the first ones tell. -/
def hasN (l : List ElD) (n : Nat) : List Bool := (List.range l.length).map (hasK (l.take n))
theorem hasN_all {l : List ElD} {n : Nat} (h1 : l.length ≤ n) : hasN l n = hasL l := by unfold hasN hasL; rw [List.take_of_length_le h1]
theorem hasN_len (l : List ElD) (n : Nat) : (hasN l n).length = l.length := by unfold hasN; rw [List.length_map, List.length_range]
theorem hasN_get {l : List ElD} {i : Nat} (n : Nat) (hi : i < l.length) : (hasN l n)[i]? = some (hasK (l.take n) i) := by
 unfold hasN
 rw [List.getElem?_map, List.getElem?_range hi]
 rfl
theorem hasN_one {l : List ElD} {e : ElD} (he : l[0]? = some e) (hu : e.up = -1) : hasN l 1 = List.replicate l.length false := by
 apply List.ext_getElem?
 intro i
 by_cases hi : i < l.length
 ·rw [hasN_get 1 hi, List.getElem?_replicate, if_pos hi, has_take he, List.take_zero, hu]
  have : ((-1 : Int) == (i : Int)) = false := by
   have h3 : ¬ (-1 : Int) = (i : Int) := by omega
   exact beq_eq_false_iff_ne.2 h3
  rw [this]
  rfl
 ·rw [List.getElem?_eq_none (by rw [hasN_len]; omega), List.getElem?_eq_none (by rw [List.length_replicate]; omega)]
theorem hasN_step {l : List ElD} {n k : Nat} {e : ElD} (he : l[n]? = some e) (hu : e.up = (k : Int)) : (hasN l n).set k true = hasN l (n + 1) := by
 apply List.ext_getElem?
 intro i
 by_cases hi : i < l.length
 ·rw [hasN_get _ hi, has_take he, hu]
  by_cases hk : k = i
  ·subst hk
   rw [List.getElem?_set_self (by rw [hasN_len]; exact hi)]
   simp
  ·rw [List.getElem?_set_ne hk, hasN_get _ hi]
   have : ((k : Int) == (i : Int)) = false := by
    have h3 : ¬ (k : Int) = (i : Int) := by omega
    exact beq_eq_false_iff_ne.2 h3
   rw [this, Bool.or_false]
 ·rw [List.getElem?_eq_none (by rw [List.length_set, hasN_len]; omega), List.getElem?_eq_none (by rw [hasN_len]; omega)]
theorem boC_rep (n : Nat) : boC (List.replicate n false) = List.replicate n (.bool false) := by unfold boC; rw [List.map_replicate]
theorem writeT_bad {l : List ElD} (h : ¬ checkT l = 0) : writeT l = (⟨#[]⟩, checkT l) := by unfold writeT; rw [if_neg h]
theorem writeT_long {l : List ElD} (h : checkT l = 0) (h2 : 300000 < (docL l).length) : writeT l = (⟨#[]⟩, 6) := by unfold writeT; rw [if_pos h, if_pos h2]
theorem writeT_ok {l : List ElD} {out : List UInt8} (h : checkT l = 0) (h2 : out = docL l) (h3 : out.length ≤ 300000) : writeT l = (⟨out.toArray⟩, 0) := by
 subst h2
 unfold writeT; rw [if_pos h, if_neg (by omega)]
theorem szW_ok {e : ElD} (h : szW e) : szOk e := ⟨by have := h.1; omega, by have := h.2.1; omega, fun a ha => by have := h.2.2 a ha; omega⟩

set_option maxHeartbeats 16000000 in
theorem twrite_any (p : Option Addr) (cp : Nat) (ms : List ElM) (W : World) (hT : U8 W) (h : ElIn W p ms) (hz : ∀ m ∈ ms, szW m.d) (hc : ms.length ≤ cp) :
  Calls Tryz.prog 17 #[.slice p ms.length cp] W fun e w' => e = .returned (.tuple #[.string (writeT (elD ms)).1, .int .i64 (writeT (elD ms)).2]) ∧ Below W.heap.size W w' := by
 have HM := Lib.hid (Mem.start W)
 have HT := Lib.hid hT
 have HI := Lib.hid h
 have HC := Lib.hid (tcheck_any p cp ms W hT h (fun m hm => szW_ok (hz m hm)))
 by_cases hck : checkT (elD ms) = 0
 ·rw [hck] at HC
  have hln : (elD ms).length = ms.length := List.length_map ..
  obtain ⟨hl0, hl2, -⟩ := checkT_parts hck
  rw [hln] at hl0 hl2
  have HEl := Lib.hid (telem_any ms p cp)
  have HZs := Lib.hid hz
  have HCk := Lib.hid hck
  have HDl := Lib.hid (docL_len hck (fun x hx => by obtain ⟨m, hm, rfl⟩ := List.mem_map.1 hx; exact hz m hm))
  obtain ⟨n1, hn1⟩ : ∃ n, ms.length = n + 1 := ⟨ms.length - 1, by omega⟩
  have h1a : n1 + 1 ≤ ms.length := by omega
  have h1b : ms.length ≤ n1 + 1 := by omega
  obtain ⟨x0, hx0⟩ : ∃ x, ms[0]? = some x := ⟨_, List.getElem?_eq_getElem (by omega)⟩
  have hx0d := elD_get hx0
  have hu0 := (checkT_all hck 0 _ hx0d).2.1 rfl
  have HH1 := Lib.hid (hasN_one hx0d hu0)
  have HSt := Lib.hid (pre_start hck hx0d)
  clear hT h hz hck hx0 hx0d hu0 hn1 hl0
  go_enter Tryz.func17, Tryz.ntmps17
  go_wp2_with (first | (go_at_call 12; (with_reducible refine cB HM (HC.out) ?_); clear HM; intro W1 HM) | (refine mks (n := ms.length) rfl HM.out rfl rfl rfl rfl rfl (by omega) (by omega) ?_; intro gd W1 HM1; replace HM := Lib.hid HM1; clear HM1) | ((with_reducible refine iat 20 ?_); (refine slf (m := 1) (l := n1) rfl rfl rfl (by omega) hc (by omega) ?_; intro q hq; have HQ := Lib.hid hq; clear hq)) | refine mP ?_ | (refine mS ?_; clear HM; intro W1 HM) | ((with_reducible refine iat 18 ?_); refine mB ?_; clear HM; intro g18 W1 HM) | (refine hal HM rfl ?_; clear HM; intro g1 W1 HM))
  have HM1 := HM.out
  rw [← boC_rep, ← hln, ← HH1.out, hln] at HM1
  have HM := Lib.hid HM1
  clear HM1 HH1
  go_loopw [22] (fun iv wr => ∃ k : Nat, iv = .int .i64 k ∧ k ≤ n1 ∧ Hid (Mem W wr [.box g18 71 (wrC (.slice p ms.length cp) (.slice (some ⟨gd, 0, none⟩) ms.length ms.length) (.pointer none) none 0 0), .row (some ⟨gd, 0, none⟩) ms.length 4 1 ms.length (boC (hasN (elD ms) (k + 1)))])) (fun iv _ => n1 - (intOf iv).toNat)
  case atStart => exact ⟨0, rfl, by omega, HM⟩
  case round =>
   clear HM
   obtain ⟨k, rfl, hk, HM⟩ := hrel
   by_cases hlt : k < n1
   ·obtain ⟨b, rfl, hb⟩ := HI.out.row.some_at (i := k + 1) ElM.cs_len (by decide) (by omega)
    obtain ⟨x, hx⟩ : ∃ x, ms[k + 1]? = some x := ⟨_, List.getElem?_eq_getElem (by omega)⟩
    have he := elD_get hx
    obtain ⟨-, -, hup⟩ := checkT_all HCk.out (k + 1) x.d he
    obtain ⟨hu1, hu2⟩ := hup (by omega)
    obtain ⟨u, hu⟩ : ∃ u : Nat, x.d.up = (u : Int) := ⟨x.d.up.toNat, by omega⟩
    have hul : u < ms.length := by omega
    have HS := Lib.hid (hasN_step he hu)
    have e1 := hb.elem ElM.cs 4 ElM.cs_len hx
    have hq2 := HQ.out
    rw [if_neg (by omega)] at hq2
    obtain ⟨⟨xn, xu, xl, xt⟩, pa, ca⟩ := x
    dsimp only at hu
    subst hu
    have E1 := Lib.hid (show Cells W ((b.add (1 * 4)).add (k * 4)) [.string xn, .int .i64 u, .slice pa xl.length ca, .string xt] from by
     rw [add_add', show 1 * 4 + k * 4 = (k + 1) * 4 by omega]
     exact e1)
    obtain rfl : some (b.add (1 * 4)) = q := hq2
    have d1 : decide ((k : Int) < n1) = true := decide_eq_true (by omega)
    have hlt3 := Lib.hid (show k + 1 ≤ n1 from hlt)
    clear hb hx he e1 hu1 hu2 hup
    as_aux_lemma =>
    go_wp2_with (first | ((with_reducible refine iat 24 ?_); (refine ixa (i := k) rfl rfl rfl hlt ?_)) | ((with_reducible refine iat 25 ?_); (refine ldxW (HM.out.olds E1.out) rfl rfl ?_)) | refine mP ?_ | (refine mS ?_; clear HM; intro W1 HM) | (refine hal (dst := some 7) HM rfl ?_; clear HM; intro g7 W1 HM) | (refine mB ?_; clear HM; intro g1 W1 HM))
    refine wp_region_steps2 [(true, 0), (true, 1), (true, 2), (true, 3), (true, 4), (true, 5), (true, 6), (false, 7)] (by kernel_rfl) (by kernel_rfl) rfl (by kernel_rfl) (fun _ _ _ _ _ h => h) HM.out _ (.cons_cons _ (.cons_cons _ (.cons _ .slnil))) ?_
    intro hNE W1 HM1; replace HM := Lib.hid HM1; clear HM1
    have HS0 := Lib.hid (HM.out.sub (.cons_cons _ (.cons_cons _ (.cons _ .slnil))))
    simp only [wpSteps, List.getElem?_cons_succ, List.getElem?_cons_zero]
    (repeat (first | ((with_reducible refine wpQuiet_nil ?_); (try dsimp only)) | refine mQ ?_ | ((with_reducible refine qat 32 ?_); (refine qixa (i := u) rfl rfl rfl hul ?_)) | go_big_quiet_step (fail) | quiet_step (fail)))
    go_wp2_with (first | ((with_reducible refine istore ?_); (refine strw (i := u * 1) (v := .bool true) rfl HM.out 2 rfl rfl rfl rfl (by rw [boC_len, hasN_len]; omega) ?_); intro W1 HM1; replace HM := Lib.hid HM1; clear HM1; simp only [List.set, Nat.mul_one] at HM))
    refine ⟨⟨⟨_, HM.out.sub (by repeat (first | exact List.nil_sublist _ | with_reducible refine List.Sublist.cons_cons _ ?_ | refine List.Sublist.cons _ ?_))⟩, rfl⟩, ?_⟩
    (try dsimp only)
    clear HS0 hNE
    rw [boC_set, HS.out] at HM
    go_wp2_with fail
    go_roundw
    case rel => exact ⟨k + 1, by go_num, hlt3.out, Lib.hid (HM.out.sub (.cons _ (.refl _)))⟩
    case measure => have := hlt3.out; simp [intOf]; omega
   ·obtain rfl : k = n1 := by omega
    have d1 : decide ((k : Int) < k) = false := by simp
    have HM1 := HM.out
    rw [hasN_all (by omega)] at HM1
    obtain ⟨pv, pw, cw, hp, hzz, hM⟩ := WrAt.start HM1
    have HP := Lib.hid hp
    have HZ := Lib.hid hzz
    clear HM HM1
    have HM := Lib.hid hM
    clear hM hp hzz
    go_wp2_with (first | (go_at_call 32; (refine cW (tbw_at ⟨_, _, _, HP.out, HZ.out, HM.out⟩ _ (by decide)) ?_); clear HM HP HZ; (try clear W1); intro W1 pv pw cw HP HZ HM))
    have HM2 : Hid (WrAt W _ g18 (.slice p ms.length cp) (.slice (some ⟨gd, 0, none⟩) ms.length ms.length) proL _) := Lib.hid ⟨_, _, _, HP.out, HZ.out, HM.out⟩
    clear HM HP HZ
    have HM := HM2
    clear HM2
    go_wp2_with fail
    refine (HEl.out g18 gd (docL (elD ms)) W HT.out HI.out HZs.out HCk.out HDl.out ms.length 0 0 [] proL _ _ (by omega) (by omega) (by simp) rfl HSt.out HM.out).mono ?_
    rintro e W3 ⟨next, out2, hn1, hn2, rfl, hpo, pv, pw, cw, hp, hzz, hM⟩
    have hpl := post_len hpo
    have hdl := HDl.out
    obtain ⟨pe1, pe2⟩ := post_end (by omega) hpo
    have HP := Lib.hid hp
    have HZ := Lib.hid hzz
    clear HM HEl
    have HM := Lib.hid hM
    clear hM hp hzz hpo
    by_cases hs : 300000 < out2.length
    ·have HW := Lib.hid (writeT_long HCk.out (pe1 hs))
     have d3 : decide ((300000 : Int) < out2.length) = true := decide_eq_true (by omega)
     clear pe1 pe2 hs
     go_wp2_with (first | (go_at_call 34; (refine cW (tblen_at ⟨_, _, _, HP.out, HZ.out, HM.out⟩) ?_); clear HM HP HZ; (try clear W1); intro W1 pv pw cw HP HZ HM))
     go_ret2
     exact ⟨by rw [HW.out]; rfl, HM.out.below⟩
    ·have HW := Lib.hid (writeT_ok HCk.out (pe2 (by omega)) (by omega))
     have d3 : decide ((300000 : Int) < out2.length) = false := decide_eq_false (by omega)
     clear pe1 pe2 hs
     go_wp2_with (first | (go_at_call 34; (refine cW (tblen_at ⟨_, _, _, HP.out, HZ.out, HM.out⟩) ?_); clear HM HP HZ; (try clear W1); intro W1 pv pw cw HP HZ HM) | (go_at_call 35; refine (tbs_at ⟨_, _, _, HP.out, HZ.out, HM.out⟩).mono ?_; rintro e W4 ⟨rfl, hM⟩; clear HM HP HZ; have HM := Lib.hid hM; clear hM))
     go_ret2
     exact ⟨by rw [HW.out]; rfl, HM.out.below⟩
 ·rw [writeT_bad hck]
  generalize checkT (elD ms) = c at *
  have b1 : (c != 0) = true := by simpa using hck
  clear hck hT h hz
  go_enter Tryz.func17, Tryz.ntmps17
  go_wp2_with (first | (go_at_call 12; (with_reducible refine cB HM (HC.out) ?_); clear HM; intro W1 HM))
  go_ret2
  exact ⟨rfl, HM.out.below⟩
end Go.Proofs.YtanncakdlflopaaGreatDoor

namespace Go.Proofs.YtanncakdlflopaaGreatDoor
open Go.RowKit
set_option linter.unusedVariables false
set_option linter.unusedSimpArgs false
set_option maxRecDepth 100000

theorem rpad_any (n : Nat) (w : World) (hn : n ≤ 100000) :
  Calls Tryz.prog 29 #[.int .i64 n] w fun e w' => e = .returned (.string ⟨(padL n).toArray⟩) ∧ w = w' := by
 go_enter Tryz.func29, Tryz.ntmps29
 go_wp2_with fail
 go_loopw [3, 4] (fun sv iv wr => ∃ (i : Nat) (s : ByteArray), sv = .string s ∧ iv = .int .i64 i ∧ i ≤ n ∧ s.size = 2 * i ∧ Hid (s.data.toList = padL i) ∧ w = wr) (fun _ iv _ => n - (intOf iv).toNat)
 case atStart => exact ⟨0, ⟨#[]⟩, rfl, rfl, by omega, rfl, Lib.hid rfl, rfl⟩
 case round =>
  obtain ⟨i, s, rfl, rfl, hi, hs, HS, rfl⟩ := hrel
  by_cases hlt : i < n
  ·have d1 : decide ((i : Int) < n) = true := decide_eq_true (by omega)
   have hlt3 := Lib.hid (show i + 1 ≤ n from hlt)
   go_wp2_with fail
   go_roundw
   case rel => exact ⟨i + 1, s ++ ⟨#[32, 32]⟩, rfl, by go_num, hlt3.out, by rw [ByteArray.size_append, hs]; rfl, Lib.hid (by rw [ByteArray.data_append, Array.toList_append, HS.out, padL_succ]), trivial⟩
   case measure => have := hlt3.out; simp [intOf]; omega
  ·obtain rfl : i = n := by omega
   have d1 : decide ((i : Int) < i) = false := by simp
   have HV := Lib.hid (ba_eq HS.out)
   go_wp2_with fail
   go_ret
   exact ⟨by rw [← HV.out]; rfl, rfl⟩

set_option maxHeartbeats 8000000 in
theorem rhead_any (n t : ByteArray) (up : Int) (l : List AtD) (pa : Option Addr) (ca : Nat) (w0 : World) (hA : Sl w0 pa (l.flatMap AtD.cs)) (hz : szW ⟨n, up, l, t⟩) (hr : rightB ⟨n, up, l, t⟩ = true) :
  Calls Tryz.prog 30 #[.agg #[.string n, .int .i64 up, .slice pa l.length ca, .string t]] w0 fun e W' => e = .returned (.string ⟨(headL ⟨n, up, l, t⟩).toArray⟩) ∧ Below w0.heap.size w0 W' := by
 have HM := Lib.hid (Mem.start w0)
 obtain ⟨hzn, -, hza⟩ := hz
 dsimp only at hzn hza
 obtain ⟨-, -, hl16, hat⟩ := right_parts hr
 dsimp only at hl16 hat
 have HA := Lib.hid hA
 have HZa := Lib.hid hza
 have HAt := Lib.hid hat
 clear hA hza hat hr
 go_enter Tryz.func30, Tryz.ntmps30
 go_wp2_with (first | refine mP ?_ | ((with_reducible refine iat 1 ?_); refine mB ?_; clear HM; intro g1 W1 HM))
 go_loopw [3, 4] (fun sv iv wr => ∃ (i : Nat) (s : ByteArray), sv = .string s ∧ iv = .int .i64 i ∧ i ≤ l.length ∧ s.size ≤ 2000000 + 41000000 * i ∧ Hid (s.data.toList = 60 :: (n.data.toList ++ (l.take i).flatMap attL)) ∧
  Hid (Mem w0 wr [.box g1 42 [.string n, .int .i64 up, .slice pa l.length ca, .string t]])) (fun _ iv _ => l.length - (intOf iv).toNat)
 case atStart => exact ⟨0, ⟨#[60]⟩ ++ n, rfl, rfl, by omega, by rw [ByteArray.size_append, show (⟨#[60]⟩ : ByteArray).size = 1 from rfl]; omega, Lib.hid (by simp [ByteArray.data_append]), HM⟩
 case round =>
  clear HM
  obtain ⟨i, s, rfl, rfl, hi, hss, HS, HM⟩ := hrel
  by_cases hlt : i < l.length
  ·obtain ⟨b, rfl, hb⟩ := HA.out.some_at AtD.cs_len (by decide) hlt
   obtain ⟨a, ha⟩ : ∃ x, l[i]? = some x := ⟨_, List.getElem?_eq_getElem hlt⟩
   have hza := HZa.out a (List.mem_of_getElem? ha)
   have hta := HAt.out a (List.mem_of_getElem? ha)
   have htk := att_take ha
   obtain ⟨a1, a2⟩ := a
   dsimp only at hza hta
   have EA := Lib.hid (show Cells w0 (b.add (i * 2)) [.string a1, .string a2] from hb.elem AtD.cs 2 AtD.cs_len ha)
   have hvl := escT_len true a2.data.toList
   rw [size_list] at hvl
   obtain ⟨v, hv2⟩ : ∃ v : ByteArray, v = ⟨(escT true a2.data.toList).toArray⟩ := ⟨_, rfl⟩
   have hvs : v.size ≤ 39000000 := by rw [hv2, mk_size]; omega
   have HEs := Lib.hid (fun W => rescape_any a2 true W (by omega))
   rw [esc_ok hta.2, ← hv2] at HEs
   have HV := Lib.hid (show attL (a1, a2) = 32 :: (a1.data.toList ++ 61 :: 34 :: (v.data.toList ++ [34])) by rw [hv2]; rfl)
   have HTk := Lib.hid htk
   have d1 : decide ((i : Int) < l.length) = true := decide_eq_true (by omega)
   have hlt3 := Lib.hid (show i + 1 ≤ l.length from hlt)
   have ha1 := hza.1
   clear hv2 hvl ha hb hta htk
   go_wp2_with (first | ((with_reducible refine iat 21 ?_); (refine ixa (i := i) rfl rfl rfl hlt ?_)) | ((with_reducible refine iat 32 ?_); (refine ixa (i := i) rfl rfl rfl hlt ?_)) | ((with_reducible refine iat 23 ?_); (refine ldx1 (HM.out.olds EA.out 1 _ rfl) rfl ?_)) | ((with_reducible refine iat 34 ?_); (refine ldx1 (HM.out.olds EA.out 0 _ rfl) rfl ?_)) | (go_at_call 31; (with_reducible refine cB HM (HEs.out _) ?_); clear HM; intro W1 HM) | refine mP ?_ | (refine mB ?_; clear HM; intro g1 W1 HM))
   go_roundw
   case rel =>
    refine ⟨i + 1, ((((s ++ ⟨#[32]⟩) ++ a1) ++ ⟨#[61, 34]⟩) ++ v) ++ ⟨#[34]⟩, rfl, by go_num, hlt3.out, ?_, Lib.hid ?_, HM⟩
    ·simp only [ByteArray.size_append, show (⟨#[32]⟩ : ByteArray).size = 1 from rfl, show (⟨#[61, 34]⟩ : ByteArray).size = 2 from rfl, show (⟨#[34]⟩ : ByteArray).size = 1 from rfl]
     omega
    ·rw [HTk.out, HV.out]
     simp only [ByteArray.data_append, Array.toList_append, HS.out]
     simp
   case measure => have := hlt3.out; simp [intOf]; omega
  ·obtain rfl : i = l.length := by omega
   have d1 : decide ((l.length : Int) < l.length) = false := by simp
   have HV := Lib.hid (ba_eq (show s.data.toList = headL ⟨n, up, l, t⟩ by rw [HS.out, List.take_length]; rfl))
   go_wp2_with (first | refine mP ?_ | (refine mB ?_; clear HM; intro g1 W1 HM))
   go_ret
   exact ⟨by rw [← HV.out]; rfl, HM.out.below⟩
end Go.Proofs.YtanncakdlflopaaGreatDoor
