/- The reference's Places, types. (fast) -/
import Derived.Test.YtpjcjgikfplgnaaDoorRefSimple
namespace Go.Proofs.YtpjcjgikfplgnaaDoor
open Go.RowKit
set_option linter.unusedVariables false
set_option linter.unusedSimpArgs false
set_option maxRecDepth 100000

set_option maxHeartbeats 4000000 in
theorem places_any (p : Option Addr) (c : Nat) (ns : List NodeD) (parts : List (List Nat)) (hv : List Nat) (w : World) (hN : Sl w p (ns.flatMap NodeD.cs)) (hl : ns.length ≤ 300) (hp : placeF ns ns.length 0 [] [] = some (parts, hv)) :
    Calls Tryd.prog 49 #[.slice p ns.length c] w fun e w' => ∃ pp cp vs T, e = .returned (.slice pp parts.length cp) ∧ PIn T pp cp parts.length vs parts ∧ Mem w w' T := by
  have HM := Lib.hid (Mem.start w)
  have HN := Lib.hid hN
  have HSt := Lib.hid (fun W (h : Sl W p (ns.flatMap NodeD.cs)) => hp ▸ stack_any p c ns ((ns.length : Int) - 1) ns.length W h (by omega) (Nat.le_refl _) hl)
  clear hN hp
  go_enter Tryd.func49, Tryd.ntmps49
  go_wp2_with (first | (go_at_call 31; (with_reducible refine (HSt.out _ HN.out).mono ?_); rintro e W2 ⟨pp, cp, ph, ch, vs, T, rfl, hRI, hM2⟩; have HM1 := Lib.hid hM2; have HRI := Lib.hid hRI; clear HM hRI hM2; (try clear W1); rename World => W1; have HM := HM1; clear HM1))
  go_ret
  exact ⟨pp, cp, vs, _, rfl, ⟨by simp, HRI.out.1.symm, HRI.out.1, fun i l hl => by obtain ⟨p, c, a, b⟩ := HRI.out.2 i l hl; exact ⟨p, c, a, by simp [b]⟩⟩, HM.out⟩

theorem two_el {B cap : Nat} {W : World} {b : Addr} {e : TypeId} {x y : TyD} {av : List Value} (h : [x, y].flatMap TyD.cs = av) (hr : (Res.row (some b) cap e 2 2 av).holds B W) : Cells W (b.add (0 * 2)) x.cs := by
  subst h
  exact row_el TyD.cs 2 TyD.cs_len (l := [x, y]) (i := 0) hr rfl
theorem sl_types {tys : List TyD} {N B cap : Nat} {W : World} {p : Option Addr} {e : TypeId} (hN : tys.length = N) (h : (Res.row p cap e 2 N (tys.flatMap TyD.cs)).holds B W) : Sl W p (tys.flatMap TyD.cs) := by
  subst hN
  exact sl_row TyD.cs 2 TyD.cs_len h
/-- What types leaves. -/
def TypesPost (N : Nat) (r : List TyD × Int) (w : World) (e : Ending) (w' : World) : Prop :=
  if r.2 = 0 then ∃ g T, e = .returned (.tuple #[.slice (some ⟨g, 0, none⟩) N N, .int .i64 0]) ∧ Mem w w' (.row (some ⟨g, 0, none⟩) N 25 2 N (r.1.flatMap TyD.cs) :: T)
  else e = .returned (.tuple #[.slice none 0 0, .int .i64 r.2]) ∧ Below w.heap.size w w'
theorem types_err {N : Nat} {r : List TyD × Int} {w w' : World} {x : Int} {e : Ending} (h : x = r.2) (hx : x ≠ 0) (he : e = .returned (.tuple #[.slice none 0 0, .int .i64 x])) (hb : Below w.heap.size w w') : TypesPost N r w e w' := by
  unfold TypesPost
  rw [if_neg (by rw [← h]; exact hx), ← h]
  exact ⟨he, hb⟩
theorem acc_snoc {l : List Nat} {k x : Nat} (h : l[k]? = some x) (tys : List TyD) : (l.take (k + 1)).map (tyAt tys) = (l.take k).map (tyAt tys) ++ [tyAt tys x] := by
  rw [List.take_add_one, h, List.map_append]; rfl

set_option maxHeartbeats 16000000 in
theorem types_any (p : Option Addr) (c : Nat) (ns : List NodeD) (q : Option Addr) (c2 : Nat) (l : List SymD) (parts : List (List Nat)) (hv : List Nat) (w : World) (hN : Sl w p (ns.flatMap NodeD.cs)) (hL : Sl w q (l.flatMap SymD.cs)) (hl2 : l.length ≤ 4611686018427387904) (hl : ns.length ≤ 300) (hp : placeF ns ns.length 0 [] [] = some (parts, hv)) (hpos : 0 < ns.length)
    (hsym : ∀ s, s ∈ l → s.t.form) (hk : ∀ (i : Nat) (n : NodeD) (x : List Nat), ns[i]? = some n → parts[i]? = some x → kidsB n.op x.length = true) :
    Calls Tryd.prog 37 #[.slice p ns.length c, .slice q l.length c2] w (TypesPost ns.length (typesR l ns parts ns 0 (List.replicate ns.length ⟨0, 0⟩)) w) := by
  obtain ⟨hpn, hpx⟩ := placeF_ok ns ns.length 0 [] [] parts hv (fun x hx => by cases hx) (fun j l hj => by simp at hj) rfl hp
  rw [Nat.zero_add] at hpn
  have hpc := placeF_len ns ns.length 0 [] [] parts hv (Nat.le_refl _) (fun j l hj => by simp at hj) rfl hp
  obtain ⟨N, hNl⟩ : ∃ N, ns.length = N := ⟨_, rfl⟩
  obtain ⟨r, hr⟩ : ∃ r, typesR l ns parts ns 0 (List.replicate ns.length ⟨0, 0⟩) = r := ⟨_, rfl⟩
  rw [hr]
  have HM := Lib.hid (Mem.start w)
  have HR := Lib.hid (show typesR l ns parts (ns.drop 0) 0 (List.replicate N ⟨0, 0⟩) = r by rw [← hNl]; exact hr)
  have HN := Lib.hid hN
  have HL := Lib.hid hL
  have HPl := Lib.hid (fun W (h : Sl W p (ns.flatMap NodeD.cs)) => (show Calls Tryd.prog 49 #[.slice p N c] W fun e w' => ∃ pp cp vs T, e = .returned (.slice pp N cp) ∧ PIn T pp cp N vs parts ∧ Mem W w' T from by
    have h1 := places_any p c ns parts hv W h hl hp
    rw [hpn, hNl] at h1
    exact h1))
  have HPx := Lib.hid (show PartsLt parts from hpx)
  have HPc := Lib.hid (show ∀ (j : Nat) (l : List Nat), parts[j]? = some l → l.length ≤ 300 from fun j l hj => by
    have h1 := hpc j l hj
    have h2 : j < parts.length := (List.getElem?_eq_some_iff.1 hj).1
    omega)
  have HPn := Lib.hid (hpn.trans hNl)
  have HNl := Lib.hid hNl
  have HSym := Lib.hid hsym
  have HK := Lib.hid hk
  have HFt := Lib.hid (fun (pp tp : Option Addr) (pc tc : Nat) (tys : List TyD) (htl : tys.length = N) (hf : ∀ t, t ∈ tys → t.form) (i : Nat) (t : TyD) (W : World) (hi : i < N) (ht : t.form) (hA : FitAt2 W p ns pp parts tp tys) => (show Calls Tryd.prog 48 #[.slice p N c, .slice pp N pc, .slice tp N tc, .int .i64 i, .agg #[.int .i64 t.k, .int .i64 t.o]] W fun e w' => e = .returned (.bool (fitF ns parts tys (i + 1) i t)) ∧ Below W.heap.size W w' from by
    have h1 := fit_any p pp tp c pc tc ns parts tys hpn (htl.trans hNl.symm) HPx.out hf hl HPc.out i t W (by omega) ht hA
    rw [hNl] at h1
    exact h1))
  have hN300 : N ≤ 300 := by omega
  have hN0 : 0 < N := by omega
  have hbn : 16 * N ≤ 140737488355328 := by omega
  rw [hNl]
  clear hr hN hL hp hpos hsym hk hpn hpx hpc hNl hl
  go_enter Tryd.func37, Tryd.ntmps37
  go_wp2_with (first | (go_at_call 49; (with_reducible refine (HPl.out _ HN.out).mono ?_); rintro e W2 ⟨pp, cp, vs, T0, rfl, hPI, hM2⟩; have HM1 := Lib.hid hM2; have HPI := Lib.hid hPI; clear HM hPI hM2; (try clear W1); rename World => W1; have HM := HM1; clear HM1) | (refine mksA (cs := [.int .i64 0, .int .i64 0]) rfl HM.out rfl rfl rfl rfl rfl hbn (by omega) ?_; intro go_ W1 HM1; replace HM := Lib.hid HM1; clear HM1))
  obtain ⟨gp, rfl⟩ : ∃ g, pp = some ⟨g, 0, none⟩ := row_some (HM.out.holds _ (List.mem_cons_of_mem _ HPI.out.1)) hN0
  rw [zeros_flat] at HM
  go_loopw [8] (fun iv wr => ∃ (i : Nat) (tys : List TyD) (T : List Res), iv = .int .i64 i ∧ i ≤ N ∧ Hid (typesR l ns parts (ns.drop i) i tys = r) ∧ Hid (tys.length = N) ∧ Hid (∀ t, t ∈ tys → t.form) ∧ Hid (PIn T (some ⟨gp, 0, none⟩) cp N vs parts) ∧ Hid (Mem w wr (.row (some ⟨go_, 0, none⟩) N 25 2 N (tys.flatMap TyD.cs) :: T))) (fun iv _ => N - (intOf iv).toNat)
  case atStart => exact ⟨0, _, T0, rfl, by omega, HR, Lib.hid (by simp), Lib.hid (fun t ht => by rw [(List.mem_replicate.1 ht).2]; exact form_zero), HPI, HM⟩
  case round =>
    clear HM HPI
    obtain ⟨i, tys, T, rfl, hi, HI, HTL, HTF, HPI, HM⟩ := hrel
    by_cases hlt : i < N
    · obtain ⟨n, hn⟩ : ∃ n, ns[i]? = some n := ⟨_, List.getElem?_eq_getElem (by rw [HNl.out]; exact hlt)⟩
      obtain ⟨x, hx⟩ : ∃ x, parts[i]? = some x := ⟨_, List.getElem?_eq_getElem (by rw [HPn.out]; exact hlt)⟩
      obtain ⟨b, rfl, hb⟩ := HN.out.some_at (i := i) NodeD.cs_len (by decide) (by rw [HNl.out]; exact hlt)
      have E1 := Lib.hid (hb.elem NodeD.cs 8 NodeD.cs_len hn)
      have hxx := HPx.out i x hx
      have hxc := HPc.out i x hx
      have hkx := HK.out i n x hn hx
      obtain ⟨xp, xc, hv1, hv2⟩ := HPI.out.2.2.2 i x hx
      have HV1 := Lib.hid (show vs[i * 1]? = some (.slice xp x.length xc) by rw [Nat.mul_one]; exact hv1)
      have HV2 := Lib.hid hv2
      have HXX := Lib.hid hxx
      have HKX := Lib.hid hkx
      have HXg := Lib.hid (show parts.getD i [] = x by rw [List.getD_eq_getElem?_getD, hx]; rfl)
      have HI2 := Lib.hid (show (if (stepR l ns parts i n tys).2 = 0 then typesR l ns parts (ns.drop (i + 1)) (i + 1) (tys.set i (stepR l ns parts i n tys).1) else ([], (stepR l ns parts i n tys).2)) = r by rw [← HI.out, drop_at hn]; rfl)
      have HSF := Lib.hid (stepR_form HSym.out ns parts i n tys HTF.out)
      have hlt3 := Lib.hid (show i + 1 ≤ N from hlt)
      have d1 : decide ((i : Int) < N) = true := decide_eq_true (by omega)
      clear hb hn hx hxx hkx hv1 hv2 HI
      have HM1 := Lib.hid (HM.out.row0 25 2)
      clear HM
      have HM := HM1
      clear HM1
      go_wp2_with fail
      go_loopw [10, 9] (fun kv lv wr => ∃ (k : Nat) (lq : Option Addr) (lc : Nat) (acc : List TyD), kv = .int .i64 k ∧ lv = .slice lq acc.length lc ∧ k ≤ x.length ∧ Hid (acc.length = k) ∧ Hid (acc = (x.take k).map (tyAt tys)) ∧ Hid (Mem w wr (.row lq lc 25 2 acc.length (acc.flatMap TyD.cs) :: .row (some ⟨go_, 0, none⟩) N 25 2 N (tys.flatMap TyD.cs) :: T))) (fun kv _ _ => x.length - (intOf kv).toNat)
      case atStart => exact ⟨0, none, 0, [], rfl, rfl, by omega, Lib.hid rfl, Lib.hid rfl, HM⟩
      case round =>
        clear HM
        obtain ⟨k, lq, lc, acc, rfl, rfl, hk, HAL, HAC, HM⟩ := hrel
        by_cases hkl : k < x.length
        · obtain ⟨u, hu⟩ : ∃ u, x[k]? = some u := ⟨_, List.getElem?_eq_getElem hkl⟩
          have hui := HXX.out u (List.mem_of_getElem? hu)
          have huN : u < N := by omega
          obtain ⟨t, ht⟩ : ∃ t, tys[u]? = some t := ⟨_, List.getElem?_eq_getElem (by rw [HTL.out]; exact huN)⟩
          obtain ⟨xb, rfl⟩ : ∃ b, xp = some b := by
            cases xp with
            | some b => exact ⟨b, rfl⟩
            | none =>
              have h1 := Sl.nil_len intC_len (by decide) (sl_row intC 1 intC_len (HM.out.holds _ (List.mem_cons_of_mem _ (List.mem_cons_of_mem _ HV2.out)))) rfl
              omega
          have HUx := Lib.hid (show (intL x)[k * 1]? = some (.int .i64 u) from intL_at hu)
          have HTt := Lib.hid ht
          have hat := tyAt_of ht
          obtain ⟨tk, tz⟩ := t
          have HA2 := Lib.hid (show acc ++ [(⟨tk, tz⟩ : TyD)] = (x.take (k + 1)).map (tyAt tys) by rw [acc_snoc hu, hat, ← HAC.out])
          have HL2 := Lib.hid (show (acc ++ [(⟨tk, tz⟩ : TyD)]).length = k + 1 by rw [List.length_append, HAL.out]; rfl)
          have hacc : acc.length ≤ 300 := by have h := HAL.out; omega
          have d2 : decide ((k : Int) < x.length) = true := decide_eq_true (by omega)
          clear hu ht hat HAL HAC
          go_wp2_with (first | ((with_reducible refine iat 26 ?_); (refine ixa rfl rfl rfl hlt ?_)) | ((with_reducible refine iat 36 ?_); (refine ixa rfl rfl rfl hlt ?_)) | ((with_reducible refine iat 39 ?_); (refine ixa rfl rfl rfl hkl ?_)) | ((with_reducible refine iat 41 ?_); (refine ixa rfl rfl rfl huN ?_)) | ((with_reducible refine iat 27 ?_); (refine ldx1 (row_cell (HM.out.holds _ (List.mem_cons_of_mem _ (List.mem_cons_of_mem _ HPI.out.1))) HV1.out) rfl ?_)) | ((with_reducible refine iat 37 ?_); (refine ldx1 (row_cell (HM.out.holds _ (List.mem_cons_of_mem _ (List.mem_cons_of_mem _ HPI.out.1))) HV1.out) rfl ?_)) | ((with_reducible refine iat 40 ?_); (refine ldx1 (row_cell (HM.out.holds _ (List.mem_cons_of_mem _ (List.mem_cons_of_mem _ HV2.out))) HUx.out) rfl ?_)) | ((with_reducible refine iat 42 ?_); (refine ldxW (vs := [.int .i64 tk, .int .i64 tz]) (row_el TyD.cs 2 TyD.cs_len (l := tys) (HTL.out.symm ▸ HM.out.get (k := 1) rfl) HTt.out) rfl rfl ?_)) | (refine apb rfl HM.out 1 0 rfl rfl rfl rfl rfl rfl (by omega) (by omega) (by omega) ?_; intro p1 cap1 W1 HM1; replace HM := Lib.hid HM1; clear HM1; simp only [List.set] at HM) | ((with_reducible refine iload ?_); first | refine ldb1 HM.out 0 rfl rfl rfl ?_ | refine ldb1 HM.out 1 rfl rfl rfl ?_ | refine ldb1 HM.out 2 rfl rfl rfl ?_ | refine ldbW HM.out 0 rfl rfl rfl ?_ | refine ldbW HM.out 1 rfl rfl rfl ?_ | refine ldbW HM.out 2 rfl rfl rfl ?_ | ((first | refine ldbS HM.out 0 rfl rfl rfl ?_ | refine ldbS HM.out 1 rfl rfl rfl ?_ | refine ldbS HM.out 2 rfl rfl rfl ?_); simp only [List.take, List.drop])) | ((with_reducible refine istore ?_); (first | ((first | refine stbW rfl HM.out 0 rfl rfl rfl rfl rfl rfl ?_ | refine stbW rfl HM.out 1 rfl rfl rfl rfl rfl rfl ?_ | refine stbW rfl HM.out 2 rfl rfl rfl rfl rfl rfl ?_); intro W1 HM1; replace HM := Lib.hid HM1; clear HM1; simp only [List.set] at HM) | ((first | refine stbS rfl HM.out 0 rfl rfl rfl rfl rfl rfl ?_ | refine stbS rfl HM.out 1 rfl rfl rfl rfl rfl rfl ?_ | refine stbS rfl HM.out 2 rfl rfl rfl rfl rfl rfl ?_); intro W1 HM1; replace HM := Lib.hid HM1; clear HM1; simp only [lss, Nat.reduceAdd] at HM))) | ((with_reducible refine ibuildSlice ?_); refine bs1A rfl HM.out rfl rfl rfl ?_; intro g1 W1 HM1; replace HM := Lib.hid HM1; clear HM1))
          go_roundw
          case rel => exact ⟨k + 1, p1, cap1, acc ++ [⟨tk, tz⟩], by go_num, by rw [List.length_append]; rfl, by omega, HL2, HA2, Lib.hid (by
            have h := HM.out
            rw [List.take_of_length_le (by rw [flat_len TyD.cs 2 TyD.cs_len]; omega)] at h
            rw [List.length_append, List.flatMap_append]
            exact h.sub (.cons _ (.refl _)))⟩
          case measure => simp [intOf]; omega
        · obtain rfl : k = x.length := by omega
          have d2 : decide ((x.length : Int) < x.length) = false := by simp
          have HAX := Lib.hid (show acc = partsTy parts tys i by rw [HAC.out, List.take_length]; unfold partsTy; rw [HXg.out])
          have hal := HAL.out
          by_cases h23 : n.op = 23
          · have hx2 : x.length = 2 := by have := kids_eq (m := 2) HKX.out (by rw [h23]; rfl) (by decide); omega
            obtain ⟨xa, xb, rfl⟩ := two_of hx2
            obtain ⟨ta, tc, rfl⟩ := two_of (hal.trans hx2)
            obtain ⟨ak, ao⟩ := ta
            obtain ⟨ck, co⟩ := tc
            have hta : (⟨ak, ao⟩ : TyD) = tyAt tys xa := by have h := HAC.out; simp at h; exact h.1
            have hxb : xb < N := by have := HXX.out xb (by simp); omega
            have hxa : (tyAt tys xa).form := by
              unfold tyAt
              rw [List.getD_eq_getElem?_getD]
              cases hk2 : tys[xa]? with
              | none => exact form_zero
              | some t => exact HTF.out t (List.mem_of_getElem? hk2)
            obtain ⟨lb, rfl⟩ : ∃ g, lq = some ⟨g, 0, none⟩ := row_some (HM.out.get (k := 0) rfl) (by simp)
            obtain ⟨xpb, rfl⟩ : ∃ g, xp = some ⟨g, 0, none⟩ := row_some (HM.out.holds _ (List.mem_cons_of_mem _ (List.mem_cons_of_mem _ HV2.out))) (by simp)
            obtain ⟨av, hav⟩ : ∃ av, [(⟨ak, ao⟩ : TyD), ⟨ck, co⟩].flatMap TyD.cs = av := ⟨_, rfl⟩
            have HAv := Lib.hid hav
            have HM1 := Lib.hid (show Mem w wr (.row (some ⟨lb, 0, none⟩) lc 25 2 2 av :: .row (some ⟨go_, 0, none⟩) N 25 2 N (tys.flatMap TyD.cs) :: T) from hav ▸ HM.out)
            clear HM hav
            have HM := HM1
            clear HM1
            obtain ⟨m, hm⟩ : ∃ m, fitF ns parts tys (xb + 1) xb ⟨ak, ao⟩ = m := ⟨_, rfl⟩
            have hst : stepR l ns parts i n tys = toldF m ⟨1, 0⟩ := by unfold stepR; rw [if_pos h23, HXg.out]; show toldF (fitF ns parts tys (xb + 1) xb (tyAt tys xa)) ⟨1, 0⟩ = _; rw [← hta, hm]
            have HFit := Lib.hid (fun (pc tc : Nat) (tp : Option Addr) (W : World) (hA : FitAt2 W (some b) ns (some ⟨gp, 0, none⟩) parts tp tys) => hm ▸ HFt.out (some ⟨gp, 0, none⟩) tp pc tc tys HTL.out HTF.out xb ⟨ak, ao⟩ W hxb (hta ▸ hxa) hA)
            have b23 : (n.op == 23) = true := by rw [h23]; rfl
            rw [hst] at HI2 HSF
            clear hta hxa hm hst hx2 hal HAC HAX HAL h23
            cases m
            · have HB := Lib.hid (show (9 : Int) = r.2 by rw [← HI2.out]; rfl)
              have H0 := Lib.hid (show (9 : Int) ≠ 0 by decide)
              go_wp2_with (first | ((with_reducible refine iat 47 ?_); (refine ixa rfl rfl rfl hlt ?_)) | ((with_reducible refine iat 49 ?_); (refine ldx0 (HM.out.olds E1.out) rfl rfl ?_)) | ((with_reducible refine iat 26 ?_); (refine ixa rfl rfl rfl hlt ?_)) | ((with_reducible refine iat 27 ?_); (refine ldx1 (row_cell (HM.out.holds _ (List.mem_cons_of_mem _ (List.mem_cons_of_mem _ HPI.out.1))) HV1.out) rfl ?_)))
              refine wp_region_steps2 [(true, 0), (true, 1), (true, 2), (true, 3), (true, 4), (true, 5), (true, 6), (true, 7), (true, 8), (true, 9), (true, 10), (true, 11), (true, 12), (true, 13), (false, 14), (false, 15), (true, 16), (true, 17), (true, 18), (true, 19), (false, 20), (true, 21)] (by kernel_rfl) (by kernel_rfl) rfl (by kernel_rfl) (fun _ _ _ _ _ h => h) HM.out _ (.cons_cons _ (.cons _ (.refl _))) ?_
              intro hNE W1 HM1; replace HM := Lib.hid HM1; clear HM1
              have HS0 := Lib.hid (HM.out.sub (.cons_cons _ (.cons _ (.refl _))))
              simp only [wpSteps, List.getElem?_cons_succ, List.getElem?_cons_zero]
              (repeat (first | ((with_reducible refine wpQuiet_nil ?_); (try dsimp only)) | ((with_reducible refine qload ?_); first | (refine qdb1 HS0.out 0 rfl rfl rfl ?_) | (refine qdbW HS0.out 0 rfl rfl rfl ?_) | (refine qdbS HS0.out 0 rfl rfl rfl ?_; simp only [List.take, List.drop])) | ((with_reducible refine qat 59 ?_); (refine qixa rfl rfl rfl hlt ?_)) | ((with_reducible refine qat 60 ?_); (refine qd1 rfl (fun W ⟨q, hq⟩ => hq ▸ row_cell (q.mem.holds _ (List.mem_cons_of_mem _ HPI.out.1)) HV1.out) ?_)) | ((with_reducible refine qat 61 ?_); (refine qixa (i := 1) rfl rfl rfl (by simp) ?_)) | ((with_reducible refine qat 62 ?_); (refine qd1 rfl (fun W ⟨q, hq⟩ => hq ▸ row_cell (i := 1) (v := .int .i64 (xb : Nat)) (q.mem.holds _ (List.mem_cons_of_mem _ HV2.out)) rfl) ?_)) | ((with_reducible refine qat 64 ?_); (refine qixa (i := 0) rfl rfl rfl (by simp) ?_)) | ((with_reducible refine qat 65 ?_); (refine qdA (vs := [.int .i64 ak, .int .i64 ao]) rfl rfl (fun W ⟨q, hq⟩ => hq ▸ two_el HAv.out (q.mem.get (k := 0) rfl)) ?_)) | go_big_quiet_step (fail) | quiet_step (fail)))
              go_wp2_with (first | (go_at_call 48; (with_reducible refine (HFit.out _ _ _ _ ⟨HM.out.sl HN.out, HPI.out.at_ (fun r hr => HM.out.holds r (by simp [hr])), sl_types HTL.out (HM.out.holds _ (List.mem_cons_of_mem _ (List.mem_cons_self ..)))⟩).mono ?_); rintro e W1 ⟨rfl, hb⟩; replace HM := Lib.hid (HM.out.next hb); clear hb) | ((with_reducible refine istore ?_); (refine strA (vs := [.int .i64 0, .int .i64 0]) (i := i * 2) rfl HM.out 1 rfl (by first | rfl | (rw [add_none, Nat.zero_add]; rfl)) rfl rfl (by intro u hu; simp at hu; rcases hu with rfl | rfl <;> rfl) (by rw [flat_len TyD.cs 2 TyD.cs_len, HTL.out]; show i * 2 + 2 ≤ N * 2; omega) ?_; intro W1 HM1; replace HM := Lib.hid HM1; clear HM1; simp only [List.set] at HM)))
              refine ⟨⟨⟨_, HM.out.sub (by repeat (first | exact List.nil_sublist _ | with_reducible exact List.Sublist.refl _ | with_reducible refine List.Sublist.cons_cons _ ?_ | refine List.Sublist.cons _ ?_))⟩, rfl⟩, ?_⟩
              (try dsimp only)
              go_wp2_with (first | (go_at_call 57; first | ((with_reducible refine (must_yes _ _).mono ?_); rintro e W1 ⟨rfl, hb⟩; replace HM := Lib.hid (HM.out.next hb); clear hb) | ((with_reducible refine (must_no _ _).mono ?_); rintro e W1 ⟨rfl, hb⟩; replace HM := Lib.hid (HM.out.next hb); clear hb)) | ((with_reducible refine istore ?_); (refine strA (vs := [.int .i64 0, .int .i64 0]) (i := i * 2) rfl HM.out 1 rfl (by first | rfl | (rw [add_none, Nat.zero_add]; rfl)) rfl rfl (by intro u hu; simp at hu; rcases hu with rfl | rfl <;> rfl) (by rw [flat_len TyD.cs 2 TyD.cs_len, HTL.out]; show i * 2 + 2 ≤ N * 2; omega) ?_; intro W1 HM1; replace HM := Lib.hid HM1; clear HM1; simp only [List.set] at HM)))
              refine ⟨⟨⟨_, HM.out.sub (by repeat (first | exact List.nil_sublist _ | with_reducible exact List.Sublist.refl _ | with_reducible refine List.Sublist.cons_cons _ ?_ | refine List.Sublist.cons _ ?_))⟩, rfl⟩, ?_⟩
              (try dsimp only)
              (repeat (first | ((with_reducible refine wpQuiet_nil ?_); (try dsimp only)) | ((with_reducible refine qat 70 ?_); (refine qixa rfl rfl rfl hlt ?_)) | go_big_quiet_step (fail) | quiet_step (fail)))
              go_wp2_with (first | ((with_reducible refine istore ?_); (refine strA (vs := [.int .i64 0, .int .i64 0]) (i := i * 2) rfl HM.out 1 rfl (by first | rfl | (rw [add_none, Nat.zero_add]; rfl)) rfl rfl (by intro u hu; simp at hu; rcases hu with rfl | rfl <;> rfl) (by rw [flat_len TyD.cs 2 TyD.cs_len, HTL.out]; show i * 2 + 2 ≤ N * 2; omega) ?_; intro W1 HM1; replace HM := Lib.hid HM1; clear HM1; simp only [List.set] at HM)))
              refine ⟨⟨⟨_, HM.out.sub (by repeat (first | exact List.nil_sublist _ | with_reducible exact List.Sublist.refl _ | with_reducible refine List.Sublist.cons_cons _ ?_ | refine List.Sublist.cons _ ?_))⟩, rfl⟩, ?_⟩
              (try dsimp only)
              (repeat (first | ((with_reducible refine wpQuiet_nil ?_); (try dsimp only)) | go_big_quiet_step (fail) | quiet_step (fail)))
              clear HS0 hNE
              go_wp2_with fail
              go_ret2
              exact types_err HB.out H0.out rfl HM.out.below
            · have HB := Lib.hid (show typesR l ns parts (ns.drop (i + 1)) (i + 1) (tys.set i ⟨1, 0⟩) = r by rw [← HI2.out]; rfl)
              have HSR := Lib.hid (show TyD.form ⟨1, 0⟩ from HSF.out)
              go_wp2_with (first | ((with_reducible refine iat 47 ?_); (refine ixa rfl rfl rfl hlt ?_)) | ((with_reducible refine iat 49 ?_); (refine ldx0 (HM.out.olds E1.out) rfl rfl ?_)) | ((with_reducible refine iat 26 ?_); (refine ixa rfl rfl rfl hlt ?_)) | ((with_reducible refine iat 27 ?_); (refine ldx1 (row_cell (HM.out.holds _ (List.mem_cons_of_mem _ (List.mem_cons_of_mem _ HPI.out.1))) HV1.out) rfl ?_)))
              refine wp_region_steps2 [(true, 0), (true, 1), (true, 2), (true, 3), (true, 4), (true, 5), (true, 6), (true, 7), (true, 8), (true, 9), (true, 10), (true, 11), (true, 12), (true, 13), (false, 14), (false, 15), (true, 16), (true, 17), (true, 18), (true, 19), (false, 20), (true, 21)] (by kernel_rfl) (by kernel_rfl) rfl (by kernel_rfl) (fun _ _ _ _ _ h => h) HM.out _ (.cons_cons _ (.cons _ (.refl _))) ?_
              intro hNE W1 HM1; replace HM := Lib.hid HM1; clear HM1
              have HS0 := Lib.hid (HM.out.sub (.cons_cons _ (.cons _ (.refl _))))
              simp only [wpSteps, List.getElem?_cons_succ, List.getElem?_cons_zero]
              (repeat (first | ((with_reducible refine wpQuiet_nil ?_); (try dsimp only)) | ((with_reducible refine qload ?_); first | (refine qdb1 HS0.out 0 rfl rfl rfl ?_) | (refine qdbW HS0.out 0 rfl rfl rfl ?_) | (refine qdbS HS0.out 0 rfl rfl rfl ?_; simp only [List.take, List.drop])) | ((with_reducible refine qat 59 ?_); (refine qixa rfl rfl rfl hlt ?_)) | ((with_reducible refine qat 60 ?_); (refine qd1 rfl (fun W ⟨q, hq⟩ => hq ▸ row_cell (q.mem.holds _ (List.mem_cons_of_mem _ HPI.out.1)) HV1.out) ?_)) | ((with_reducible refine qat 61 ?_); (refine qixa (i := 1) rfl rfl rfl (by simp) ?_)) | ((with_reducible refine qat 62 ?_); (refine qd1 rfl (fun W ⟨q, hq⟩ => hq ▸ row_cell (i := 1) (v := .int .i64 (xb : Nat)) (q.mem.holds _ (List.mem_cons_of_mem _ HV2.out)) rfl) ?_)) | ((with_reducible refine qat 64 ?_); (refine qixa (i := 0) rfl rfl rfl (by simp) ?_)) | ((with_reducible refine qat 65 ?_); (refine qdA (vs := [.int .i64 ak, .int .i64 ao]) rfl rfl (fun W ⟨q, hq⟩ => hq ▸ two_el HAv.out (q.mem.get (k := 0) rfl)) ?_)) | go_big_quiet_step (fail) | quiet_step (fail)))
              go_wp2_with (first | (go_at_call 48; (with_reducible refine (HFit.out _ _ _ _ ⟨HM.out.sl HN.out, HPI.out.at_ (fun r hr => HM.out.holds r (by simp [hr])), sl_types HTL.out (HM.out.holds _ (List.mem_cons_of_mem _ (List.mem_cons_self ..)))⟩).mono ?_); rintro e W1 ⟨rfl, hb⟩; replace HM := Lib.hid (HM.out.next hb); clear hb) | ((with_reducible refine istore ?_); (refine strA (vs := [.int .i64 1, .int .i64 0]) (i := i * 2) rfl HM.out 1 rfl (by first | rfl | (rw [add_none, Nat.zero_add]; rfl)) rfl rfl (by intro u hu; simp at hu; rcases hu with rfl | rfl <;> rfl) (by rw [flat_len TyD.cs 2 TyD.cs_len, HTL.out]; show i * 2 + 2 ≤ N * 2; omega) ?_; intro W1 HM1; replace HM := Lib.hid HM1; clear HM1; simp only [List.set] at HM)))
              refine ⟨⟨⟨_, HM.out.sub (by repeat (first | exact List.nil_sublist _ | with_reducible exact List.Sublist.refl _ | with_reducible refine List.Sublist.cons_cons _ ?_ | refine List.Sublist.cons _ ?_))⟩, rfl⟩, ?_⟩
              (try dsimp only)
              go_wp2_with (first | (go_at_call 57; first | ((with_reducible refine (must_yes _ _).mono ?_); rintro e W1 ⟨rfl, hb⟩; replace HM := Lib.hid (HM.out.next hb); clear hb) | ((with_reducible refine (must_no _ _).mono ?_); rintro e W1 ⟨rfl, hb⟩; replace HM := Lib.hid (HM.out.next hb); clear hb)) | ((with_reducible refine istore ?_); (refine strA (vs := [.int .i64 1, .int .i64 0]) (i := i * 2) rfl HM.out 1 rfl (by first | rfl | (rw [add_none, Nat.zero_add]; rfl)) rfl rfl (by intro u hu; simp at hu; rcases hu with rfl | rfl <;> rfl) (by rw [flat_len TyD.cs 2 TyD.cs_len, HTL.out]; show i * 2 + 2 ≤ N * 2; omega) ?_; intro W1 HM1; replace HM := Lib.hid HM1; clear HM1; simp only [List.set] at HM)))
              refine ⟨⟨⟨_, HM.out.sub (by repeat (first | exact List.nil_sublist _ | with_reducible exact List.Sublist.refl _ | with_reducible refine List.Sublist.cons_cons _ ?_ | refine List.Sublist.cons _ ?_))⟩, rfl⟩, ?_⟩
              (try dsimp only)
              (repeat (first | ((with_reducible refine wpQuiet_nil ?_); (try dsimp only)) | ((with_reducible refine qat 70 ?_); (refine qixa rfl rfl rfl hlt ?_)) | go_big_quiet_step (fail) | quiet_step (fail)))
              go_wp2_with (first | ((with_reducible refine istore ?_); (refine strA (vs := [.int .i64 1, .int .i64 0]) (i := i * 2) rfl HM.out 1 rfl (by first | rfl | (rw [add_none, Nat.zero_add]; rfl)) rfl rfl (by intro u hu; simp at hu; rcases hu with rfl | rfl <;> rfl) (by rw [flat_len TyD.cs 2 TyD.cs_len, HTL.out]; show i * 2 + 2 ≤ N * 2; omega) ?_; intro W1 HM1; replace HM := Lib.hid HM1; clear HM1; simp only [List.set] at HM)))
              refine ⟨⟨⟨_, HM.out.sub (by repeat (first | exact List.nil_sublist _ | with_reducible exact List.Sublist.refl _ | with_reducible refine List.Sublist.cons_cons _ ?_ | refine List.Sublist.cons _ ?_))⟩, rfl⟩, ?_⟩
              (try dsimp only)
              (repeat (first | ((with_reducible refine wpQuiet_nil ?_); (try dsimp only)) | go_big_quiet_step (fail) | quiet_step (fail)))
              clear HS0 hNE
              go_wp2_with fail
              go_roundw
              case rel => exact ⟨i + 1, tys.set i ⟨1, 0⟩, .row (some ⟨lb, 0, none⟩) lc 25 2 2 av :: T, by go_num, hlt3.out, HB, Lib.hid (by rw [List.length_set]; exact HTL.out), Lib.hid (fun t ht => by
                rcases List.mem_or_eq_of_mem_set ht with ht | rfl
                · exact HTF.out t ht
                · exact HSR.out), Lib.hid (HPI.out.mono (fun r hr => List.mem_cons_of_mem _ hr)), Lib.hid (by
                  have h := HM.out
                  change Mem _ _ (_ :: .row _ _ _ _ _ ((tys.flatMap TyD.cs).take (i * 2) ++ [Value.int .i64 1, Value.int .i64 0] ++ (tys.flatMap TyD.cs).drop (i * 2 + 2)) :: _) at h
                  rw [show (tys.flatMap TyD.cs).take (i * 2) ++ [Value.int .i64 1, Value.int .i64 0] ++ (tys.flatMap TyD.cs).drop (i * 2 + 2) = (tys.set i ⟨1, 0⟩).flatMap TyD.cs from set_flat tys i ⟨1, 0⟩ (by rw [HTL.out]; exact hlt)] at h
                  exact h.perm (List.Perm.swap _ _ _))⟩
              case measure => have := hlt3.out; clear HI2; simp [intOf]; omega
          · obtain ⟨⟨⟨rk, ro⟩, re⟩, hre⟩ : ∃ z, stepR l ns parts i n tys = z := ⟨_, rfl⟩
            have hst : typedF l n.op n.text (bare acc) = (⟨rk, ro⟩, re) := by rw [← hre]; unfold stepR; rw [if_neg h23, HAX.out]
            have hacf : ∀ t, t ∈ acc → t.form := fun t ht => by
              rw [HAX.out] at ht
              obtain ⟨k, _, rfl⟩ := List.mem_map.1 ht
              unfold tyAt
              rw [List.getD_eq_getElem?_getD]
              cases hk2 : tys[k]? with
              | none => exact form_zero
              | some t => exact HTF.out t (List.mem_of_getElem? hk2)
            have HSm := Lib.hid (fun W (h1 : Sl W lq (acc.flatMap TyD.cs)) (h2 : Sl W q (l.flatMap SymD.cs)) => (show Calls Tryd.prog 58 #[.agg n.cs.toArray, .slice lq acc.length lc, .slice q l.length c2] W fun e w' => e = .returned (.tuple #[.agg #[.int .i64 rk, .int .i64 ro], .int .i64 re]) ∧ Below W.heap.size W w' from by
              have h3 := simple_any q c2 l n lq lc acc W h23 h1 hacf (by rw [hal]; exact HKX.out) h2 (by omega) hl2
              rw [hst] at h3
              exact h3))
            have b23 : (n.op == 23) = false := beq_false_of_ne h23
            rw [hre] at HI2 HSF
            have HSR := Lib.hid (show TyD.form ⟨rk, ro⟩ from HSF.out)
            clear hre hst hacf h23 hal HAX HAL HAC
            by_cases h0 : re = 0
            · subst h0
              have HB := Lib.hid (show typesR l ns parts (ns.drop (i + 1)) (i + 1) (tys.set i ⟨rk, ro⟩) = r by rw [← HI2.out]; rfl)
              go_wp2_with (first | ((with_reducible refine iat 26 ?_); (refine ixa rfl rfl rfl hlt ?_)) | ((with_reducible refine iat 27 ?_); (refine ldx1 (row_cell (HM.out.holds _ (List.mem_cons_of_mem _ (List.mem_cons_of_mem _ HPI.out.1))) HV1.out) rfl ?_)) | ((with_reducible refine iat 47 ?_); (refine ixa rfl rfl rfl hlt ?_)) | ((with_reducible refine iat 49 ?_); (refine ldx0 (HM.out.olds E1.out) rfl rfl ?_)) | ((with_reducible refine iat 76 ?_); (refine ixa rfl rfl rfl hlt ?_)) | ((with_reducible refine iat 77 ?_); (refine ldxW (HM.out.olds E1.out) rfl rfl ?_)) | ((with_reducible refine iat 83 ?_); (refine ixa rfl rfl rfl hlt ?_)) | (go_at_call 58; (with_reducible refine (HSm.out _ (sl_row TyD.cs 2 TyD.cs_len (HM.out.holds _ (List.mem_cons_self ..))) (HM.out.sl HL.out)).mono ?_); rintro e W1 ⟨rfl, hb⟩; replace HM := Lib.hid (HM.out.next hb); clear hb) | ((with_reducible refine istore ?_); (refine strA (vs := [.int .i64 rk, .int .i64 ro]) (i := i * 2) rfl HM.out 1 rfl (by first | rfl | (rw [add_none, Nat.zero_add]; rfl)) rfl rfl (by intro u hu; simp at hu; rcases hu with rfl | rfl <;> rfl) (by rw [flat_len TyD.cs 2 TyD.cs_len, HTL.out]; show i * 2 + 2 ≤ N * 2; omega) ?_; intro W1 HM1; replace HM := Lib.hid HM1; clear HM1; simp only [List.set] at HM)))
              go_roundw
              case rel => exact ⟨i + 1, tys.set i ⟨rk, ro⟩, .row lq lc 25 2 acc.length (acc.flatMap TyD.cs) :: T, by go_num, hlt3.out, HB, Lib.hid (by rw [List.length_set]; exact HTL.out), Lib.hid (fun t ht => by
                rcases List.mem_or_eq_of_mem_set ht with ht | rfl
                · exact HTF.out t ht
                · exact HSR.out), Lib.hid (HPI.out.mono (fun r hr => List.mem_cons_of_mem _ hr)), Lib.hid (by
                  have h := HM.out
                  change Mem _ _ (_ :: .row _ _ _ _ _ ((tys.flatMap TyD.cs).take (i * 2) ++ [Value.int .i64 rk, Value.int .i64 ro] ++ (tys.flatMap TyD.cs).drop (i * 2 + 2)) :: _) at h
                  rw [show (tys.flatMap TyD.cs).take (i * 2) ++ [Value.int .i64 rk, Value.int .i64 ro] ++ (tys.flatMap TyD.cs).drop (i * 2 + 2) = (tys.set i ⟨rk, ro⟩).flatMap TyD.cs from set_flat tys i ⟨rk, ro⟩ (by rw [HTL.out]; exact hlt)] at h
                  exact h.perm (List.Perm.swap _ _ _))⟩
              case measure => have := hlt3.out; clear HI2; simp [intOf]; omega
            · have HB := Lib.hid (show re = r.2 by rw [← HI2.out, if_neg h0])
              have H0 := Lib.hid h0
              have b0 : (re != 0) = true := by simpa using h0
              clear h0
              go_wp2_with (first | ((with_reducible refine iat 26 ?_); (refine ixa rfl rfl rfl hlt ?_)) | ((with_reducible refine iat 27 ?_); (refine ldx1 (row_cell (HM.out.holds _ (List.mem_cons_of_mem _ (List.mem_cons_of_mem _ HPI.out.1))) HV1.out) rfl ?_)) | ((with_reducible refine iat 47 ?_); (refine ixa rfl rfl rfl hlt ?_)) | ((with_reducible refine iat 49 ?_); (refine ldx0 (HM.out.olds E1.out) rfl rfl ?_)) | ((with_reducible refine iat 76 ?_); (refine ixa rfl rfl rfl hlt ?_)) | ((with_reducible refine iat 77 ?_); (refine ldxW (HM.out.olds E1.out) rfl rfl ?_)) | ((with_reducible refine iat 83 ?_); (refine ixa rfl rfl rfl hlt ?_)) | (go_at_call 58; (with_reducible refine (HSm.out _ (sl_row TyD.cs 2 TyD.cs_len (HM.out.holds _ (List.mem_cons_self ..))) (HM.out.sl HL.out)).mono ?_); rintro e W1 ⟨rfl, hb⟩; replace HM := Lib.hid (HM.out.next hb); clear hb) | ((with_reducible refine istore ?_); (refine strA (vs := [.int .i64 rk, .int .i64 ro]) (i := i * 2) rfl HM.out 1 rfl (by first | rfl | (rw [add_none, Nat.zero_add]; rfl)) rfl rfl (by intro u hu; simp at hu; rcases hu with rfl | rfl <;> rfl) (by rw [flat_len TyD.cs 2 TyD.cs_len, HTL.out]; show i * 2 + 2 ≤ N * 2; omega) ?_; intro W1 HM1; replace HM := Lib.hid HM1; clear HM1; simp only [List.set] at HM)))
              go_ret2
              exact types_err HB.out H0.out rfl HM.out.below
    · obtain rfl : i = N := by omega
      have hr : r = (tys, 0) := by rw [← HI.out, List.drop_of_length_le (by rw [HNl.out]; exact Nat.le_refl _)]; rfl
      subst hr
      have d1 : decide ((i : Int) < i) = false := by simp
      go_wp2
      go_ret2
      unfold TypesPost
      rw [if_pos rfl]
      exact ⟨go_, T, rfl, HM.out⟩
end Go.Proofs.YtpjcjgikfplgnaaDoor
