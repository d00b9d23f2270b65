/- Is a value in form: the reference. (short) -/
import Derived.Test.YtgobdcmoelcckaaGreatDoorValD2
import Derived.Test.YtgobdcmoelcckaaGreatDoorValOwn
import Derived.Test.YtgobdcmoelcckaaGreatDoorWideA
import Derived.Test.YtgobdcmoelcckaaGreatDoorCharsA
import Derived.Test.YtgobdcmoelcckaaGreatDoorDateWalks
namespace Go.Proofs.YtgobdcmoelcckaaGreatDoor
open Go.RowKit
set_option linter.unusedVariables false
set_option linter.unusedSimpArgs false
set_option maxRecDepth 100000

theorem bare_ns {k : Int} {y ng : Bool} {hi lo : Nat} {sc : Int} {t : ByteArray} {d : Int} {ll nl : Nat} (h : bareB k y ng hi lo sc t d ll nl = true) (hk : k ≠ 6) : nl = 0 := by
  unfold bareB at h
  simp only [Bool.and_eq_true, Bool.or_eq_true, decide_eq_true_eq] at h
  rcases h.1.2 with h1 | h1
  · exact h1
  · exact absurd h1 hk
theorem namesB_bad {l : List ByteArray} {i k : Nat} {x z : ByteArray} (hx : l[i]? = some x) (hz : l[k]? = some z) (hki : k < i) (e : z.toList = x.toList) : namesB l = false := by
  cases h : namesB l with
  | false => rfl
  | true =>
    unfold namesB at h
    simp only [Bool.and_eq_true, decide_eq_true_eq] at h
    have h1 : (l.map (·.toList))[i]? = some x.toList := by rw [List.getElem?_map, hx]; rfl
    have h2 : (l.map (·.toList))[k]? = some x.toList := by rw [List.getElem?_map, hz, ← e]; rfl
    obtain ⟨a, ha⟩ := List.getElem?_eq_some_iff.1 h1
    obtain ⟨b, hb⟩ := List.getElem?_eq_some_iff.1 h2
    have := (List.getElem_inj h.2).1 (ha.trans hb.symm)
    omega
theorem namesB_no {l : List ByteArray} {i : Nat} {x : ByteArray} (hx : l[i]? = some x) (h : nameB x = false) : namesB l = false := by
  unfold namesB
  have : l.all nameB = false := by
    rw [List.all_eq_false]
    exact ⟨x, List.mem_of_getElem? hx, by simp [h]⟩
  rw [this]; rfl
theorem namesB_next {l : List ByteArray} {i : Nat} {x : ByteArray} (hx : l[i]? = some x) (h : namesB (l.take i) = true) (hn : nameB x = true) (hne : ∀ (j : Nat) (z : ByteArray), j < i → l[j]? = some z → z.toList ≠ x.toList) : namesB (l.take (i + 1)) = true := by
  rw [take_get hx, namesB_snoc, h, hn]
  have : ¬ 0 ≤ idxI (l.take i) x := by
    rw [has_idx]
    intro hm
    obtain ⟨z, hz, e⟩ := List.mem_map.1 hm
    obtain ⟨j, hj⟩ := List.mem_iff_getElem?.1 hz
    rw [List.getElem?_take] at hj
    split at hj
    · exact hne j z (by assumption) hj e
    · cases hj
  simp [this]

theorem dcd_w2' {ng : Bool} {hi lo : Nat} {sc : Int} (h1 : hi < 2 ^ 64) (h2 : lo < 2 ^ 64) : W2 (DcD.mk ng hi lo sc).n hi lo := ⟨rfl, h2, h1⟩
theorem own_bare {k : Int} {num : DcD} {t : ByteArray} {d : Int} {ll : Nat} {ns : List ByteArray} {o : Bool} (h : ownB false k num t d ll ns = o) : o = false := by rw [← h]; rfl
theorem own_out {a : Bool} {k : Int} {num : DcD} {t : ByteArray} {d : Int} {ll : Nat} {ns : List ByteArray} {o : Bool} (hk : k < 0 ∨ 6 < k) (h : ownB a k num t d ll ns = o) : o = false := by
  have h0 := own_cases a k num t d ll ns
  rw [h] at h0
  cases h0 <;> first | assumption | omega
def CutA (k : Int) (a o : Bool) (bv : Value) : Prop := (bv = .bool true ∧ o = false) ∨ (bv = .bool false ∧ 0 ≤ k ∧ k ≤ 6 ∧ a = true)
def CutB (k : Int) (o fn : Bool) (nl ll : Nat) (bv : Value) : Prop := (bv = .bool true ∧ o = false) ∨ (bv = .bool false ∧ (k ≠ 6 → o = fn) ∧ (k = 6 → (nl = ll ∧ o = fn) ∨ (nl ≠ ll ∧ o = false)))
def CutC (o fn : Bool) (bv : Value) : Prop := (bv = .bool true ∧ o = false) ∨ (bv = .bool false ∧ o = fn)
theorem names_none {ns : List ByteArray} (h : ns.length = 0) : namesB ns = true := by
  rw [List.eq_nil_of_length_eq_zero h]; simp [namesB]
set_option maxHeartbeats 16000000 in
theorem rform_any : ∀ (N : Nat) (v : VD), v.parts ≤ N → ∀ (cs : List Value) (w : World), v.at w cs → v.wf 1048576 → Calls Tryz.prog 44 #[.agg cs.toArray] w fun e w' => e = .returned (.bool v.form) ∧ RowKit.Below w.heap.size w w'
  | 0, v, hN, _, _, _, _ => by have := v.parts_pos; omega
  | N + 1, .mk k y ⟨ng, hi, lo, sc⟩ t d l ns, hN, cs, w, hv, hwf => by
    have IH := Lib.hid (fun v h => rform_any N v h)
    simp only [VD.at, vcs] at hv
    simp only [VD.wf] at hwf
    obtain ⟨lp, np, lc, nc, ls, rfl, hcp, hS, hL, ha⟩ := hv
    obtain ⟨hh, hlw, htz, hll, hnl, hns, hwl⟩ := hwf
    simp only [VD.parts] at hN
    have hform : (VD.mk k y ⟨ng, hi, lo, sc⟩ t d l ns).form = ((VD.mk k y ⟨ng, hi, lo, sc⟩ t d l ns).own && VD.formL l) := by simp only [VD.form]
    rw [hform, own_eq, bareB_eq]
    simp only [VD.k, VD.num, VD.text, VD.day, VD.l, VD.ns]
    have HL := Lib.hid hL
    have HS := Lib.hid hS
    have HAt := Lib.hid ha
    have HW := Lib.hid hwl
    have HW2 := Lib.hid (dcd_w2' (ng := ng) (sc := sc) hh hlw)
    have HM := Lib.hid (Mem.start w)
    obtain ⟨a, hA⟩ : ∃ a, bareB k y ng hi lo sc t d l.length ns.length = a := ⟨_, rfl⟩
    have HB := Lib.hid (fun h0 h6 W => hA ▸ rbare_any k y ng hi lo sc t d lp l.length lc np ns.length nc W h0 h6)
    rw [hA]
    have hoc := own_cases a k ⟨ng, hi, lo, sc⟩ t d l.length ns
    have HV := Lib.hid (fun W => rValid_any t W (by omega))
    have HD := Lib.hid (fun W => rForm_any ng _ hi lo sc W HW2.out)
    have hi3 := fun (h : d < 1 ∨ 3652059 < d) W => (show Calls Tryz.prog 72 #[.int .i64 d] W fun e w' => e = .returned (.bool false) ∧ W = w' from by
      have := ris_any d W
      rwa [(Cal.isB_not d).2 (by omega)] at this)
    have hi4 := fun (h : 1 ≤ d) (h' : d ≤ 3652059) W => (show Calls Tryz.prog 72 #[.int .i64 d] W fun e w' => e = .returned (.bool true) ∧ W = w' from by
      have := ris_any d W
      rwa [(Cal.isB_iff d).2 ⟨h, h'⟩] at this)
    have HJ3 := Lib.hid hi3
    have HJ4 := Lib.hid hi4
    obtain ⟨fd, hfd⟩ : ∃ b, dcmB ng (DcD.mk ng hi lo sc).n sc = b := ⟨_, rfl⟩
    obtain ⟨fv, hfv⟩ : ∃ b, textB t = b := ⟨_, rfl⟩
    obtain ⟨fn, hfn⟩ : ∃ b, namesB ns = b := ⟨_, rfl⟩
    rw [hfv, hfn] at hoc
    rw [show dcmB (DcD.mk ng hi lo sc).neg (DcD.mk ng hi lo sc).n (DcD.mk ng hi lo sc).sc = fd from hfd] at hoc
    rw [hfd] at HD
    rw [hfv] at HV
    have HFN := Lib.hid hfn
    have HNS := Lib.hid (show a = true → k ≠ 6 → fn = true from fun h1 h2 => by
      rw [h1] at hA
      rw [← hfn]
      exact names_none (bare_ns hA h2))
    obtain ⟨o, hO⟩ : ∃ o, ownB a k ⟨ng, hi, lo, sc⟩ t d l.length ns = o := ⟨_, rfl⟩
    have HOO := Lib.hid hO
    rw [hO] at hoc ⊢
    obtain ⟨f, hF⟩ : ∃ f, (o && VD.formL l) = f := ⟨_, rfl⟩
    rw [hF]
    have HF := Lib.hid hF
    clear hS hL ha hwl hform hA hO hF hh hlw hns hcp hfd hfv hfn HW2 hi3 hi4
    go_enter Tryz.func44, Tryz.ntmps44
    go_upto_region 1 with (first | ((with_reducible refine skip_op ?_ ?_); exact rfl) | refine mP ?_ | ((with_reducible refine iat 1 ?_); refine mB ?_; clear HM; intro g1 W1 HM))
    go_cut [18] (fun bv wc => CutA k a o bv ∧ Hid (Mem w wc [.box g1 30 [.int .i64 k, .bool y, .bool ng, .int .u64 hi, .int .u64 lo, .int .i64 sc, .string t, .int .i64 d, .slice lp l.length lc, .slice np ns.length nc]]))
    case first =>
      have hk : k < 0 ∨ 6 < k ∨ (0 ≤ k ∧ k ≤ 6) := by omega
      rcases hk with hk | hk | ⟨hk, hk6⟩
      · as_aux_lemma =>
        have HO := Lib.hid (own_out (by omega) HOO.out)
        go_wp2_with (first | ((with_reducible refine skip_op ?_ ?_); exact rfl) | refine mP ?_ | ((with_reducible refine iat 1 ?_); refine mB ?_; clear HM; intro g1 W1 HM) | (go_at_call 69; (with_reducible refine cB HM (HB.out (by omega) (by omega) _) ?_); clear HM; intro W1 HM))
        go_meet
        case rel => exact ⟨.inl ⟨rfl, HO.out⟩, HM⟩
      · as_aux_lemma =>
        have HO := Lib.hid (own_out (by omega) HOO.out)
        go_wp2_with (first | ((with_reducible refine skip_op ?_ ?_); exact rfl) | refine mP ?_ | ((with_reducible refine iat 1 ?_); refine mB ?_; clear HM; intro g1 W1 HM) | (go_at_call 69; (with_reducible refine cB HM (HB.out (by omega) (by omega) _) ?_); clear HM; intro W1 HM))
        go_meet
        case rel => exact ⟨.inl ⟨rfl, HO.out⟩, HM⟩
      · cases a
        · as_aux_lemma =>
          have HO := Lib.hid (own_bare HOO.out)
          go_wp2_with (first | ((with_reducible refine skip_op ?_ ?_); exact rfl) | refine mP ?_ | ((with_reducible refine iat 1 ?_); refine mB ?_; clear HM; intro g1 W1 HM) | (go_at_call 69; (with_reducible refine cB HM (HB.out (by omega) (by omega) _) ?_); clear HM; intro W1 HM))
          go_meet
          case rel => exact ⟨.inl ⟨rfl, HO.out⟩, HM⟩
        · as_aux_lemma =>
          go_wp2_with (first | ((with_reducible refine skip_op ?_ ?_); exact rfl) | refine mP ?_ | ((with_reducible refine iat 1 ?_); refine mB ?_; clear HM; intro g1 W1 HM) | (go_at_call 69; (with_reducible refine cB HM (HB.out (by omega) (by omega) _) ?_); clear HM; intro W1 HM))
          go_meet
          case rel => exact ⟨.inr ⟨by first | rfl | (congr 1; simp; omega), by omega, by omega, rfl⟩, HM⟩
    case rest =>
      clear HM
      obtain ⟨⟨rfl, hO⟩ | ⟨rfl, hk0, hk6, rfl⟩, HM⟩ := hcut
      · as_aux_lemma =>
        have HE := Lib.hid (show f = false by rw [← HF.out, hO]; rfl)
        clear hO
        go_wp2
        go_ret
        exact ⟨by rw [HE.out]; rfl, HM.out.below⟩
      go_upto_region 3 with (fail)
      go_cut [55] (fun bv wc => CutB k o fn ns.length l.length bv ∧ Hid (Mem w wc [.box g1 30 [.int .i64 k, .bool y, .bool ng, .int .u64 hi, .int .u64 lo, .int .i64 sc, .string t, .int .i64 d, .slice lp l.length lc, .slice np ns.length nc]]))
      case first =>
        cases hoc
        case c0 h1 h2 hO => as_aux_lemma =>
          have HO := Lib.hid hO
          clear hO
          have HG := Lib.hid (show o = fn by rw [HO.out, HNS.out rfl (by omega)])
          obtain rfl : k = 0 := by omega
          clear h1 h2
          go_wp2_with (first | ((with_reducible refine skip_op ?_ ?_); exact rfl) | refine mP ?_ | ((with_reducible refine iat 1 ?_); refine mB ?_; clear HM; intro g1 W1 HM) | (go_at_call 70; (with_reducible refine cB HM (HD.out _) ?_); clear HM; intro W1 HM) | (go_at_call 71; (with_reducible refine cB HM (HV.out _) ?_); clear HM; intro W1 HM))
          go_meet
          case rel => exact ⟨.inr ⟨by first | rfl | (congr 1; exact decide_eq_false (by omega)), fun _ => HG.out, fun h => absurd h (by omega)⟩, HM⟩
        case c1 h1 h2 hO => as_aux_lemma =>
          have HO := Lib.hid hO
          clear hO
          have HG := Lib.hid (show o = fn by rw [HO.out, HNS.out rfl (by omega)])
          obtain rfl : k = 1 := by omega
          clear h1 h2
          go_wp2_with (first | ((with_reducible refine skip_op ?_ ?_); exact rfl) | refine mP ?_ | ((with_reducible refine iat 1 ?_); refine mB ?_; clear HM; intro g1 W1 HM) | (go_at_call 70; (with_reducible refine cB HM (HD.out _) ?_); clear HM; intro W1 HM) | (go_at_call 71; (with_reducible refine cB HM (HV.out _) ?_); clear HM; intro W1 HM))
          go_meet
          case rel => exact ⟨.inr ⟨by first | rfl | (congr 1; exact decide_eq_false (by omega)), fun _ => HG.out, fun h => absurd h (by omega)⟩, HM⟩
        case c5 h1 h2 hO => as_aux_lemma =>
          have HO := Lib.hid hO
          clear hO
          have HG := Lib.hid (show o = fn by rw [HO.out, HNS.out rfl (by omega)])
          obtain rfl : k = 5 := by omega
          clear h1 h2
          go_wp2_with (first | ((with_reducible refine skip_op ?_ ?_); exact rfl) | refine mP ?_ | ((with_reducible refine iat 1 ?_); refine mB ?_; clear HM; intro g1 W1 HM) | (go_at_call 70; (with_reducible refine cB HM (HD.out _) ?_); clear HM; intro W1 HM) | (go_at_call 71; (with_reducible refine cB HM (HV.out _) ?_); clear HM; intro W1 HM))
          go_meet
          case rel => exact ⟨.inr ⟨by first | rfl | (congr 1; exact decide_eq_false (by omega)), fun _ => HG.out, fun h => absurd h (by omega)⟩, HM⟩
        case c2 h1 h2 hO =>
          cases fd
          · as_aux_lemma =>
            have HO := Lib.hid hO
            clear hO
            obtain rfl : k = 2 := by omega
            clear h1 h2
            go_wp2_with (first | ((with_reducible refine skip_op ?_ ?_); exact rfl) | refine mP ?_ | ((with_reducible refine iat 1 ?_); refine mB ?_; clear HM; intro g1 W1 HM) | (go_at_call 70; (with_reducible refine cB HM (HD.out _) ?_); clear HM; intro W1 HM) | (go_at_call 71; (with_reducible refine cB HM (HV.out _) ?_); clear HM; intro W1 HM))
            go_meet
            case rel => exact ⟨.inl ⟨rfl, HO.out⟩, HM⟩
          · as_aux_lemma =>
            have HO := Lib.hid hO
            clear hO
            have HG := Lib.hid (show o = fn by rw [HO.out, HNS.out rfl (by omega)])
            obtain rfl : k = 2 := by omega
            clear h1 h2
            go_wp2_with (first | ((with_reducible refine skip_op ?_ ?_); exact rfl) | refine mP ?_ | ((with_reducible refine iat 1 ?_); refine mB ?_; clear HM; intro g1 W1 HM) | (go_at_call 70; (with_reducible refine cB HM (HD.out _) ?_); clear HM; intro W1 HM) | (go_at_call 71; (with_reducible refine cB HM (HV.out _) ?_); clear HM; intro W1 HM))
            go_meet
            case rel => exact ⟨.inr ⟨by first | rfl | (congr 1; exact decide_eq_false (by omega)), fun _ => HG.out, fun h => absurd h (by omega)⟩, HM⟩
        case c3a h1 h2 h3 hO =>
          cases fv
          · as_aux_lemma =>
            have HO := Lib.hid hO
            clear hO
            obtain rfl : k = 3 := by omega
            clear h1 h2
            go_wp2_with (first | ((with_reducible refine skip_op ?_ ?_); exact rfl) | refine mP ?_ | ((with_reducible refine iat 1 ?_); refine mB ?_; clear HM; intro g1 W1 HM) | (go_at_call 70; (with_reducible refine cB HM (HD.out _) ?_); clear HM; intro W1 HM) | (go_at_call 71; (with_reducible refine cB HM (HV.out _) ?_); clear HM; intro W1 HM))
            go_meet
            case rel => exact ⟨.inl ⟨rfl, HO.out⟩, HM⟩
          · as_aux_lemma =>
            have HO := Lib.hid hO
            clear hO
            obtain rfl : k = 3 := by omega
            clear h1 h2
            go_wp2_with (first | ((with_reducible refine skip_op ?_ ?_); exact rfl) | refine mP ?_ | ((with_reducible refine iat 1 ?_); refine mB ?_; clear HM; intro g1 W1 HM) | (go_at_call 70; (with_reducible refine cB HM (HD.out _) ?_); clear HM; intro W1 HM) | (go_at_call 71; (with_reducible refine cB HM (HV.out _) ?_); clear HM; intro W1 HM))
            go_meet
            case rel => exact ⟨.inl ⟨rfl, HO.out⟩, HM⟩
        case c3b h1 h2 h3 hO =>
          cases fv
          · as_aux_lemma =>
            have HO := Lib.hid hO
            clear hO
            obtain rfl : k = 3 := by omega
            clear h1 h2
            go_wp2_with (first | ((with_reducible refine skip_op ?_ ?_); exact rfl) | refine mP ?_ | ((with_reducible refine iat 1 ?_); refine mB ?_; clear HM; intro g1 W1 HM) | (go_at_call 70; (with_reducible refine cB HM (HD.out _) ?_); clear HM; intro W1 HM) | (go_at_call 71; (with_reducible refine cB HM (HV.out _) ?_); clear HM; intro W1 HM))
            go_meet
            case rel => exact ⟨.inl ⟨rfl, HO.out⟩, HM⟩
          · as_aux_lemma =>
            have HO := Lib.hid hO
            clear hO
            have HG := Lib.hid (show o = fn by rw [HO.out, HNS.out rfl (by omega)])
            obtain rfl : k = 3 := by omega
            clear h1 h2
            go_wp2_with (first | ((with_reducible refine skip_op ?_ ?_); exact rfl) | refine mP ?_ | ((with_reducible refine iat 1 ?_); refine mB ?_; clear HM; intro g1 W1 HM) | (go_at_call 70; (with_reducible refine cB HM (HD.out _) ?_); clear HM; intro W1 HM) | (go_at_call 71; (with_reducible refine cB HM (HV.out _) ?_); clear HM; intro W1 HM))
            go_meet
            case rel => exact ⟨.inr ⟨by first | rfl | (congr 1; exact decide_eq_false (by omega)), fun _ => HG.out, fun h => absurd h (by omega)⟩, HM⟩
        case c4a h1 h2 h3 hO => as_aux_lemma =>
          have HO := Lib.hid hO
          clear hO
          obtain rfl : k = 4 := by omega
          clear h1 h2
          go_wp2_with (first | ((with_reducible refine skip_op ?_ ?_); exact rfl) | refine mP ?_ | ((with_reducible refine iat 1 ?_); refine mB ?_; clear HM; intro g1 W1 HM) | (go_at_call 72; with_reducible refine cQ (HJ3.out (Or.inl (by omega)) _) ?_))
          go_meet
          case rel => exact ⟨.inl ⟨rfl, HO.out⟩, HM⟩
        case c4b h1 h2 h3 h4 hO => as_aux_lemma =>
          have HO := Lib.hid hO
          clear hO
          have HG := Lib.hid (show o = fn by rw [HO.out, HNS.out rfl (by omega)])
          obtain rfl : k = 4 := by omega
          clear h1 h2
          go_wp2_with (first | ((with_reducible refine skip_op ?_ ?_); exact rfl) | refine mP ?_ | ((with_reducible refine iat 1 ?_); refine mB ?_; clear HM; intro g1 W1 HM) | (go_at_call 72; with_reducible refine cQ (HJ4.out (by omega) (by omega) _) ?_))
          go_meet
          case rel => exact ⟨.inr ⟨by first | rfl | (congr 1; exact decide_eq_false (by omega)), fun _ => HG.out, fun h => absurd h (by omega)⟩, HM⟩
        case c4c h1 h2 h3 h4 hO => as_aux_lemma =>
          have HO := Lib.hid hO
          clear hO
          obtain rfl : k = 4 := by omega
          clear h1 h2
          go_wp2_with (first | ((with_reducible refine skip_op ?_ ?_); exact rfl) | refine mP ?_ | ((with_reducible refine iat 1 ?_); refine mB ?_; clear HM; intro g1 W1 HM) | (go_at_call 72; with_reducible refine cQ (HJ3.out (Or.inr (by omega)) _) ?_))
          go_meet
          case rel => exact ⟨.inl ⟨rfl, HO.out⟩, HM⟩
        case c6a h1 h2 h3 hO => as_aux_lemma =>
          have HO := Lib.hid hO
          clear hO
          obtain rfl : k = 6 := by omega
          clear h1 h2
          go_wp2_with (first | ((with_reducible refine skip_op ?_ ?_); exact rfl) | refine mP ?_ | ((with_reducible refine iat 1 ?_); refine mB ?_; clear HM; intro g1 W1 HM))
          go_meet
          case rel => exact ⟨.inr ⟨rfl, fun h => absurd rfl h, fun _ => Or.inr ⟨by omega, HO.out⟩⟩, HM⟩
        case c6b h1 h2 h3 hO => as_aux_lemma =>
          have HO := Lib.hid hO
          clear hO
          obtain rfl : k = 6 := by omega
          clear h1 h2
          go_wp2_with (first | ((with_reducible refine skip_op ?_ ?_); exact rfl) | refine mP ?_ | ((with_reducible refine iat 1 ?_); refine mB ?_; clear HM; intro g1 W1 HM))
          go_meet
          case rel => exact ⟨.inr ⟨rfl, fun h => absurd rfl h, fun _ => Or.inr ⟨by omega, HO.out⟩⟩, HM⟩
        case c6c h1 h2 h3 h4 hO => as_aux_lemma =>
          have HO := Lib.hid hO
          clear hO
          obtain rfl : k = 6 := by omega
          clear h1 h2
          go_wp2_with (first | ((with_reducible refine skip_op ?_ ?_); exact rfl) | refine mP ?_ | ((with_reducible refine iat 1 ?_); refine mB ?_; clear HM; intro g1 W1 HM))
          go_meet
          case rel => exact ⟨.inr ⟨rfl, fun h => absurd rfl h, fun _ => Or.inl ⟨by omega, HO.out⟩⟩, HM⟩
        case cl h1 hO => omega
        case cg h1 hO => omega
      case rest =>
      clear HM hoc
      obtain ⟨⟨rfl, hO⟩ | ⟨rfl, hB1, hB2⟩, HM⟩ := hcut
      · as_aux_lemma =>
        have HE := Lib.hid (show f = false by rw [← HF.out, hO]; rfl)
        clear hO
        go_wp2
        go_ret
        exact ⟨by rw [HE.out]; rfl, HM.out.below⟩
      have HG1 := Lib.hid hB1
      have HG2 := Lib.hid hB2
      clear hB1 hB2
      go_upto_region 5 with (fail)
      go_cut [67] (fun bv wc => CutC o fn bv ∧ Hid (Mem w wc [.box g1 30 [.int .i64 k, .bool y, .bool ng, .int .u64 hi, .int .u64 lo, .int .i64 sc, .string t, .int .i64 d, .slice lp l.length lc, .slice np ns.length nc]]))
      case first =>
        by_cases hk : k = 6
        · rcases HG2.out hk with ⟨h1, h2⟩ | ⟨h1, h2⟩
          · as_aux_lemma =>
            have q1 : (k == 6) = true := by simp [hk]
            have q2 : ((ns.length : Int) != l.length) = false := by simp [h1]
            have HG := Lib.hid h2
            clear h1 h2 hk
            go_wp2_with (first | ((with_reducible refine skip_op ?_ ?_); exact rfl) | refine mP ?_ | ((with_reducible refine iat 1 ?_); refine mB ?_; clear HM; intro g1 W1 HM))
            go_meet
            case rel => exact ⟨.inr ⟨rfl, HG.out⟩, HM⟩
          · as_aux_lemma =>
            have q1 : (k == 6) = true := by simp [hk]
            have q2 : ((ns.length : Int) != l.length) = true := by simp; omega
            have HO := Lib.hid h2
            clear h1 h2 hk
            go_wp2_with (first | ((with_reducible refine skip_op ?_ ?_); exact rfl) | refine mP ?_ | ((with_reducible refine iat 1 ?_); refine mB ?_; clear HM; intro g1 W1 HM))
            go_meet
            case rel => exact ⟨.inl ⟨rfl, HO.out⟩, HM⟩
        · as_aux_lemma =>
          have HG := Lib.hid (HG1.out hk)
          have q1 : (k == 6) = false := by simp [hk]
          clear hk hk0 hk6
          go_wp2_with (first | ((with_reducible refine skip_op ?_ ?_); exact rfl) | refine mP ?_ | ((with_reducible refine iat 1 ?_); refine mB ?_; clear HM; intro g1 W1 HM))
          go_meet
          case rel => exact ⟨.inr ⟨by first | rfl | (congr 1; simpa using q1), HG.out⟩, HM⟩
      case rest =>
      clear HM HG1 HG2
      obtain ⟨⟨rfl, hO⟩ | ⟨rfl, hO⟩, HM⟩ := hcut
      · as_aux_lemma =>
        have HE := Lib.hid (show f = false by rw [← HF.out, hO]; rfl)
        clear hO
        go_wp2
        go_ret
        exact ⟨by rw [HE.out]; rfl, HM.out.below⟩
      have HG := Lib.hid hO
      clear hO
      go_wp2_with (first | ((with_reducible refine skip_op ?_ ?_); exact rfl) | refine mP ?_ | ((with_reducible refine iat 1 ?_); refine mB ?_; clear HM; intro g1 W1 HM))
      go_loopw [3] (fun iv wr => ∃ i : Nat, iv = .int .i64 i ∧ i ≤ ns.length ∧ Hid (namesB (ns.take i) = true) ∧ Hid (Mem w wr [.box g1 30 [.int .i64 k, .bool y, .bool ng, .int .u64 hi, .int .u64 lo, .int .i64 sc, .string t, .int .i64 d, .slice lp l.length lc, .slice np ns.length nc]])) (fun iv _ => ns.length - (intOf iv).toNat)
      case atStart => exact ⟨0, rfl, by omega, Lib.hid (by simp [namesB]), HM⟩
      case round =>
        clear HM
        obtain ⟨i, rfl, hi0, HI, HM⟩ := hrel
        by_cases hlt : i < ns.length
        · obtain ⟨x, hx⟩ : ∃ x, ns[i]? = some x := ⟨_, List.getElem?_eq_getElem hlt⟩
          obtain ⟨b, rfl, hb⟩ := HS.out.some_at strL_len (by decide) hlt
          have HE := Lib.hid (hb.elem strL 1 strL_len hx)
          have HX := Lib.hid hx
          have q1 : decide ((i : Int) < ns.length) = true := decide_eq_true (by omega)
          obtain ⟨u, hu⟩ : ∃ u, nameB x = u := ⟨_, rfl⟩
          have HNm := Lib.hid (fun W => hu ▸ rname_any x W)
          have HU := Lib.hid hu
          have HB2 := Lib.hid hb
          clear hx hb hu
          cases u with
          | false =>
            have HE2 := Lib.hid (show f = false by rw [← HF.out, HG.out, ← HFN.out, namesB_no HX.out HU.out]; rfl)
            go_wp2_with (first | ((with_reducible refine skip_op ?_ ?_); exact rfl) | refine mP ?_ | ((with_reducible refine iat 1 ?_); refine mB ?_; clear HM; intro g1 W1 HM) | (refine ixa rfl rfl rfl hlt ?_) | (refine ldx0 (HM.out.olds HE.out) rfl rfl ?_) | (go_at_call 73; with_reducible refine cQ (HNm.out _) ?_))
            go_ret
            exact ⟨by rw [HE2.out]; rfl, HM.out.below⟩
          | true =>
            go_wp2_with (first | ((with_reducible refine skip_op ?_ ?_); exact rfl) | refine mP ?_ | ((with_reducible refine iat 1 ?_); refine mB ?_; clear HM; intro g1 W1 HM) | (refine ixa rfl rfl rfl hlt ?_) | (refine ldx0 (HM.out.olds HE.out) rfl rfl ?_) | (go_at_call 73; with_reducible refine cQ (HNm.out _) ?_))
            go_loopw [4] (fun iv wr => ∃ j : Nat, iv = .int .i64 j ∧ j ≤ i ∧ Hid (∀ (m : Nat) (z : ByteArray), m < j → ns[m]? = some z → z.toList ≠ x.toList) ∧ Hid (Mem w wr [.box g1 30 [.int .i64 k, .bool y, .bool ng, .int .u64 hi, .int .u64 lo, .int .i64 sc, .string t, .int .i64 d, .slice lp l.length lc, .slice (some b) ns.length nc]])) (fun iv _ => i - (intOf iv).toNat)
            case atStart => exact ⟨0, rfl, by omega, Lib.hid (fun m z h => by omega), HM⟩
            case round =>
              clear HM
              obtain ⟨j, rfl, hj0, HJ, HM⟩ := hrel
              by_cases hjt : j < i
              · have hjl : j < ns.length := by omega
                obtain ⟨z, hz⟩ : ∃ x, ns[j]? = some x := ⟨_, List.getElem?_eq_getElem hjl⟩
                have HZ := Lib.hid (HB2.out.elem strL 1 strL_len hz)
                have HZ2 := Lib.hid hz
                have p1 : decide ((j : Int) < i) = true := decide_eq_true (by omega)
                clear hz
                by_cases he : z.toList = x.toList
                · have p3 : (z.toList == x.toList) = true := by simp [he]
                  have HE2 := Lib.hid (show f = false by rw [← HF.out, HG.out, ← HFN.out, namesB_bad HX.out HZ2.out hjt he]; rfl)
                  clear he
                  go_wp2_with (first | ((with_reducible refine skip_op ?_ ?_); exact rfl) | refine mP ?_ | ((with_reducible refine iat 1 ?_); refine mB ?_; clear HM; intro g1 W1 HM))
                  refine wp_region_mem (by kernel_rfl) (by kernel_rfl) HM.out ?_; intro hNE; (repeat (any_goals (first | ((with_reducible refine qgd ?_); (with_reducible refine skip_q ?_ ?_ ?_); (exact rfl); (rotate_left; (exact (hNE.elim fun p => ⟨p.W, p, rfl⟩)))) | refine mQ ?_ | ((with_reducible refine qat 90 ?_); (refine qixa rfl rfl rfl hjl ?_)) | ((with_reducible refine qat 95 ?_); (refine qixa rfl rfl rfl hlt ?_)) | ((with_reducible refine qat 91 ?_); (refine qdx0 HZ.out rfl rfl ?_)) | ((with_reducible refine qat 96 ?_); (refine qdx0 HE.out rfl rfl ?_)) | go_big_quiet_step (fail) | quiet_step (fail)))); clear hNE; refine wpQuiet_nil ?_; intro W1 HM1; replace HM := Lib.hid HM1; clear HM1
                  go_wp2
                  go_ret
                  exact ⟨by rw [HE2.out]; rfl, HM.out.below⟩
                · have p3 : (z.toList == x.toList) = false := by simp [he]
                  have HD2 := Lib.hid (show ∀ (m : Nat) (z : ByteArray), m < j + 1 → ns[m]? = some z → z.toList ≠ x.toList from fun m z' hm hz' => by
                    by_cases e : m = j
                    · subst e; rw [HZ2.out] at hz'; rw [← Option.some.inj hz']; exact he
                    · exact HJ.out m z' (by omega) hz')
                  clear he
                  go_wp2_with (first | ((with_reducible refine skip_op ?_ ?_); exact rfl) | refine mP ?_ | ((with_reducible refine iat 1 ?_); refine mB ?_; clear HM; intro g1 W1 HM))
                  refine wp_region_mem (by kernel_rfl) (by kernel_rfl) HM.out ?_; intro hNE; (repeat (any_goals (first | ((with_reducible refine qgd ?_); (with_reducible refine skip_q ?_ ?_ ?_); (exact rfl); (rotate_left; (exact (hNE.elim fun p => ⟨p.W, p, rfl⟩)))) | refine mQ ?_ | ((with_reducible refine qat 90 ?_); (refine qixa rfl rfl rfl hjl ?_)) | ((with_reducible refine qat 95 ?_); (refine qixa rfl rfl rfl hlt ?_)) | ((with_reducible refine qat 91 ?_); (refine qdx0 HZ.out rfl rfl ?_)) | ((with_reducible refine qat 96 ?_); (refine qdx0 HE.out rfl rfl ?_)) | go_big_quiet_step (fail) | quiet_step (fail)))); clear hNE; refine wpQuiet_nil ?_; intro W1 HM1; replace HM := Lib.hid HM1; clear HM1
                  go_wp2
                  go_roundw
                  case rel => exact ⟨j + 1, by go_num, by omega, HD2, HM⟩
                  case measure => simp [intOf]; omega
              · obtain rfl : j = i := by omega
                have p1 : decide ((j : Int) < j) = false := by simp
                have HD2 := Lib.hid (namesB_next HX.out HI.out HU.out HJ.out)
                go_wp2
                go_roundw
                case rel => exact ⟨j + 1, by go_num, by omega, HD2, HM⟩
                case measure => simp [intOf]; omega
        · obtain rfl : i = ns.length := by omega
          have q1 : decide ((ns.length : Int) < ns.length) = false := by simp
          have HO1 := Lib.hid (show o = true by rw [HG.out, ← HFN.out]; have := HI.out; rwa [List.take_length] at this)
          have HF2 := Lib.hid (show VD.formL l = f by rw [← HF.out, HO1.out]; simp)
          go_wp2_with (first | ((with_reducible refine skip_op ?_ ?_); exact rfl) | refine mP ?_ | ((with_reducible refine iat 1 ?_); refine mB ?_; clear HM; intro g1 W1 HM))
          go_loopw [5] (fun iv wr => ∃ i : Nat, iv = .int .i64 i ∧ i ≤ l.length ∧ Hid (VD.formL (l.take i) = true) ∧ Hid (Mem w wr [.box g1 30 [.int .i64 k, .bool y, .bool ng, .int .u64 hi, .int .u64 lo, .int .i64 sc, .string t, .int .i64 d, .slice lp l.length lc, .slice np ns.length nc]])) (fun iv _ => l.length - (intOf iv).toNat)
          case atStart => exact ⟨0, rfl, by omega, Lib.hid rfl, HM⟩
          case round =>
            clear HM HI
            obtain ⟨i, rfl, hi0, HI, HM⟩ := hrel
            by_cases hlt2 : i < l.length
            · obtain ⟨x, hx⟩ : ∃ x, l[i]? = some x := ⟨_, List.getElem?_eq_getElem hlt2⟩
              obtain ⟨b, c, rfl, hxa, hxc⟩ := vrow HL.out HAt.out hx
              have hpx := VD.partsL_get hx
              have HX := Lib.hid hxa
              have HC := Lib.hid hxc
              have HX2 := Lib.hid hx
              have HXw := Lib.hid (VD.wfL_get HW.out hx)
              obtain ⟨u, hu⟩ : ∃ u, x.form = u := ⟨_, rfl⟩
              have HCl := Lib.hid (show ∀ W, RowKit.Below w.heap.size w W → Calls Tryz.prog 44 #[.agg c.toArray] W fun e w' => e = .returned (.bool u) ∧ RowKit.Below W.heap.size W w' from fun W hb => by
                rw [← hu]
                exact IH.out x (by omega) _ _ (VD.at.below hb HX.out) HXw.out)
              have HT := Lib.hid (show VD.formL (l.take (i + 1)) = u by rw [take_get hx, VD.formL_append, HI.out, ← hu]; simp [VD.formL])
              have HNo := Lib.hid (show u = false → VD.formL l = false from fun h => by
                cases h2 : VD.formL l with
                | false => rfl
                | true => have := VD.formL_get h2 HX2.out; rw [hu, h] at this; cases this)
              obtain ⟨k1, y1, ⟨ng1, hi1, lo1, sc1⟩, t1, d1, l1, ns1⟩ := x
              simp only [VD.at, vcs] at hxa
              obtain ⟨lp1, np1, lc1, nc1, ls1, rfl, -⟩ := hxa
              have p1 : decide ((i : Int) < l.length) = true := decide_eq_true (by omega)
              clear hx hxc hpx hu
              cases u with
              | false =>
                have HE2 := Lib.hid (show f = false by rw [← HF2.out]; exact HNo.out rfl)
                go_wp2_with (first | ((with_reducible refine skip_op ?_ ?_); exact rfl) | refine mP ?_ | ((with_reducible refine iat 1 ?_); refine mB ?_; clear HM; intro g1 W1 HM) | (refine ixa rfl rfl rfl hlt2 ?_) | (refine ldxW (HM.out.olds HC.out) rfl rfl ?_) | (go_at_call 44; (with_reducible refine cB HM (HCl.out _ HM.out.below) ?_); clear HM; intro W1 HM))
                go_ret
                exact ⟨by rw [HE2.out]; rfl, HM.out.below⟩
              | true =>
                go_wp2_with (first | ((with_reducible refine skip_op ?_ ?_); exact rfl) | refine mP ?_ | ((with_reducible refine iat 1 ?_); refine mB ?_; clear HM; intro g1 W1 HM) | (refine ixa rfl rfl rfl hlt2 ?_) | (refine ldxW (HM.out.olds HC.out) rfl rfl ?_) | (go_at_call 44; (with_reducible refine cB HM (HCl.out _ HM.out.below) ?_); clear HM; intro W1 HM))
                go_roundw
                case rel => exact ⟨i + 1, by go_num, by omega, HT, HM⟩
                case measure => simp [intOf]; omega
            · obtain rfl : i = l.length := by omega
              have p1 : decide ((l.length : Int) < l.length) = false := by simp
              have HE2 := Lib.hid (show f = true by rw [← HF2.out]; have := HI.out; rwa [List.take_length] at this)
              go_wp2_with (first | ((with_reducible refine skip_op ?_ ?_); exact rfl) | refine mP ?_ | ((with_reducible refine iat 1 ?_); refine mB ?_; clear HM; intro g1 W1 HM))
              go_ret
              exact ⟨by rw [HE2.out]; rfl, HM.out.below⟩
end Go.Proofs.YtgobdcmoelcckaaGreatDoor
