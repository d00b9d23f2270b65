/- The reference's fit; where the parts lie. (fast) -/
import Derived.Test.YtpjcjgikfplgnaaDoorNamesA
import Derived.Test.YtpjcjgikfplgnaaDoorStackA
import Derived.Test.YtpjcjgikfplgnaaDoorRefCheck
namespace Go.Proofs.YtpjcjgikfplgnaaDoor
open Go.RowKit
set_option linter.unusedVariables false
set_option linter.unusedSimpArgs false
set_option maxRecDepth 100000

def tyAt (tys : List TyD) (i : Nat) : TyD := tys.getD i ⟨0, 0⟩
theorem tyAt_of {tys : List TyD} {i : Nat} {t : TyD} (h : tys[i]? = some t) : tyAt tys i = t := by unfold tyAt; rw [List.getD_eq_getElem?_getD, h]; rfl
def fitE (tys : List TyD) (f : Nat → TyD → Bool) (op : Int) (t : TyD) (p : Nat) : Bool :=
  if op = 36 ∨ op = 37 then f p t else if op = 30 then meetB t.k t.o (tyAt tys p).k (tyAt tys p).o else ordB t.k t.o (tyAt tys p).k (tyAt tys p).o
def fitF (ns : List NodeD) (parts : List (List Nat)) (tys : List TyD) : Nat → Nat → TyD → Bool
  | 0, _, _ => true
  | f + 1, i, t => (parts.getD i []).all (fitE tys (fitF ns parts tys f) (opAt ns i) t)
def PartsLt (parts : List (List Nat)) : Prop := ∀ (j : Nat) (l : List Nat), parts[j]? = some l → ∀ x, x ∈ l → x < j
theorem fitF_fuel {ns : List NodeD} {parts : List (List Nat)} {tys : List TyD} (hp : PartsLt parts) : ∀ (i f : Nat) (t : TyD), i < f → fitF ns parts tys f i t = fitF ns parts tys (i + 1) i t := by
  intro i
  induction i using Nat.strongRecOn with
  | ind i ih =>
    intro f t hf
    match f, hf with
    | f + 1, hf =>
      unfold fitF
      rw [List.getD_eq_getElem?_getD]
      cases hl : parts[i]? with
      | none => rfl
      | some l =>
        show l.all _ = l.all _
        rw [Bool.eq_iff_iff, List.all_eq_true, List.all_eq_true]
        have key : ∀ p, p ∈ l → fitE tys (fitF ns parts tys f) (opAt ns i) t p = fitE tys (fitF ns parts tys i) (opAt ns i) t p := fun p hpm => by
          have hlt := hp i l hl p hpm
          unfold fitE
          split
          · rw [ih p hlt f t (by omega), ih p hlt i t hlt]
          · rfl
        exact ⟨fun h p hpm => by rw [← key p hpm]; exact h p hpm, fun h p hpm => by rw [key p hpm]; exact h p hpm⟩
/-- Where parts lie: rows of ints behind a row of slices. -/
def PartsAt (w : World) (pp : Option Addr) (parts : List (List Nat)) : Prop := ∃ vs : List Value, Sl w pp vs ∧ vs.length = parts.length ∧ ∀ (i : Nat) (l : List Nat), parts[i]? = some l → ∃ p c, vs[i]? = some (.slice p l.length c) ∧ Sl w p (intL l)
theorem Mem.parts {w0 W : World} {L : List Res} (h : Mem w0 W L) {pp : Option Addr} {parts : List (List Nat)} (hp : PartsAt w0 pp parts) : PartsAt W pp parts := by
  obtain ⟨vs, h1, h2, h3⟩ := hp
  exact ⟨vs, h.sl h1, h2, fun i l hl => by obtain ⟨p, c, a, b⟩ := h3 i l hl; exact ⟨p, c, a, h.sl b⟩⟩

/-- All that fit looks at, as it lies. -/
structure FitAt2 (w : World) (np : Option Addr) (ns : List NodeD) (pp : Option Addr) (parts : List (List Nat)) (tp : Option Addr) (tys : List TyD) : Prop where
  nodes : Sl w np (ns.flatMap NodeD.cs)
  parts : PartsAt w pp parts
  types : Sl w tp (tys.flatMap TyD.cs)
theorem Mem.fit2 {w0 W : World} {L : List Res} (h : Mem w0 W L) {np pp tp : Option Addr} {ns : List NodeD} {parts : List (List Nat)} {tys : List TyD} (hf : FitAt2 w0 np ns pp parts tp tys) : FitAt2 W np ns pp parts tp tys := ⟨h.sl hf.nodes, h.parts hf.parts, h.sl hf.types⟩

set_option maxHeartbeats 8000000 in
theorem fit_any (np pp tp : Option Addr) (nc pc tc : Nat) (ns : List NodeD) (parts : List (List Nat)) (tys : List TyD) (hpl : parts.length = ns.length) (htl : tys.length = ns.length) (hp : PartsLt parts) (hf : ∀ t, t ∈ tys → t.form) (hl : ns.length ≤ 300) (hpc : ∀ (j : Nat) (l : List Nat), parts[j]? = some l → l.length ≤ 300) :
    ∀ (i : Nat) (t : TyD) (w : World), i < ns.length → t.form → FitAt2 w np ns pp parts tp tys →
      Calls Tryd.prog 48 #[.slice np ns.length nc, .slice pp ns.length pc, .slice tp ns.length tc, .int .i64 i, .agg #[.int .i64 t.k, .int .i64 t.o]] w fun e w' => e = .returned (.bool (fitF ns parts tys (i + 1) i t)) ∧ Below w.heap.size w w' := by
  intro i
  induction i using Nat.strongRecOn with
  | ind i ih =>
    intro t w hi ht hA
    have HM := Lib.hid (Mem.start w)
    have HA := Lib.hid hA
    have HIH := Lib.hid ih
    have HT := Lib.hid ht
    obtain ⟨n, hn⟩ : ∃ n, ns[i]? = some n := ⟨_, List.getElem?_eq_getElem hi⟩
    obtain ⟨l, hlp⟩ : ∃ l, parts[i]? = some l := ⟨_, List.getElem?_eq_getElem (by omega)⟩
    obtain ⟨r, hr⟩ : ∃ r, l.all (fitE tys (fitF ns parts tys i) n.op t) = r := ⟨_, rfl⟩
    rw [show fitF ns parts tys (i + 1) i t = r by rw [← hr]; unfold fitF; rw [List.getD_eq_getElem?_getD, hlp, opAt_of hn]; rfl]
    have HR := Lib.hid (show (l.drop 0).all (fitE tys (fitF ns parts tys i) n.op t) = r from hr)
    have HX := Lib.hid (hp i l hlp)
    have hll := hpc i l hlp
    obtain ⟨nb, rfl, hnb⟩ := hA.nodes.some_at NodeD.cs_len (by decide) hi
    have EN := Lib.hid (hnb.elem NodeD.cs 8 NodeD.cs_len hn)
    obtain ⟨vs, hv1, hv2, hv3⟩ := hA.parts
    obtain ⟨lp, lc, hv4, hv5⟩ := hv3 i l hlp
    obtain ⟨pb, rfl, hpb⟩ := hv1.some (fun e => by rw [e] at hv4; simp at hv4)
    have EP := Lib.hid (show w.cell? (pb.add (i * 1)) = some (.slice lp l.length lc) from hpb (i * 1) _ (by rw [Nat.mul_one]; exact hv4))
    have EL := Lib.hid hv5
    have HFm := Lib.hid hf
    have HPL := Lib.hid hp
    have HPLn := Lib.hid hpl
    have HTLn := Lib.hid htl
    clear hr hA ih ht hnb hn hv1 hv2 hv3 hv4 hv5 hpb hlp hp hf hpc hpl htl
    go_enter Tryd.func48, Tryd.ntmps48
    go_wp2_with (first | ((with_reducible refine iat 16 ?_); (refine ixa rfl rfl rfl hi ?_)) | ((with_reducible refine iat 17 ?_); (refine ldxW (HM.out.olds EN.out) rfl rfl ?_)) | ((with_reducible refine igd ?_); (with_reducible refine skip_op ?_ ?_); (exact rfl)) | ((with_reducible refine iload ?_); first | refine ldb1 HM.out 0 rfl rfl rfl ?_ | refine ldb1 HM.out 1 rfl rfl rfl ?_ | refine ldbW HM.out 0 rfl rfl rfl ?_ | refine ldbW HM.out 1 rfl rfl rfl ?_ | ((first | refine ldbS HM.out 0 rfl rfl rfl ?_ | refine ldbS HM.out 1 rfl rfl rfl ?_); simp only [List.take, List.drop])) | ((with_reducible refine istore ?_); (first | ((first | refine stbW rfl HM.out 0 rfl rfl rfl rfl rfl rfl ?_ | refine stbW rfl HM.out 1 rfl rfl rfl rfl rfl rfl ?_); intro W1 HM1; replace HM := Lib.hid HM1; clear HM1; simp only [List.set] at HM) | ((first | refine stbS rfl HM.out 0 rfl rfl rfl rfl rfl rfl ?_ | refine stbS rfl HM.out 1 rfl rfl rfl rfl rfl rfl ?_); intro W1 HM1; replace HM := Lib.hid HM1; clear HM1; simp only [lss, Nat.reduceAdd] at HM))) | ((with_reducible refine ibox (d := some 9) ?_); refine bxA rfl HM.out rfl ?_; intro g9 W1 HM1; replace HM := Lib.hid HM1; clear HM1) | ((with_reducible refine ialloc (d := some 11) ?_); refine alb rfl HM.out ?_; intro g11 W1 HM1; replace HM := Lib.hid HM1; clear HM1))
    go_loopw [12] (fun kv wr => ∃ k : Nat, kv = .int .i64 k ∧ k ≤ l.length ∧ Hid ((l.drop k).all (fitE tys (fitF ns parts tys i) n.op t) = r) ∧ Hid (Mem w wr [.box g11 44 n.cs, .box g9 25 [.int .i64 t.k, .int .i64 t.o]])) (fun kv _ => l.length - (intOf kv).toNat)
    case atStart => exact ⟨0, rfl, by omega, HR, HM⟩
    case round =>
      clear HM
      obtain ⟨k, rfl, hk, HI, HM⟩ := hrel
      by_cases hlt : k < l.length
      · obtain ⟨x, hx⟩ : ∃ x, l[k]? = some x := ⟨_, List.getElem?_eq_getElem hlt⟩
        have hxi := HX.out x (List.mem_of_getElem? hx)
        have hxn : x < ns.length := by omega
        obtain ⟨u, hu⟩ : ∃ u, tys[x]? = some u := ⟨_, List.getElem?_eq_getElem (by rw [HTLn.out]; exact hxn)⟩
        have huf := HFm.out u (List.mem_of_getElem? hu)
        obtain ⟨lb, hlb1, hlb⟩ := EL.out.some_at (i := k) intC_len (by decide) hlt
        have EX := Lib.hid (show w.cell? (lb.add (k * 1)) = some (.int .i64 x) from hlb (k * 1) _ (intL_at hx))
        obtain ⟨tb, htb1, htb⟩ := HA.out.types.some_at (i := x) TyD.cs_len (by decide) (by rw [HTLn.out]; exact hxn)
        have htu := tyAt_of hu
        obtain ⟨uk, uo⟩ := u
        have EU := Lib.hid (show Cells w (tb.add (x * 2)) [.int .i64 uk, .int .i64 uo] from htb.elem TyD.cs 2 TyD.cs_len hu)
        obtain ⟨m, hm⟩ : ∃ m, fitE tys (fitF ns parts tys i) n.op t x = m := ⟨_, rfl⟩
        have HI2 := Lib.hid (show (m && (l.drop (k + 1)).all (fitE tys (fitF ns parts tys i) n.op t)) = r by rw [← HI.out, drop_at hx, List.all_cons, hm])
        have hlt3 := Lib.hid (show k + 1 ≤ l.length from hlt)
        have d1 : decide ((k : Int) < l.length) = true := decide_eq_true (by omega)
        unfold fitE at hm
        subst hlb1
        subst htb1
        rw [htu] at hm
        by_cases h1 : n.op = 36 ∨ n.op = 37
        · rw [if_pos h1, fitF_fuel HPL.out x i t hxi] at hm
          have HRec := Lib.hid (fun W (h : FitAt2 W (some nb) ns (some pb) parts (some tb) tys) => hm ▸ HIH.out x hxi t W (by omega) HT.out h)
          have hb : (n.op == 36) = true ∨ ((n.op == 36) = false ∧ (n.op == 37) = true) := by
            rcases h1 with h | h
            · exact Or.inl (by rw [h]; rfl)
            · exact Or.inr ⟨by rw [h]; rfl, by rw [h]; rfl⟩
          clear hx hu huf hlb htb htu hm HI h1
          rcases hb with b36 | ⟨b36, b37⟩
          all_goals
            cases m
            · have HB := Lib.hid (show r = false by rw [← HI2.out]; rfl)
              go_wp2_with (first | ((with_reducible refine iat 21 ?_); (refine ixa rfl rfl rfl hi ?_)) | ((with_reducible refine iat 29 ?_); (refine ixa rfl rfl rfl hi ?_)) | ((with_reducible refine iat 32 ?_); (refine ixa rfl rfl rfl hlt ?_)) | ((with_reducible refine iat 22 ?_); (refine ldx1 (HM.out.old EP.out) rfl ?_)) | ((with_reducible refine iat 30 ?_); (refine ldx1 (HM.out.old EP.out) rfl ?_)) | ((with_reducible refine iat 33 ?_); (refine ldx1 (HM.out.old EX.out) rfl ?_)) | ((with_reducible refine igd ?_); (with_reducible refine skip_op ?_ ?_); (exact rfl)) | ((with_reducible refine iload ?_); first | refine ldb1 HM.out 0 rfl rfl rfl ?_ | refine ldb1 HM.out 1 rfl rfl rfl ?_ | refine ldbW HM.out 0 rfl rfl rfl ?_ | refine ldbW HM.out 1 rfl rfl rfl ?_ | ((first | refine ldbS HM.out 0 rfl rfl rfl ?_ | refine ldbS HM.out 1 rfl rfl rfl ?_); simp only [List.take, List.drop])) | ((with_reducible refine istore ?_); (first | ((first | refine stbW rfl HM.out 0 rfl rfl rfl rfl rfl rfl ?_ | refine stbW rfl HM.out 1 rfl rfl rfl rfl rfl rfl ?_); intro W1 HM1; replace HM := Lib.hid HM1; clear HM1; simp only [List.set] at HM) | ((first | refine stbS rfl HM.out 0 rfl rfl rfl rfl rfl rfl ?_ | refine stbS rfl HM.out 1 rfl rfl rfl rfl rfl rfl ?_); intro W1 HM1; replace HM := Lib.hid HM1; clear HM1; simp only [lss, Nat.reduceAdd] at HM))) | ((with_reducible refine ialloc ?_); refine alb rfl HM.out ?_; intro g1 W1 HM1; replace HM := Lib.hid HM1; clear HM1) | ((with_reducible refine ibox ?_); refine bxA rfl HM.out rfl ?_; intro g1 W1 HM1; replace HM := Lib.hid HM1; clear HM1) | (go_at_call 48; (with_reducible refine (HRec.out _ (HM.out.fit2 HA.out)).mono ?_); rintro e W1 ⟨rfl, hb⟩; replace HM := Lib.hid (HM.out.next hb); clear hb))
              go_ret
              exact ⟨by rw [HB.out]; rfl, HM.out.below⟩
            · have HB := Lib.hid (show (l.drop (k + 1)).all (fitE tys (fitF ns parts tys i) n.op t) = r by rw [← HI2.out]; rfl)
              go_wp2_with (first | ((with_reducible refine iat 21 ?_); (refine ixa rfl rfl rfl hi ?_)) | ((with_reducible refine iat 29 ?_); (refine ixa rfl rfl rfl hi ?_)) | ((with_reducible refine iat 32 ?_); (refine ixa rfl rfl rfl hlt ?_)) | ((with_reducible refine iat 22 ?_); (refine ldx1 (HM.out.old EP.out) rfl ?_)) | ((with_reducible refine iat 30 ?_); (refine ldx1 (HM.out.old EP.out) rfl ?_)) | ((with_reducible refine iat 33 ?_); (refine ldx1 (HM.out.old EX.out) rfl ?_)) | ((with_reducible refine igd ?_); (with_reducible refine skip_op ?_ ?_); (exact rfl)) | ((with_reducible refine iload ?_); first | refine ldb1 HM.out 0 rfl rfl rfl ?_ | refine ldb1 HM.out 1 rfl rfl rfl ?_ | refine ldbW HM.out 0 rfl rfl rfl ?_ | refine ldbW HM.out 1 rfl rfl rfl ?_ | ((first | refine ldbS HM.out 0 rfl rfl rfl ?_ | refine ldbS HM.out 1 rfl rfl rfl ?_); simp only [List.take, List.drop])) | ((with_reducible refine istore ?_); (first | ((first | refine stbW rfl HM.out 0 rfl rfl rfl rfl rfl rfl ?_ | refine stbW rfl HM.out 1 rfl rfl rfl rfl rfl rfl ?_); intro W1 HM1; replace HM := Lib.hid HM1; clear HM1; simp only [List.set] at HM) | ((first | refine stbS rfl HM.out 0 rfl rfl rfl rfl rfl rfl ?_ | refine stbS rfl HM.out 1 rfl rfl rfl rfl rfl rfl ?_); intro W1 HM1; replace HM := Lib.hid HM1; clear HM1; simp only [lss, Nat.reduceAdd] at HM))) | ((with_reducible refine ialloc ?_); refine alb rfl HM.out ?_; intro g1 W1 HM1; replace HM := Lib.hid HM1; clear HM1) | ((with_reducible refine ibox ?_); refine bxA rfl HM.out rfl ?_; intro g1 W1 HM1; replace HM := Lib.hid HM1; clear HM1) | (go_at_call 48; (with_reducible refine (HRec.out _ (HM.out.fit2 HA.out)).mono ?_); rintro e W1 ⟨rfl, hb⟩; replace HM := Lib.hid (HM.out.next hb); clear hb))
              go_roundw
              case rel => exact ⟨k + 1, by go_num, hlt3.out, HB, HM⟩
              case measure => have := hlt3.out; simp [intOf]; omega
        · rw [if_neg h1] at hm
          have b36 : (n.op == 36) = false := beq_false_of_ne (fun h => h1 (Or.inl h))
          have b37 : (n.op == 37) = false := beq_false_of_ne (fun h => h1 (Or.inr h))
          by_cases h2 : n.op = 30
          · rw [if_pos h2] at hm
            have b30 : (n.op == 30) = true := by rw [h2]; rfl
            have HMt := Lib.hid (fun W => (show meetB t.k t.o uk uo = m from hm) ▸ rMeet_any t.k t.o uk uo W HT.out huf)
            clear hx hu huf hlb htb htu hm HI h1 h2
            cases m
            · have HB := Lib.hid (show r = false by rw [← HI2.out]; rfl)
              go_wp2_with (first | ((with_reducible refine iat 21 ?_); (refine ixa rfl rfl rfl hi ?_)) | ((with_reducible refine iat 29 ?_); (refine ixa rfl rfl rfl hi ?_)) | ((with_reducible refine iat 32 ?_); (refine ixa rfl rfl rfl hlt ?_)) | ((with_reducible refine iat 22 ?_); (refine ldx1 (HM.out.old EP.out) rfl ?_)) | ((with_reducible refine iat 30 ?_); (refine ldx1 (HM.out.old EP.out) rfl ?_)) | ((with_reducible refine iat 33 ?_); (refine ldx1 (HM.out.old EX.out) rfl ?_)) | ((with_reducible refine igd ?_); (with_reducible refine skip_op ?_ ?_); (exact rfl)) | ((with_reducible refine iload ?_); first | refine ldb1 HM.out 0 rfl rfl rfl ?_ | refine ldb1 HM.out 1 rfl rfl rfl ?_ | refine ldbW HM.out 0 rfl rfl rfl ?_ | refine ldbW HM.out 1 rfl rfl rfl ?_ | ((first | refine ldbS HM.out 0 rfl rfl rfl ?_ | refine ldbS HM.out 1 rfl rfl rfl ?_); simp only [List.take, List.drop])) | ((with_reducible refine istore ?_); (first | ((first | refine stbW rfl HM.out 0 rfl rfl rfl rfl rfl rfl ?_ | refine stbW rfl HM.out 1 rfl rfl rfl rfl rfl rfl ?_); intro W1 HM1; replace HM := Lib.hid HM1; clear HM1; simp only [List.set] at HM) | ((first | refine stbS rfl HM.out 0 rfl rfl rfl rfl rfl rfl ?_ | refine stbS rfl HM.out 1 rfl rfl rfl rfl rfl rfl ?_); intro W1 HM1; replace HM := Lib.hid HM1; clear HM1; simp only [lss, Nat.reduceAdd] at HM))) | ((with_reducible refine ialloc ?_); refine alb rfl HM.out ?_; intro g1 W1 HM1; replace HM := Lib.hid HM1; clear HM1) | ((with_reducible refine ibox ?_); refine bxA rfl HM.out rfl ?_; intro g1 W1 HM1; replace HM := Lib.hid HM1; clear HM1))
              refine wp_region_steps2 [(true, 0), (true, 1), (true, 2), (true, 3), (true, 4), (false, 5), (true, 6)] (by kernel_rfl) (by kernel_rfl) rfl (by kernel_rfl) (fun _ _ _ _ _ h => h) HM.out _ (.cons_cons _ (.cons_cons _ .slnil)) ?_
              intro hNE W1 HM1; replace HM := Lib.hid HM1; clear HM1
              have HS0 := Lib.hid (HM.out.sub (.cons_cons _ (.cons_cons _ .slnil)))
              simp only [wpSteps, List.getElem?_cons_succ, List.getElem?_cons_zero]
              (repeat (first | ((with_reducible refine wpQuiet_nil ?_); (try dsimp only)) | ((with_reducible refine qload ?_); first | (refine qdbW HS0.out 0 rfl rfl rfl ?_) | (refine qdbW HS0.out 1 rfl rfl rfl ?_) | (refine qdbS HS0.out 0 rfl rfl rfl ?_; simp only [List.take, List.drop]) | (refine qdbS HS0.out 1 rfl rfl rfl ?_; simp only [List.take, List.drop])) | ((with_reducible refine qat 64 ?_); (refine qixa rfl rfl rfl hxn ?_)) | ((with_reducible refine qat 65 ?_); (refine qdA (vs := [.int .i64 uk, .int .i64 uo]) rfl rfl (fun W ⟨q, hq⟩ => hq ▸ q.mem.olds EU.out) ?_)) | go_big_quiet_step (fail) | quiet_step (fail)))
              go_wp2_with (first | (go_at_call 65; (with_reducible refine (HMt.out _).mono ?_); rintro e W1 ⟨rfl, hb⟩; replace HM := Lib.hid (HM.out.next hb); clear hb))
              refine ⟨⟨⟨_, HM.out.sub (by repeat (first | exact List.nil_sublist _ | with_reducible refine List.Sublist.cons_cons _ ?_ | refine List.Sublist.cons _ ?_))⟩, rfl⟩, ?_⟩
              (try dsimp only)
              (repeat (first | ((with_reducible refine wpQuiet_nil ?_); (try dsimp only)) | go_big_quiet_step (fail) | quiet_step (fail)))
              clear HS0 hNE
              go_wp2_with fail
              go_ret
              exact ⟨by rw [HB.out]; rfl, HM.out.below⟩
            · have HB := Lib.hid (show (l.drop (k + 1)).all (fitE tys (fitF ns parts tys i) n.op t) = r by rw [← HI2.out]; rfl)
              go_wp2_with (first | ((with_reducible refine iat 21 ?_); (refine ixa rfl rfl rfl hi ?_)) | ((with_reducible refine iat 29 ?_); (refine ixa rfl rfl rfl hi ?_)) | ((with_reducible refine iat 32 ?_); (refine ixa rfl rfl rfl hlt ?_)) | ((with_reducible refine iat 22 ?_); (refine ldx1 (HM.out.old EP.out) rfl ?_)) | ((with_reducible refine iat 30 ?_); (refine ldx1 (HM.out.old EP.out) rfl ?_)) | ((with_reducible refine iat 33 ?_); (refine ldx1 (HM.out.old EX.out) rfl ?_)) | ((with_reducible refine igd ?_); (with_reducible refine skip_op ?_ ?_); (exact rfl)) | ((with_reducible refine iload ?_); first | refine ldb1 HM.out 0 rfl rfl rfl ?_ | refine ldb1 HM.out 1 rfl rfl rfl ?_ | refine ldbW HM.out 0 rfl rfl rfl ?_ | refine ldbW HM.out 1 rfl rfl rfl ?_ | ((first | refine ldbS HM.out 0 rfl rfl rfl ?_ | refine ldbS HM.out 1 rfl rfl rfl ?_); simp only [List.take, List.drop])) | ((with_reducible refine istore ?_); (first | ((first | refine stbW rfl HM.out 0 rfl rfl rfl rfl rfl rfl ?_ | refine stbW rfl HM.out 1 rfl rfl rfl rfl rfl rfl ?_); intro W1 HM1; replace HM := Lib.hid HM1; clear HM1; simp only [List.set] at HM) | ((first | refine stbS rfl HM.out 0 rfl rfl rfl rfl rfl rfl ?_ | refine stbS rfl HM.out 1 rfl rfl rfl rfl rfl rfl ?_); intro W1 HM1; replace HM := Lib.hid HM1; clear HM1; simp only [lss, Nat.reduceAdd] at HM))) | ((with_reducible refine ialloc ?_); refine alb rfl HM.out ?_; intro g1 W1 HM1; replace HM := Lib.hid HM1; clear HM1) | ((with_reducible refine ibox ?_); refine bxA rfl HM.out rfl ?_; intro g1 W1 HM1; replace HM := Lib.hid HM1; clear HM1))
              refine wp_region_steps2 [(true, 0), (true, 1), (true, 2), (true, 3), (true, 4), (false, 5), (true, 6)] (by kernel_rfl) (by kernel_rfl) rfl (by kernel_rfl) (fun _ _ _ _ _ h => h) HM.out _ (.cons_cons _ (.cons_cons _ .slnil)) ?_
              intro hNE W1 HM1; replace HM := Lib.hid HM1; clear HM1
              have HS0 := Lib.hid (HM.out.sub (.cons_cons _ (.cons_cons _ .slnil)))
              simp only [wpSteps, List.getElem?_cons_succ, List.getElem?_cons_zero]
              (repeat (first | ((with_reducible refine wpQuiet_nil ?_); (try dsimp only)) | ((with_reducible refine qload ?_); first | (refine qdbW HS0.out 0 rfl rfl rfl ?_) | (refine qdbW HS0.out 1 rfl rfl rfl ?_) | (refine qdbS HS0.out 0 rfl rfl rfl ?_; simp only [List.take, List.drop]) | (refine qdbS HS0.out 1 rfl rfl rfl ?_; simp only [List.take, List.drop])) | ((with_reducible refine qat 64 ?_); (refine qixa rfl rfl rfl hxn ?_)) | ((with_reducible refine qat 65 ?_); (refine qdA (vs := [.int .i64 uk, .int .i64 uo]) rfl rfl (fun W ⟨q, hq⟩ => hq ▸ q.mem.olds EU.out) ?_)) | go_big_quiet_step (fail) | quiet_step (fail)))
              go_wp2_with (first | (go_at_call 65; (with_reducible refine (HMt.out _).mono ?_); rintro e W1 ⟨rfl, hb⟩; replace HM := Lib.hid (HM.out.next hb); clear hb))
              refine ⟨⟨⟨_, HM.out.sub (by repeat (first | exact List.nil_sublist _ | with_reducible refine List.Sublist.cons_cons _ ?_ | refine List.Sublist.cons _ ?_))⟩, rfl⟩, ?_⟩
              (try dsimp only)
              (repeat (first | ((with_reducible refine wpQuiet_nil ?_); (try dsimp only)) | go_big_quiet_step (fail) | quiet_step (fail)))
              clear HS0 hNE
              go_wp2_with fail
              go_roundw
              case rel => exact ⟨k + 1, by go_num, hlt3.out, HB, HM⟩
              case measure => have := hlt3.out; simp [intOf]; omega
          · rw [if_neg h2] at hm
            have b30 : (n.op == 30) = false := beq_false_of_ne h2
            have HMt := Lib.hid (fun W => (show ordB t.k t.o uk uo = m from hm) ▸ rOrdered_any t.k t.o uk uo W HT.out huf)
            clear hx hu huf hlb htb htu hm HI h1 h2
            cases m
            · have HB := Lib.hid (show r = false by rw [← HI2.out]; rfl)
              go_wp2_with (first | ((with_reducible refine iat 21 ?_); (refine ixa rfl rfl rfl hi ?_)) | ((with_reducible refine iat 29 ?_); (refine ixa rfl rfl rfl hi ?_)) | ((with_reducible refine iat 32 ?_); (refine ixa rfl rfl rfl hlt ?_)) | ((with_reducible refine iat 22 ?_); (refine ldx1 (HM.out.old EP.out) rfl ?_)) | ((with_reducible refine iat 30 ?_); (refine ldx1 (HM.out.old EP.out) rfl ?_)) | ((with_reducible refine iat 33 ?_); (refine ldx1 (HM.out.old EX.out) rfl ?_)) | ((with_reducible refine igd ?_); (with_reducible refine skip_op ?_ ?_); (exact rfl)) | ((with_reducible refine iload ?_); first | refine ldb1 HM.out 0 rfl rfl rfl ?_ | refine ldb1 HM.out 1 rfl rfl rfl ?_ | refine ldbW HM.out 0 rfl rfl rfl ?_ | refine ldbW HM.out 1 rfl rfl rfl ?_ | ((first | refine ldbS HM.out 0 rfl rfl rfl ?_ | refine ldbS HM.out 1 rfl rfl rfl ?_); simp only [List.take, List.drop])) | ((with_reducible refine istore ?_); (first | ((first | refine stbW rfl HM.out 0 rfl rfl rfl rfl rfl rfl ?_ | refine stbW rfl HM.out 1 rfl rfl rfl rfl rfl rfl ?_); intro W1 HM1; replace HM := Lib.hid HM1; clear HM1; simp only [List.set] at HM) | ((first | refine stbS rfl HM.out 0 rfl rfl rfl rfl rfl rfl ?_ | refine stbS rfl HM.out 1 rfl rfl rfl rfl rfl rfl ?_); intro W1 HM1; replace HM := Lib.hid HM1; clear HM1; simp only [lss, Nat.reduceAdd] at HM))) | ((with_reducible refine ialloc ?_); refine alb rfl HM.out ?_; intro g1 W1 HM1; replace HM := Lib.hid HM1; clear HM1) | ((with_reducible refine ibox ?_); refine bxA rfl HM.out rfl ?_; intro g1 W1 HM1; replace HM := Lib.hid HM1; clear HM1))
              refine wp_region_steps2 [(true, 0), (true, 1), (true, 2), (true, 3), (true, 4), (false, 5), (true, 6)] (by kernel_rfl) (by kernel_rfl) rfl (by kernel_rfl) (fun _ _ _ _ _ h => h) HM.out _ (.cons_cons _ (.cons_cons _ .slnil)) ?_
              intro hNE W1 HM1; replace HM := Lib.hid HM1; clear HM1
              have HS0 := Lib.hid (HM.out.sub (.cons_cons _ (.cons_cons _ .slnil)))
              simp only [wpSteps, List.getElem?_cons_succ, List.getElem?_cons_zero]
              (repeat (first | ((with_reducible refine wpQuiet_nil ?_); (try dsimp only)) | ((with_reducible refine qload ?_); first | (refine qdbW HS0.out 0 rfl rfl rfl ?_) | (refine qdbW HS0.out 1 rfl rfl rfl ?_) | (refine qdbS HS0.out 0 rfl rfl rfl ?_; simp only [List.take, List.drop]) | (refine qdbS HS0.out 1 rfl rfl rfl ?_; simp only [List.take, List.drop])) | ((with_reducible refine qat 37 ?_); (refine qixa rfl rfl rfl hxn ?_)) | ((with_reducible refine qat 38 ?_); (refine qdA (vs := [.int .i64 uk, .int .i64 uo]) rfl rfl (fun W ⟨q, hq⟩ => hq ▸ q.mem.olds EU.out) ?_)) | go_big_quiet_step (fail) | quiet_step (fail)))
              go_wp2_with (first | (go_at_call 66; (with_reducible refine (HMt.out _).mono ?_); rintro e W1 ⟨rfl, hb⟩; replace HM := Lib.hid (HM.out.next hb); clear hb))
              refine ⟨⟨⟨_, HM.out.sub (by repeat (first | exact List.nil_sublist _ | with_reducible refine List.Sublist.cons_cons _ ?_ | refine List.Sublist.cons _ ?_))⟩, rfl⟩, ?_⟩
              (try dsimp only)
              (repeat (first | ((with_reducible refine wpQuiet_nil ?_); (try dsimp only)) | go_big_quiet_step (fail) | quiet_step (fail)))
              clear HS0 hNE
              go_wp2_with fail
              go_ret
              exact ⟨by rw [HB.out]; rfl, HM.out.below⟩
            · have HB := Lib.hid (show (l.drop (k + 1)).all (fitE tys (fitF ns parts tys i) n.op t) = r by rw [← HI2.out]; rfl)
              go_wp2_with (first | ((with_reducible refine iat 21 ?_); (refine ixa rfl rfl rfl hi ?_)) | ((with_reducible refine iat 29 ?_); (refine ixa rfl rfl rfl hi ?_)) | ((with_reducible refine iat 32 ?_); (refine ixa rfl rfl rfl hlt ?_)) | ((with_reducible refine iat 22 ?_); (refine ldx1 (HM.out.old EP.out) rfl ?_)) | ((with_reducible refine iat 30 ?_); (refine ldx1 (HM.out.old EP.out) rfl ?_)) | ((with_reducible refine iat 33 ?_); (refine ldx1 (HM.out.old EX.out) rfl ?_)) | ((with_reducible refine igd ?_); (with_reducible refine skip_op ?_ ?_); (exact rfl)) | ((with_reducible refine iload ?_); first | refine ldb1 HM.out 0 rfl rfl rfl ?_ | refine ldb1 HM.out 1 rfl rfl rfl ?_ | refine ldbW HM.out 0 rfl rfl rfl ?_ | refine ldbW HM.out 1 rfl rfl rfl ?_ | ((first | refine ldbS HM.out 0 rfl rfl rfl ?_ | refine ldbS HM.out 1 rfl rfl rfl ?_); simp only [List.take, List.drop])) | ((with_reducible refine istore ?_); (first | ((first | refine stbW rfl HM.out 0 rfl rfl rfl rfl rfl rfl ?_ | refine stbW rfl HM.out 1 rfl rfl rfl rfl rfl rfl ?_); intro W1 HM1; replace HM := Lib.hid HM1; clear HM1; simp only [List.set] at HM) | ((first | refine stbS rfl HM.out 0 rfl rfl rfl rfl rfl rfl ?_ | refine stbS rfl HM.out 1 rfl rfl rfl rfl rfl rfl ?_); intro W1 HM1; replace HM := Lib.hid HM1; clear HM1; simp only [lss, Nat.reduceAdd] at HM))) | ((with_reducible refine ialloc ?_); refine alb rfl HM.out ?_; intro g1 W1 HM1; replace HM := Lib.hid HM1; clear HM1) | ((with_reducible refine ibox ?_); refine bxA rfl HM.out rfl ?_; intro g1 W1 HM1; replace HM := Lib.hid HM1; clear HM1))
              refine wp_region_steps2 [(true, 0), (true, 1), (true, 2), (true, 3), (true, 4), (false, 5), (true, 6)] (by kernel_rfl) (by kernel_rfl) rfl (by kernel_rfl) (fun _ _ _ _ _ h => h) HM.out _ (.cons_cons _ (.cons_cons _ .slnil)) ?_
              intro hNE W1 HM1; replace HM := Lib.hid HM1; clear HM1
              have HS0 := Lib.hid (HM.out.sub (.cons_cons _ (.cons_cons _ .slnil)))
              simp only [wpSteps, List.getElem?_cons_succ, List.getElem?_cons_zero]
              (repeat (first | ((with_reducible refine wpQuiet_nil ?_); (try dsimp only)) | ((with_reducible refine qload ?_); first | (refine qdbW HS0.out 0 rfl rfl rfl ?_) | (refine qdbW HS0.out 1 rfl rfl rfl ?_) | (refine qdbS HS0.out 0 rfl rfl rfl ?_; simp only [List.take, List.drop]) | (refine qdbS HS0.out 1 rfl rfl rfl ?_; simp only [List.take, List.drop])) | ((with_reducible refine qat 37 ?_); (refine qixa rfl rfl rfl hxn ?_)) | ((with_reducible refine qat 38 ?_); (refine qdA (vs := [.int .i64 uk, .int .i64 uo]) rfl rfl (fun W ⟨q, hq⟩ => hq ▸ q.mem.olds EU.out) ?_)) | go_big_quiet_step (fail) | quiet_step (fail)))
              go_wp2_with (first | (go_at_call 66; (with_reducible refine (HMt.out _).mono ?_); rintro e W1 ⟨rfl, hb⟩; replace HM := Lib.hid (HM.out.next hb); clear hb))
              refine ⟨⟨⟨_, HM.out.sub (by repeat (first | exact List.nil_sublist _ | with_reducible refine List.Sublist.cons_cons _ ?_ | refine List.Sublist.cons _ ?_))⟩, rfl⟩, ?_⟩
              (try dsimp only)
              (repeat (first | ((with_reducible refine wpQuiet_nil ?_); (try dsimp only)) | go_big_quiet_step (fail) | quiet_step (fail)))
              clear HS0 hNE
              go_wp2_with fail
              go_roundw
              case rel => exact ⟨k + 1, by go_num, hlt3.out, HB, HM⟩
              case measure => have := hlt3.out; simp [intOf]; omega
      · obtain rfl : k = l.length := by omega
        have hr : r = true := by rw [← HI.out, List.drop_of_length_le (Nat.le_refl _)]; rfl
        subst hr
        have d1 : decide ((l.length : Int) < l.length) = false := by simp
        go_wp2_with (first | ((with_reducible refine iat 21 ?_); (refine ixa rfl rfl rfl hi ?_)) | ((with_reducible refine iat 22 ?_); (refine ldx1 (HM.out.old EP.out) rfl ?_)) | ((with_reducible refine igd ?_); (with_reducible refine skip_op ?_ ?_); (exact rfl)) | ((with_reducible refine iload ?_); first | refine ldb1 HM.out 0 rfl rfl rfl ?_ | refine ldb1 HM.out 1 rfl rfl rfl ?_ | refine ldbW HM.out 0 rfl rfl rfl ?_ | refine ldbW HM.out 1 rfl rfl rfl ?_ | ((first | refine ldbS HM.out 0 rfl rfl rfl ?_ | refine ldbS HM.out 1 rfl rfl rfl ?_); simp only [List.take, List.drop])) | ((with_reducible refine istore ?_); (first | ((first | refine stbW rfl HM.out 0 rfl rfl rfl rfl rfl rfl ?_ | refine stbW rfl HM.out 1 rfl rfl rfl rfl rfl rfl ?_); intro W1 HM1; replace HM := Lib.hid HM1; clear HM1; simp only [List.set] at HM) | ((first | refine stbS rfl HM.out 0 rfl rfl rfl rfl rfl rfl ?_ | refine stbS rfl HM.out 1 rfl rfl rfl rfl rfl rfl ?_); intro W1 HM1; replace HM := Lib.hid HM1; clear HM1; simp only [lss, Nat.reduceAdd] at HM))) | ((with_reducible refine ialloc ?_); refine alb rfl HM.out ?_; intro g1 W1 HM1; replace HM := Lib.hid HM1; clear HM1) | ((with_reducible refine ibox ?_); refine bxA rfl HM.out rfl ?_; intro g1 W1 HM1; replace HM := Lib.hid HM1; clear HM1))
        go_ret
        exact ⟨rfl, HM.out.below⟩
end Go.Proofs.YtpjcjgikfplgnaaDoor
