/- How many parts a value has: the reference, by a stack of lists. (short) -/
import Derived.Test.YtgobdcmoelcckaaGreatDoorValB
namespace Go.Proofs.YtgobdcmoelcckaaGreatDoor
open Go.RowKit
set_option linter.unusedVariables false
set_option linter.unusedSimpArgs false
set_option maxRecDepth 100000

/-- A list that waits on the stack. -/
structure SlD where
  p : Option Addr
  c : Nat
  l : List VD
def SlD.cs (d : SlD) : List Value := [.slice d.p d.l.length d.c]
theorem SlD.cs_len (d : SlD) : d.cs.length = 1 := rfl
structure SlD.ok (W : World) (d : SlD) : Prop where
  ne : d.l ≠ []
  lies : ∃ ls, Sl W d.p ls ∧ VD.ats W d.l ls
  wf : VD.wfL 1048576 d.l
  len : d.l.length ≤ 1048576
def sumD : List SlD → Nat
  | [] => 0
  | d :: r => VD.partsL d.l + sumD r
theorem sumD_append (a b : List SlD) : sumD (a ++ b) = sumD a + sumD b := by
  induction a with
  | nil => simp [sumD]
  | cons x r ih => simp only [List.cons_append, sumD, ih]; omega
theorem sumD_last {S : List SlD} {k : Nat} {d : SlD} (hl : S.length = k + 1) (hd : S[k]? = some d) : sumD S = sumD (S.take k) + VD.partsL d.l := by
  have h : S = S.take k ++ [d] := by
    have h1 : S.take (k + 1) = S.take k ++ [d] := by rw [List.take_add_one, hd]; rfl
    rw [← h1, ← hl, List.take_length]
  have h2 := congrArg sumD h
  rw [sumD_append] at h2
  simp only [sumD] at h2
  omega
theorem Mem.boxrw {w0 W : World} {L : List Res} (h : Mem w0 W L) {k : Nat} {g j n : Nat} {e : TypeId} {cs : List Value} (hk : L[k]? = some (.box g e cs)) (hl : cs.length = n * j) (hn : n ≤ maxLen) : Mem w0 W (L.set k (.row (some ⟨g, 0, none⟩) n e j n cs)) := h.turn0 hk (box_row (h.get hk) hl hn) (fun g e => e)
theorem partsL_drop {l : List VD} {i : Nat} {x : VD} (h : l[i]? = some x) : VD.partsL (l.drop i) = x.parts + VD.partsL (l.drop (i + 1)) := by
  obtain ⟨hi, e⟩ := List.getElem?_eq_some_iff.1 h
  rw [List.drop_eq_getElem_cons hi, e]
  rfl
theorem VD.partsL_zero {l : List VD} (h : l.length = 0) : VD.partsL l = 0 := by
  rw [List.eq_nil_of_length_eq_zero h]; rfl
theorem stack_cell {S : List SlD} {k : Nat} {d : SlD} (hd : S[k]? = some d) : (S.flatMap SlD.cs)[k]? = some (.slice d.p d.l.length d.c) := by
  have h := flat_drop SlD.cs 1 SlD.cs_len S k
  rw [Nat.mul_one] at h
  have h2 : ((S.flatMap SlD.cs).drop k)[0]? = some (.slice d.p d.l.length d.c) := by
    rw [h]
    obtain ⟨hi, e⟩ := List.getElem?_eq_some_iff.1 hd
    rw [List.drop_eq_getElem_cons hi, e]
    rfl
  rw [List.getElem?_drop] at h2
  exact h2

theorem stack_push {w0 W : World} {p : Option Addr} {c s : Nat} {e : TypeId} {S : List SlD} {d : SlD} (hl : S.length = s) (h : Mem w0 W [.row p c e 1 (s + 1) ((S.flatMap SlD.cs).take (s * 1) ++ [.slice d.p d.l.length d.c])]) : Mem w0 W [.row p c e 1 (s + 1) ((S ++ [d]).flatMap SlD.cs)] := by
  rw [flat_take SlD.cs 1 SlD.cs_len, ← hl, List.take_length] at h
  rw [List.flatMap_append, ← hl]
  simpa [SlD.cs] using h
theorem sl_one {B : Nat} {W : World} {g : Nat} {t : TypeId} {v : VD} {cs : List Value} (hb : (Res.box g t cs).holds B W) (hv : v.at W cs) : Sl W (some ⟨g, 0, none⟩) cs ∧ VD.ats W [v] cs := by
  refine ⟨⟨(fun e => by cases e), fun a e => ?_⟩, ?_⟩
  · cases e
    exact box_cells hb 0
  · simp only [VD.ats]
    exact ⟨cs, [], by simp, hv, rfl⟩

set_option maxHeartbeats 16000000 in
theorem rcount_any (v : VD) (cs : List Value) (m : Nat) (w : World) (hv : v.at w cs) (hwf : v.wf 1048576) (hm : m ≤ 1000) : Calls Tryz.prog 39 #[.agg cs.toArray, .int .i64 (m : Nat)] w fun e w' => e = .returned (.int .i64 (cntI v.parts m)) ∧ RowKit.Below w.heap.size w w' := by
  obtain ⟨r, hr⟩ : ∃ r, cntI v.parts m = r := ⟨_, rfl⟩
  rw [hr]
  obtain ⟨N, hN⟩ : ∃ N, v.parts = N := ⟨_, rfl⟩
  have HR := Lib.hid (show r = min (N : Int) (m + 1) by rw [← hr, ← hN]; rfl)
  have HM := Lib.hid (Mem.start w)
  have HV := Lib.hid hv
  have HF := Lib.hid hwf
  have HNN := Lib.hid hN
  have HD0 := Lib.hid (show ∀ W g t, RowKit.Below w.heap.size w W → (Res.box g t cs).holds w.heap.size W → ∃ D : SlD, D.ok W ∧ D.cs = [.slice (some ⟨g, 0, none⟩) 1 1] ∧ VD.partsL D.l = N from fun W g t hb hbox => by
    obtain ⟨h1, h2⟩ := sl_one hbox (VD.at.below hb HV.out)
    exact ⟨⟨some ⟨g, 0, none⟩, 1, [v]⟩, ⟨by simp, ⟨_, h1, h2⟩, by simp only [VD.wfL]; exact ⟨HF.out, trivial⟩, by simp⟩, rfl, by rw [← HNN.out]; simp [VD.partsL]⟩)
  obtain ⟨k, y, ⟨ng, hi, lo, sc⟩, t, d, l, ns⟩ := v
  simp only [VD.at, vcs] at hv
  obtain ⟨lp, np, lc, nc, ls, rfl, -⟩ := hv
  clear hr hN hwf
  go_enter Tryz.func39, Tryz.ntmps39
  go_wp2_with (first | ((with_reducible refine iat 10 ?_); (refine hbs1A HM rfl rfl rfl rfl ?_; intro g10 W0 HM0; clear HM; have HM := Lib.hid (Mem.start W0))) | ((with_reducible refine skip_op ?_ ?_); exact rfl) | refine mP ?_ | (refine mL ?_; clear HM; intro g1 W1 HM) | ((with_reducible refine iat 2 ?_); refine mB ?_; clear HM; intro g2 W1 HM))
  obtain ⟨D, hD1, hD2, hD3⟩ := HD0.out W0 g10 30 HM0.out.below (HM0.out.get (k := 0) rfl)
  have HB0 := Lib.hid HM0.out.below
  have HD1 := Lib.hid hD1
  have HD2 := Lib.hid hD2
  have HD3 := Lib.hid hD3
  clear HM0 HD0 hD1 hD2 hD3
  go_loopw [5, 6] (fun nv tv wr => ∃ (n s : Nat) (S : List SlD) (p : Option Addr) (c : Nat), nv = .int .i64 n ∧ tv = .slice p s c ∧ n ≤ m + 1 ∧ s ≤ n + 1 ∧ Hid (S.length = s) ∧ Hid (n + sumD S = N ∨ (n = m + 1 ∧ m + 1 ≤ N)) ∧ Hid (∀ d ∈ S, SlD.ok W0 d) ∧ Hid (Mem W0 wr [.row p c 27 1 s (S.flatMap SlD.cs)])) (fun nv _ _ => m + 1 - (intOf nv).toNat)
  case atStart => exact ⟨0, 1, [D], _, _, rfl, rfl, by omega, by omega, Lib.hid rfl, Lib.hid (Or.inl (by have := HD3.out; simp only [sumD]; omega)), Lib.hid (fun d hd => by rw [List.mem_singleton.1 hd]; exact HD1.out), Lib.hid (by rw [show [D].flatMap SlD.cs = D.cs from by simp, HD2.out]; exact (HM.out.boxrw (k := 0) (j := 1) (n := 1) rfl rfl (by decide)).sub (.cons_cons _ (List.nil_sublist _)))⟩
  case round =>
    clear HM HD1 HD2 HD3
    obtain ⟨n, s, S, p, c, rfl, rfl, hn, hs, HL, HI, HS, HM⟩ := hrel
    obtain _ | j := s
    · have HE := Lib.hid (show (n : Int) = r by
        have h1 := HR.out
        have h2 := HI.out
        rw [List.eq_nil_of_length_eq_zero HL.out] at h2
        simp only [sumD] at h2
        omega)
      go_wp2
      go_ret
      exact ⟨by rw [← HE.out]; rfl, HB0.out.trans (HM.out.below.mono HB0.out.size)⟩
    · by_cases hle : n ≤ m
      · have q1 : decide ((n : Int) ≤ m) = true := decide_eq_true (by omega)
        have hj : j < S.length := by have := HL.out; omega
        obtain ⟨⟨dp, dc, dl⟩, hd⟩ : ∃ d, S[j]? = some d := ⟨_, List.getElem?_eq_getElem hj⟩
        have hok := HS.out _ (List.mem_of_getElem? hd)
        have HLs := Lib.hid hok.lies
        have HWf := Lib.hid hok.wf
        have hne := hok.ne
        have hdlb := hok.len
        have HCe := Lib.hid (stack_cell hd)
        have HSum := Lib.hid (sumD_last HL.out hd)
        have hpos : 0 < dl.length := List.length_pos_iff.2 hne
        have HTk := Lib.hid (show (S.flatMap SlD.cs).take (j * 1) = (S.take j).flatMap SlD.cs from flat_take SlD.cs 1 SlD.cs_len S j)
        have HTl := Lib.hid (show (S.take j).length = j by rw [List.length_take]; omega)
        have HI0 := Lib.hid (show n + sumD S = N ∨ n = m + 1 from HI.out.imp id (fun h => h.1))
        have HS0 := Lib.hid (show ∀ d ∈ S.take j, SlD.ok W0 d from fun d h => HS.out d (List.mem_of_mem_take h))
        obtain ⟨b0, rfl⟩ : ∃ b, p = some b := by obtain ⟨g, h⟩ := row_some (HM.out.get (k := 0) rfl) (by omega); exact ⟨_, h⟩
        clear hj hd hok hne HS HI
        have hx : wr.cell? (b0.add j) = some (.slice dp dl.length dc) := row_cell (HM.out.get (k := 0) rfl) HCe.out
        go_wp2_with (first | ((with_reducible refine iat 24 ?_); (refine ixa rfl rfl (i := j) (by omega) (by omega) ?_)) | ((with_reducible refine iat 30 ?_); (refine slt HM.out 0 rfl rfl rfl (m := j) (by omega) (by omega) ?_; intro HM1; clear HM; have HM := Lib.hid HM1; clear HM1; simp only [List.set] at HM)))
        clear hx
        rw [HTk.out] at HM
        clear HTk HCe
        go_loopw [8, 5, 6] (fun iv nv tv wr => ∃ (i n2 s2 : Nat) (S2 : List SlD) (p2 : Option Addr) (c2 : Nat), iv = .int .i64 i ∧ nv = .int .i64 n2 ∧ tv = .slice p2 s2 c2 ∧ i ≤ dl.length ∧ Hid (n2 = n + i) ∧ n2 ≤ m + 1 ∧ s2 ≤ n2 ∧ Hid (S2.length = s2) ∧ Hid (n2 + VD.partsL (dl.drop i) + sumD S2 = N) ∧ Hid (∀ d ∈ S2, SlD.ok W0 d) ∧ Hid (Mem W0 wr [.row p2 c2 27 1 s2 (S2.flatMap SlD.cs)])) (fun iv _ _ _ => dl.length - (intOf iv).toNat)
        case atStart => exact ⟨0, n, j, S.take j, _, _, rfl, rfl, rfl, by omega, Lib.hid rfl, by omega, by omega, HTl, Lib.hid (by have h1 := HI0.out; have h2 := HSum.out; rw [List.drop_zero]; omega), HS0, HM⟩
        case round =>
          clear HM HS0 HTl
          obtain ⟨i, n2, s2, S2, p2, c2, rfl, rfl, rfl, hi, HN2, hnm, hs2, HL2, HI2, HS2, HM⟩ := hrel
          by_cases hlt : i < dl.length
          · have q0 : decide ((i : Int) < dl.length) = true := decide_eq_true (by omega)
            by_cases hle2 : n2 ≤ m
            · have q2 : decide ((n2 : Int) ≤ m) = true := decide_eq_true (by omega)
              obtain ⟨x, hx⟩ : ∃ x, dl[i]? = some x := ⟨_, List.getElem?_eq_getElem hlt⟩
              obtain ⟨ls1, hS1, hA1⟩ := HLs.out
              obtain ⟨b, cx, rfl, hxa, hxc⟩ := vrow hS1 hA1 hx
              have HXw := Lib.hid (VD.wfL_get HWf.out hx)
              have HDr := Lib.hid (partsL_drop hx)
              obtain ⟨k1, y1, ⟨ng1, hi1, lo1, sc1⟩, t1, d1, l1, ns1⟩ := x
              simp only [VD.at, vcs] at hxa
              obtain ⟨lp1, np1, lc1, nc1, ls2, rfl, -, -, hSl2, hA2⟩ := hxa
              have HC := Lib.hid hxc
              have HNew := Lib.hid (fun (h : l1 ≠ []) => (show SlD.ok W0 ⟨lp1, lc1, l1⟩ from ⟨h, ⟨_, hSl2, hA2⟩, by have h := HXw.out; simp only [VD.wf] at h; exact h.2.2.2.2.2.2, by have h := HXw.out; simp only [VD.wf] at h; exact h.2.2.2.1⟩))
              have HPt := Lib.hid (show VD.partsL (dl.drop i) = VD.partsL l1 + 1 + VD.partsL (dl.drop (i + 1)) from HDr.out)
              clear hx hS1 hA1 hxc hSl2 hA2 HXw HDr
              by_cases hl1 : l1.length = 0
              · have HZ := Lib.hid (VD.partsL_zero hl1)
                have q3 : decide ((0 : Int) < l1.length) = false := decide_eq_false (by omega)
                go_wp2_with (first | (refine ixa rfl rfl rfl hlt ?_) | ((with_reducible refine iat 48 ?_); (refine ldxf (i := 8) (v := .slice lp1 l1.length lc1) (HM.out.olds HC.out) rfl rfl rfl ?_)))
                go_roundw
                case rel => exact ⟨i + 1, n2 + 1, s2, S2, _, _, by go_num, by go_num, rfl, by omega, Lib.hid (by have := HN2.out; omega), by omega, by omega, HL2, Lib.hid (by have h1 := HI2.out; have h2 := HPt.out; have h3 := HZ.out; omega), HS2, HM⟩
                case measure => simp [intOf]; omega
              · have q3 : decide ((0 : Int) < l1.length) = true := decide_eq_true (by omega)
                have HN1 := Lib.hid (HNew.out (fun e => hl1 (by rw [e]; rfl)))
                go_wp2_with (first | (refine ixa rfl rfl rfl hlt ?_) | ((with_reducible refine iat 48 ?_); (refine ldxf (i := 8) (v := .slice lp1 l1.length lc1) (HM.out.olds HC.out) rfl rfl rfl ?_)) | ((with_reducible refine iat 56 ?_); (refine ldxf (i := 8) (v := .slice lp1 l1.length lc1) (HM.out.olds HC.out) rfl rfl rfl ?_)) | (refine apb rfl HM.out 1 0 rfl rfl rfl rfl rfl rfl (by omega) (by omega) (by omega) ?_; intro p1 cap1 W1 HM1; replace HM := Lib.hid HM1; clear HM1; simp only [List.set] at HM) | ((with_reducible refine skip_op ?_ ?_); exact rfl) | refine mP ?_ | (refine mL ?_; clear HM; intro g1 W1 HM) | (refine mB ?_; clear HM; intro g1 W1 HM))
                go_roundw
                case rel => exact ⟨i + 1, n2 + 1, s2 + 1, S2 ++ [⟨lp1, lc1, l1⟩], _, _, by go_num, by go_num, rfl, by omega, Lib.hid (by have := HN2.out; omega), by omega, by omega, Lib.hid (by rw [List.length_append, HL2.out]; rfl), Lib.hid (by have h1 := HI2.out; have h2 := HPt.out; rw [sumD_append]; simp only [sumD]; omega), Lib.hid (fun d hd => by
                  rcases List.mem_append.1 hd with h | h
                  · exact HS2.out d h
                  · rw [List.mem_singleton.1 h]; exact HN1.out), Lib.hid (stack_push HL2.out (HM.out.sub (.cons _ (.refl _))))⟩
                case measure => simp [intOf]; omega
            · have q2 : decide ((n2 : Int) ≤ m) = false := decide_eq_false (by omega)
              go_wp2
              go_roundw
              case rel => exact ⟨n2, s2, S2, _, _, rfl, rfl, by omega, by omega, HL2, Lib.hid (Or.inr ⟨by omega, by have := HI2.out; omega⟩), HS2, HM⟩
              case measure => have := HN2.out; simp [intOf]; omega
          · obtain rfl : i = dl.length := by omega
            have q0 : decide ((dl.length : Int) < dl.length) = false := by simp
            go_wp2
            go_roundw
            case rel => exact ⟨n2, s2, S2, _, _, rfl, rfl, by omega, by omega, HL2, Lib.hid (Or.inl (by have h := HI2.out; rw [List.drop_length] at h; simp only [VD.partsL] at h; omega)), HS2, HM⟩
            case measure => have := HN2.out; simp [intOf]; omega
      · have HE := Lib.hid (show (n : Int) = r by
          have h1 := HR.out
          have h2 := HI.out
          omega)
        have q1 : decide ((n : Int) ≤ m) = false := decide_eq_false (by omega)
        go_wp2
        go_ret
        exact ⟨by rw [← HE.out]; rfl, HB0.out.trans (HM.out.below.mono HB0.out.size)⟩
end Go.Proofs.YtgobdcmoelcckaaGreatDoor
