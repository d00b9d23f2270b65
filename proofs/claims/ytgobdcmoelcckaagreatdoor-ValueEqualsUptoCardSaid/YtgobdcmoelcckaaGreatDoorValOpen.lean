/- Values as they come in: plain data; what a bound on the whole gives. -/
import Derived.OpenShut
import Derived.Test.YtgobdcmoelcckaaGreatDoorSepA
import Derived.Test.YtgobdcmoelcckaaGreatDoorRows
import Derived.Test.YtgobdcmoelcckaaGreatDoorValPlain
namespace Go.Proofs.YtgobdcmoelcckaaGreatDoor
open Go.RowKit Go.ChangeShapes Go.WideShapes Go.Deep
set_option linter.unusedVariables false
set_option maxRecDepth 100000
theorem word_nat {v : Int} (h : (Lit.int .u64 v).wf = true) : ∃ n : Nat, v = (n : Int) ∧ n < 2 ^ 64 := by
  have := bounds_u64 h
  exact ⟨v.toNat, by omega, by omega⟩
theorem ats_pairs {W : World} : ∀ (L : List (VD × List Value)), (∀ y ∈ L, y.1.at W y.2) → VD.ats W (L.map (·.1)) (L.flatMap (·.2))
  | [], _ => by simp [VD.ats]
  | y :: r, h => by
    simp only [List.map_cons, List.flatMap_cons, VD.ats]
    exact ⟨_, _, rfl, h y List.mem_cons_self, ats_pairs r fun z hz => h z (List.mem_cons_of_mem _ hz)⟩
theorem cells_pairs {W : World} {a : Addr} : ∀ (L : List (VD × List Value)) (o : Nat), (∀ y ∈ L, y.2.length = 10) → (∀ (i : Nat) (y : VD × List Value), L[i]? = some y → Cells W (a.add ((o + i) * 10)) y.2) → Cells W (a.add (o * 10)) (L.flatMap (·.2))
  | [], o, _, _ => fun j u hj => by simp at hj
  | y :: r, o, hl, h => by
    intro j u hj
    rw [List.flatMap_cons, List.getElem?_append] at hj
    have h10 := hl y List.mem_cons_self
    split at hj
    · exact h 0 y rfl j u hj
    · rename_i hge
      have := cells_pairs r (o + 1) (fun z hz => hl z (List.mem_cons_of_mem _ hz)) (fun i z hz => by
        have := h (i + 1) z (by simpa using hz)
        rwa [show o + (i + 1) = o + 1 + i by omega] at this) (j - y.2.length) u hj
      rw [Go.Deep.add_add] at this ⊢
      rwa [show (o + 1) * 10 + (j - y.2.length) = o * 10 + j by omega] at this
section
variable {H : Type} {enc : TypeId × Value → H} {w : World} {spare : Nat → Bool} {held : Bool}
theorem bulk_mem {d : DataW H} {l : List (DataW H)} (h : d ∈ l) : Rows.uptoBulk d ≤ Rows.uptoBulkAll l := by
  induction l with
  | nil => cases h
  | cons x r ih =>
    simp only [Rows.uptoBulkAll]
    cases List.mem_cons.1 h with
    | inl e => subst e; omega
    | inr e => have := ih e; omega
theorem bulk_one (d : DataW H) : 1 ≤ Rows.uptoBulk d := by
  cases d with
  | lit l => cases l <;> simp [Rows.uptoBulk]
  | nil => simp [Rows.uptoBulk]
  | ptr d => simp [Rows.uptoBulk]
  | slice elems spare => simp [Rows.uptoBulk]
  | agg parts => simp [Rows.uptoBulk]
  | iface t d => simp [Rows.uptoBulk]
  | map entries => simp [Rows.uptoBulk]
  | held h => simp [Rows.uptoBulk]
theorem bulk_length (l : List (DataW H)) : l.length ≤ Rows.uptoBulkAll l := by
  induction l with
  | nil => simp [Rows.uptoBulkAll]
  | cons x r ih => have := bulk_one x; simp only [Rows.uptoBulkAll, List.length_cons]; omega
/-- A row of texts. -/
theorem strs_dec {n : Nat} {cs : List Value} {x : DataW H × List MemPlace} (h : DataW.trod enc Tryz.prog w 0 spare held n 28 cs = some x) :
    ∃ (p : Option Addr) (c : Nat) (l : List ByteArray), cs = [.slice p l.length c] ∧ l.length ≤ c ∧ Sl w p (l.flatMap strL) ∧ l.length ≤ Rows.uptoBulk x.1 ∧ ∀ s ∈ l, s.size ≤ Rows.uptoBulk x.1 := by
  rcases DataW.trod_slice Tryz.underlying28 h with ⟨rfl, rfl⟩ | ⟨a, len, cap, elems, rest, m, -, rfl, rfl, hb, hl, hm, rfl, hel, -, -⟩
  · exact ⟨none, 0, [], rfl, by simp, ⟨fun _ => rfl, fun a e => by cases e⟩, by simp, fun s hs => by cases hs⟩
  · have k1 : Tryz.prog.cellsOf 9 = 1 := by kernel_rfl
    rw [k1] at hel
    obtain ⟨l, hll, hlp⟩ := list_of (p := fun i (y : ByteArray) => Cells w (a.add (i * 1)) (strL y) ∧ y.size ≤ Rows.uptoBulkAll (elems.map (·.1))) elems.length (fun i hi => by
      have h1 := hel i hi
      rw [List.getElem?_eq_getElem hi] at h1
      obtain ⟨cs', hc, ht⟩ := Option.bind_eq_some_iff.1 h1
      obtain ⟨v2, e2, x2, -⟩ := DataW.trod_string (x := elems[i]) Tryz.underlying9 ht
      subst e2
      obtain ⟨_, hcl, hat⟩ := World.cells?_some hc
      refine ⟨v2, fun j u hj => ?_, ?_⟩
      · have hj0 : j = 0 := by have := (List.getElem?_eq_some_iff.1 hj).1; simp [strL] at this; omega
        subst hj0
        rw [hat 0 (by omega)]
        simpa [strL] using hj
      · have h2 := bulk_mem (List.mem_map.2 ⟨elems[i], List.getElem_mem hi, rfl⟩ : elems[i].1 ∈ elems.map (·.1))
        rw [x2] at h2
        simp [Rows.uptoBulk] at h2
        have : v2.data.toList.length = v2.size := by simp
        simp at *
        omega)
    refine ⟨some a, cap, l, by rw [hll], by omega, ⟨(fun e => by cases e), fun b e => by cases e; exact cells_flat strL 1 (by decide) strL_len (fun i y hy => (hlp i y hy).1)⟩, ?_, fun s hs => ?_⟩
    · simp only [Rows.uptoBulk]
      have := bulk_length (elems.map (·.1))
      simp only [List.length_map] at this
      omega
    · obtain ⟨i, hi⟩ := List.mem_iff_getElem?.1 hs
      have := (hlp i s hi).2
      simp only [Rows.uptoBulk]
      omega
theorem val_dec : ∀ (N : Nat) {n : Nat}, n ≤ N → ∀ {cs : List Value} {x : DataW H × List MemPlace}, DataW.trod enc Tryz.prog w 0 spare held n 30 cs = some x → ∃ v : VD, v.at w cs ∧ v.wf (Rows.uptoBulk x.1)
  | 0, n, hn, cs, x, h => by
    obtain rfl : n = 0 := by omega
    simp [DataW.trod] at h
  | N + 1, n, hn, cs, x, h => by
    obtain ⟨xs, m, hm0, rfl, hl, hlen, hf⟩ := DataW.trod_struct Tryz.underlying30 h
    rw [show Tryz.prog.cellsOf 30 = 10 by kernel_rfl] at hl
    have k1 : Tryz.prog.cellsOf 3 = 1 := by kernel_rfl
    have k2 : Tryz.prog.cellsOf 9 = 1 := by kernel_rfl
    have k3 : Tryz.prog.cellsOf 26 = 4 := by kernel_rfl
    have k4 : Tryz.prog.cellsOf 24 = 2 := by kernel_rfl
    have k5 : Tryz.prog.cellsOf 4 = 1 := by kernel_rfl
    have k6 : Tryz.prog.cellsOf 22 = 1 := by kernel_rfl
    have k7 : Tryz.prog.cellsOf 27 = 1 := by kernel_rfl
    have k8 : Tryz.prog.cellsOf 28 = 1 := by kernel_rfl
    match cs, hl, xs, hlen with
    | [c0, c1, c2, c3, c4, c5, c6, c7, c8, c9], _, [y0, y1, y2, y3, y4, y5, y6], _ =>
      have h0 : DataW.trod enc Tryz.prog w 0 spare held m 3 [c0] = some y0 := field_at hf 0 3 0 1 rfl k1
      have h1 : DataW.trod enc Tryz.prog w 0 spare held m 4 [c1] = some y1 := field_at hf 1 4 1 1 rfl k5
      have h2 : DataW.trod enc Tryz.prog w 0 spare held m 26 [c2, c3, c4, c5] = some y2 := field_at hf 2 26 2 4 rfl k3
      have h3 : DataW.trod enc Tryz.prog w 0 spare held m 9 [c6] = some y3 := field_at hf 3 9 6 1 rfl k2
      have h4 : DataW.trod enc Tryz.prog w 0 spare held m 3 [c7] = some y4 := field_at hf 4 3 7 1 rfl k1
      have h5 : DataW.trod enc Tryz.prog w 0 spare held m 27 [c8] = some y5 := field_at hf 5 27 8 1 rfl k7
      have h6 : DataW.trod enc Tryz.prog w 0 spare held m 28 [c9] = some y6 := field_at hf 6 28 9 1 rfl k8
      obtain ⟨v0, e0, -, -⟩ := DataW.trod_int (x := y0) Tryz.underlying3 h0
      obtain ⟨v1, e1, -⟩ := DataW.trod_bool (x := y1) Tryz.underlying4 h1
      obtain ⟨v3, e3, x3, -⟩ := DataW.trod_string (x := y3) Tryz.underlying9 h3
      obtain ⟨v4, e4, -, -⟩ := DataW.trod_int (x := y4) Tryz.underlying3 h4
      obtain ⟨np, nc, ns, e6, hncap, hS, hnl, hns⟩ := strs_dec h6
      obtain ⟨ys, m3, -, -, -, hl3, hf3⟩ := DataW.trod_struct (x := y2) Tryz.underlying26 h2
      have hlist : ∃ (p : Option Addr) (c : Nat) (l : List VD) (ls : List Value), c8 = .slice p l.length c ∧ l.length ≤ c ∧ Sl w p ls ∧ VD.ats w l ls ∧ l.length ≤ Rows.uptoBulk y5.1 ∧ VD.wfL (Rows.uptoBulk y5.1) l := by
        rcases DataW.trod_slice Tryz.underlying27 h5 with ⟨e, rfl⟩ | ⟨a, len, cap, elems, rest, q, hq, e, rfl, hb, hle, hmx, rfl, hel, -, -⟩
        · simp only [List.cons.injEq, and_true] at e
          exact ⟨none, 0, [], [], e, by simp, ⟨fun _ => rfl, fun a e => by cases e⟩, by simp [VD.ats], by simp, by simp [VD.wfL]⟩
        · simp only [List.cons.injEq, and_true] at e
          rw [show Tryz.prog.cellsOf 30 = 10 by kernel_rfl] at hel
          obtain ⟨L, hLl, hLp⟩ := list_of (p := fun i (y : VD × List Value) => Cells w (a.add (i * 10)) y.2 ∧ y.1.at w y.2 ∧ y.1.wf (Rows.uptoBulkAll (elems.map (·.1)))) elems.length (fun i hi => by
            have h1 := hel i hi
            rw [List.getElem?_eq_getElem hi] at h1
            obtain ⟨cs', hc, ht⟩ := Option.bind_eq_some_iff.1 h1
            obtain ⟨v, hv, hwf⟩ := val_dec N (n := q) (by omega) ht
            obtain ⟨_, hcl, hat⟩ := World.cells?_some hc
            have h10 := VD.at_len hv
            exact ⟨(v, cs'), fun j u hj => by rw [hat j (by have h11 : j < cs'.length := (List.getElem?_eq_some_iff.1 hj).1; omega), hj], hv, hwf.mono (bulk_mem (List.mem_map.2 ⟨elems[i], List.getElem_mem hi, rfl⟩))⟩)
          have hmem : ∀ y ∈ L, y.1.at w y.2 ∧ y.1.wf (Rows.uptoBulkAll (elems.map (·.1))) := fun y hy => by
            obtain ⟨i, hi⟩ := List.mem_iff_getElem?.1 hy
            exact (hLp i y hi).2
          refine ⟨some a, cap, L.map (·.1), L.flatMap (·.2), by rw [e, List.length_map, hLl], by rw [List.length_map, hLl]; omega, ⟨(fun e => by cases e), fun b e => ?_⟩, ats_pairs L fun y hy => (hmem y hy).1, ?_, ?_⟩
          · cases e
            have := cells_pairs (a := a) L 0 (fun y hy => VD.at_len (hmem y hy).1) (fun i y hy => by rw [Nat.zero_add]; exact (hLp i y hy).1)
            rwa [show (a.add (0 * 10)) = a by unfold Addr.add; split <;> simp_all] at this
          · simp only [Rows.uptoBulk, List.length_map]
            have := bulk_length (elems.map (·.1))
            simp only [List.length_map] at this
            omega
          · refine VD.wfL_all fun z hz => ?_
            obtain ⟨y, hy, rfl⟩ := List.mem_map.1 hz
            exact (hmem y hy).2.mono (by simp only [Rows.uptoBulk]; omega)
      obtain ⟨lp, lc, l, ls, e5, hlcap, hSl, hats, hll, hwl⟩ := hlist
      match ys, hl3 with
      | [z0, z1, z2], _ =>
        have g0 : DataW.trod enc Tryz.prog w 0 spare held m3 4 [c2] = some z0 := field_at hf3 0 4 0 1 rfl k5
        have g1 : DataW.trod enc Tryz.prog w 0 spare held m3 24 [c3, c4] = some z1 := field_at hf3 1 24 1 2 rfl k4
        have g2 : DataW.trod enc Tryz.prog w 0 spare held m3 3 [c5] = some z2 := field_at hf3 2 3 3 1 rfl k1
        obtain ⟨w0, f0, -⟩ := DataW.trod_bool (x := z0) Tryz.underlying4 g0
        obtain ⟨w3, f3, -, -⟩ := DataW.trod_int (x := z2) Tryz.underlying3 g2
        obtain ⟨us, m4, -, -, -, hl4, hf4⟩ := DataW.trod_struct (x := z1) Tryz.underlying24 g1
        match us, hl4 with
        | [u0, u1], _ =>
          have q0 : DataW.trod enc Tryz.prog w 0 spare held m4 22 [c3] = some u0 := field_at hf4 0 22 0 1 rfl k6
          have q1 : DataW.trod enc Tryz.prog w 0 spare held m4 22 [c4] = some u1 := field_at hf4 1 22 1 1 rfl k6
          obtain ⟨w1, f1, -, b1⟩ := DataW.trod_int (x := u0) Tryz.underlying22 q0
          obtain ⟨w2, f2, -, b2⟩ := DataW.trod_int (x := u1) Tryz.underlying22 q1
          simp at e0 e1 e3 e4 e5 e6 f0 f1 f2 f3
          subst e0 e1 e3 e4 e5 e6 f0 f1 f2 f3
          obtain ⟨n1, rfl, l1⟩ := word_nat b1
          obtain ⟨n2, rfl, l2⟩ := word_nat b2
          have hb3 : Rows.uptoBulk y3.1 = v3.size + 1 := by
            rw [x3]
            simp [Rows.uptoBulk]
          have hB : Rows.uptoBulk (.agg [y0.1, y1.1, y2.1, y3.1, y4.1, y5.1, y6.1] : DataW H) = Rows.uptoBulk y0.1 + (Rows.uptoBulk y1.1 + (Rows.uptoBulk y2.1 + (Rows.uptoBulk y3.1 + (Rows.uptoBulk y4.1 + (Rows.uptoBulk y5.1 + (Rows.uptoBulk y6.1 + 0)))))) + 1 := by simp only [Rows.uptoBulk, Rows.uptoBulkAll]
          refine ⟨.mk v0 v1 ⟨w0, n1, n2, w3⟩ v3 v4 l ns, ?_, ?_⟩
          · simp only [VD.at]
            exact ⟨lp, np, lc, nc, ls, rfl, ⟨hlcap, hncap⟩, hS, hSl, hats⟩
          · simp only [VD.wf]
            show _ ∧ _ ∧ v3.size ≤ Rows.uptoBulk (.agg [y0.1, y1.1, y2.1, y3.1, y4.1, y5.1, y6.1] : DataW H) ∧ _
            rw [show ((([y0, y1, y2, y3, y4, y5, y6] : List (DataW H × List MemPlace)).map (·.1))) = [y0.1, y1.1, y2.1, y3.1, y4.1, y5.1, y6.1] from rfl]
            rw [hB]
            exact ⟨l1, l2, by omega, by omega, by omega, fun s hs => by have := hns s hs; omega, hwl.mono (by omega)⟩
theorem open_val {v : Value} {d : DataW H} {p : List MemPlace} {r : Reach} {b0 : Nat} (hval : Value.okWide Tryz.prog w r b0 30 v) (h : DataW.Trod enc Tryz.prog w 0 (fun _ => true) true 30 v d p) :
    ∃ (x : VD) (cs : List Value), v = .agg cs.toArray ∧ x.at w cs ∧ x.wf (Rows.uptoBulk d) := by
  obtain ⟨cs, n, rfl, hn⟩ := open_struct Tryz.underlying30 hval h
  obtain ⟨x, hx, hwf⟩ := val_dec n (Nat.le_refl n) hn
  exact ⟨x, cs, rfl, hx, hwf⟩
end
end Go.Proofs.YtgobdcmoelcckaaGreatDoor
