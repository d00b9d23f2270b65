/- Pieces as they come in: plain data; what a bound on the whole gives. -/
import Derived.OpenShut
import Derived.Test.YtfnodoepeiknhaaGreatDoorSepA
import Derived.Test.YtfnodoepeiknhaaGreatDoorRows
import Derived.Test.YtfnodoepeiknhaaGreatDoorMarkV
namespace Go.Proofs.YtfnodoepeiknhaaGreatDoor
open Go.RowKit Go.ChangeShapes Go.WideShapes Go.Deep
set_option linter.unusedVariables false
set_option maxRecDepth 100000
section
variable {H : Type} {enc : TypeId × Value → H} {w : World} {base : Nat} {spare : Nat → Bool} {held : Bool}
theorem part_dec {n : Nat} {cs : List Value} {x : DataW H × List MemPlace} (h : DataW.trod enc Tryz.prog w base spare held n 42 cs = some x) :
    ∃ y : PartD, cs = y.cs ∧ (y.n.size ≤ Rows.uptoBulk x.1 ∧ y.v.size ≤ Rows.uptoBulk x.1 ∧ y.t.size ≤ Rows.uptoBulk x.1) := by
  obtain ⟨xs, m, -, rfl, hl, hlen, hf⟩ := DataW.trod_struct Tryz.underlying42 h
  rw [show Tryz.prog.cellsOf 42 = 4 by kernel_rfl] at hl
  have k1 : Tryz.prog.cellsOf 3 = 1 := by kernel_rfl
  have k2 : Tryz.prog.cellsOf 9 = 1 := by kernel_rfl
  match cs, hl, xs, hlen with
  | [c0, c1, c2, c3], _, [y0, y1, y2, y3], _ =>
    have h0 : DataW.trod enc Tryz.prog w base spare held m 3 [c0] = some y0 := field_at hf 0 3 0 1 rfl k1
    have h1 : DataW.trod enc Tryz.prog w base spare held m 9 [c1] = some y1 := field_at hf 1 9 1 1 rfl k2
    have h2 : DataW.trod enc Tryz.prog w base spare held m 9 [c2] = some y2 := field_at hf 2 9 2 1 rfl k2
    have h3 : DataW.trod enc Tryz.prog w base spare held m 9 [c3] = some y3 := field_at hf 3 9 3 1 rfl k2
    obtain ⟨v0, e0, -, -⟩ := DataW.trod_int (x := y0) Tryz.underlying3 h0
    obtain ⟨v1, e1, x1, -⟩ := DataW.trod_string (x := y1) Tryz.underlying9 h1
    obtain ⟨v2, e2, x2, -⟩ := DataW.trod_string (x := y2) Tryz.underlying9 h2
    obtain ⟨v3, e3, x3, -⟩ := DataW.trod_string (x := y3) Tryz.underlying9 h3
    simp at e0 e1 e2 e3
    subst e0 e1 e2 e3
    have b1 : Rows.uptoBulk y1.1 = v1.size + 1 := by rw [x1]; simp [Rows.uptoBulk]
    have b2 : Rows.uptoBulk y2.1 = v2.size + 1 := by rw [x2]; simp [Rows.uptoBulk]
    have b3 : Rows.uptoBulk y3.1 = v3.size + 1 := by rw [x3]; simp [Rows.uptoBulk]
    refine ⟨⟨v0, v1, v2, v3⟩, rfl, ?_⟩
    show v1.size ≤ Rows.uptoBulk (.agg [y0.1, y1.1, y2.1, y3.1]) ∧ v2.size ≤ Rows.uptoBulk (.agg [y0.1, y1.1, y2.1, y3.1]) ∧ v3.size ≤ Rows.uptoBulk (.agg [y0.1, y1.1, y2.1, y3.1])
    simp only [Rows.uptoBulk, Rows.uptoBulkAll, b1, b2, b3]
    omega
theorem bulk_mem {d : DataW H} {l : List (DataW H)} (h : d ∈ l) : Rows.uptoBulk d ≤ Rows.uptoBulkAll l := by
  induction l with
  | nil => cases h
  | cons x r ih =>
    simp only [Rows.uptoBulkAll]
    cases List.mem_cons.1 h with
    | inl e => subst e; omega
    | inr e => have := ih e; omega
theorem bulk_one (d : DataW H) : 1 ≤ Rows.uptoBulk d := by
  cases d with
  | lit l => cases l <;> simp [Rows.uptoBulk]
  | nil => simp [Rows.uptoBulk]
  | ptr d => simp [Rows.uptoBulk]
  | slice elems spare => simp [Rows.uptoBulk]
  | agg parts => simp [Rows.uptoBulk]
  | iface t d => simp [Rows.uptoBulk]
  | map entries => simp [Rows.uptoBulk]
  | held h => simp [Rows.uptoBulk]
theorem bulk_length (l : List (DataW H)) : l.length ≤ Rows.uptoBulkAll l := by
  induction l with
  | nil => simp [Rows.uptoBulkAll]
  | cons x r ih => have := bulk_one x; simp only [Rows.uptoBulkAll, List.length_cons]; omega
end
section
variable {H : Type} {enc : TypeId × Value → H} {w : World}
theorem open_parts {v : Value} {d : DataW H} {p : List MemPlace} {r : Reach} {b0 : Nat} (hval : Value.okWide Tryz.prog w r b0 39 v) (h : DataW.Trod enc Tryz.prog w 0 (fun _ => true) true 39 v d p) (hb : Rows.uptoBulk d ≤ 1048576) :
    ∃ (q : Option Addr) (c : Nat) (l : List PartD), v = .slice q l.length c ∧ Sl w q (l.flatMap PartD.cs) ∧ (∀ x ∈ l, x.n.size ≤ 1099511627776 ∧ x.v.size ≤ 1099511627776 ∧ x.t.size ≤ 1099511627776) ∧ l.length ≤ 1048576 := by
  obtain ⟨q, c, l, hv, hS, hd⟩ := open_rows PartD.cs 4 (by decide) PartD.cs_len (fun (y : PartD) z => y.n.size ≤ Rows.uptoBulk z ∧ y.v.size ≤ Rows.uptoBulk z ∧ y.t.size ≤ Rows.uptoBulk z) Tryz.underlying39 (by kernel_rfl) (fun n cs x hx => part_dec hx) hval h
  refine ⟨q, c, l, hv, hS, ?_⟩
  rcases hd with ⟨-, rfl⟩ | ⟨es, sp, rfl, hl, hg⟩
  · exact ⟨fun x hx => by simp at hx, by simp⟩
  · simp only [Rows.uptoBulk] at hb
    have h1 := bulk_length es
    refine ⟨fun x hx => ?_, by omega⟩
    obtain ⟨i, hi⟩ := List.mem_iff_getElem?.1 hx
    obtain ⟨z, hz, h2, h3, h4⟩ := hg i x hi
    have h6 := bulk_mem (List.mem_of_getElem? hz)
    omega
end
end Go.Proofs.YtfnodoepeiknhaaGreatDoor
