/- The reference's simple at every operation; its types in plain words. (fast) -/
import Derived.Test.YtpjcjgikfplgnaaDoorRefSimpleA
import Derived.Test.YtpjcjgikfplgnaaDoorRefSimpleB
import Derived.Test.YtpjcjgikfplgnaaDoorRefSimpleC
import Derived.Test.YtpjcjgikfplgnaaDoorRefFit
import Derived.Test.YtpjcjgikfplgnaaDoorStepA
import Derived.Test.YtpjcjgikfplgnaaDoorSepA
namespace Go.Proofs.YtpjcjgikfplgnaaDoor
open Go.RowKit
set_option linter.unusedVariables false
set_option linter.unusedSimpArgs false
set_option maxRecDepth 100000

def bare (ts : List TyD) : List ThD := ts.map fun t => ⟨t, []⟩
theorem bare_types (ts : List TyD) : (bare ts).map ThD.t = ts := by unfold bare; rw [List.map_map]; exact List.map_id ts
theorem simple_any (q : Option Addr) (c2 : Nat) (l : List SymD) (n : NodeD) (p : Option Addr) (c : Nat) (ts : List TyD) (w : World) (hop : n.op ≠ 23) (hS : Sl w p (ts.flatMap TyD.cs)) (hf : ∀ t, t ∈ ts → t.form) (hk : kidsB n.op ts.length = true) (hL : Sl w q (l.flatMap SymD.cs)) (hl : ts.length ≤ 4611686018427387904) (hl2 : l.length ≤ 4611686018427387904) :
    Calls Tryd.prog 58 #[.agg n.cs.toArray, .slice p ts.length c, .slice q l.length c2] w fun e w' => e = .returned (resV (typedF l n.op n.text (bare ts))) ∧ Below w.heap.size w w' := by
  unfold typedF
  rw [bare_types]
  by_cases h1 : n.op = 8 ∨ n.op = 10 ∨ n.op = 11 ∨ n.op = 12
  · rw [if_pos h1]
    exact simple_num q c2 l n p c ts w h1 hS hf hl
  rw [if_neg h1]
  by_cases h2 : n.op = 9
  · rw [if_pos h2]
    exact simple_add q c2 l n p c ts w h2 hS hf hl
  rw [if_neg h2]
  by_cases h3 : n.op = 13 ∨ n.op = 14
  · rw [if_pos h3]
    have hlen : ts.length = 2 := by have := kids_eq (m := 2) hk (by rcases h3 with e | e <;> rw [e] <;> rfl) (by decide); omega
    obtain ⟨x, y, rfl⟩ := two_of hlen
    obtain ⟨b, rfl, hb⟩ := hS.some_at (i := 0) TyD.cs_len (by decide) (by simp)
    exact simple_eq q c2 l n b c x y w h3 hb (hf x (by simp)) (hf y (by simp))
  rw [if_neg h3]
  by_cases h4 : n.op = 15 ∨ n.op = 16 ∨ n.op = 17 ∨ n.op = 18
  · rw [if_pos h4]
    have hlen : ts.length = 2 := by have := kids_eq (m := 2) hk (by rcases h4 with e | e | e | e <;> rw [e] <;> rfl) (by decide); omega
    obtain ⟨x, y, rfl⟩ := two_of hlen
    obtain ⟨b, rfl, hb⟩ := hS.some_at (i := 0) TyD.cs_len (by decide) (by simp)
    exact simple_lt q c2 l n b c x y w h4 hb (hf x (by simp)) (hf y (by simp))
  rw [if_neg h4]
  by_cases h5 : n.op = 19 ∨ n.op = 20
  · rw [if_pos h5]
    exact simple_truth q c2 l n p c ts w h5 hS hf hl
  rw [if_neg h5]
  by_cases h6 : n.op = 21
  · rw [if_pos h6]
    have hlen : ts.length = 3 := by have := kids_eq (m := 3) hk (by rw [h6]; rfl) (by decide); omega
    obtain ⟨x, y, z, rfl⟩ := three_of hlen
    obtain ⟨b, rfl, hb⟩ := hS.some_at (i := 0) TyD.cs_len (by decide) (by simp)
    exact simple_if q c2 l n b c x y z w h6 hb (hf x (by simp)) (hf y (by simp)) (hf z (by simp))
  rw [if_neg h6]
  by_cases h7 : n.op = 22
  · rw [if_pos h7]
    have hlen : ts.length = 3 := by have := kids_eq (m := 3) hk (by rw [h7]; rfl) (by decide); omega
    obtain ⟨x, y, z, rfl⟩ := three_of hlen
    obtain ⟨b, rfl, hb⟩ := hS.some_at (i := 0) TyD.cs_len (by decide) (by simp)
    exact simple_between q c2 l n b c x y z w h7 hb (hf x (by simp)) (hf y (by simp)) (hf z (by simp))
  rw [if_neg h7, if_neg hop]
  by_cases h9 : n.op = 24
  · rw [if_pos h9]
    have hlen : ts.length = 1 := by have := kids_eq (m := 1) hk (by rw [h9]; rfl) (by decide); omega
    obtain ⟨x, rfl⟩ := one_of hlen
    obtain ⟨b, rfl, hb⟩ := hS.some_at (i := 0) TyD.cs_len (by decide) (by simp)
    show Calls _ _ _ _ fun e w' => e = .returned (resV (toldF (x.k == 0 && x.o == 0) ⟨0, 0⟩)) ∧ _
    by_cases h0 : x.k = 0
    · by_cases h0' : x.o = 0
      · rw [show (x.k == 0 && x.o == 0) = true by rw [h0, h0']; rfl]
        refine simple_path0 q c2 l n b c x w h9 hb ?_
        obtain ⟨xk, xo⟩ := x
        obtain rfl : xk = 0 := h0
        obtain rfl : xo = 0 := h0'
        rfl
      · rw [show (x.k == 0 && x.o == 0) = false by rw [Bool.and_eq_false_iff]; exact Or.inr (beq_false_of_ne h0')]
        exact simple_path2 q c2 l n b c x w h9 hb h0 h0'
    · rw [show (x.k == 0 && x.o == 0) = false by rw [Bool.and_eq_false_iff]; exact Or.inl (beq_false_of_ne h0)]
      exact simple_path1 q c2 l n b c x w h9 hb h0
  rw [if_neg h9]
  by_cases h10 : n.op = 25
  · rw [if_pos h10]
    exact simple_call q c2 l n p c ts w h10 hS hf hl
  rw [if_neg h10]
  by_cases h11 : n.op = 26
  · rw [if_pos h11]
    exact simple_list q c2 l n p c ts w h11 hS hf hl
  rw [if_neg h11]
  unfold leafF
  by_cases g1 : n.op = 2 ∨ n.op = 3
  · rw [if_pos g1]; exact simple_truths q c2 l n p c ts.length w g1
  rw [if_neg g1]
  by_cases g2 : n.op = 4
  · rw [if_pos g2]; exact simple_numb q c2 l n p c ts.length w g2
  rw [if_neg g2]
  by_cases g3 : n.op = 5
  · rw [if_pos g3]; exact simple_text q c2 l n p c ts.length w g3
  rw [if_neg g3]
  by_cases g4 : n.op = 6
  · rw [if_pos g4]; exact simple_date q c2 l n p c ts.length w g4
  rw [if_neg g4]
  by_cases g5 : n.op = 7
  · rw [if_pos g5]
    have h := simple_name q c2 l n p c ts.length w g5 hL hl2
    have e : findF n.text l = (match lookT n.text l with | some t => (t, 0) | none => (⟨0, 0⟩, 8)) := by unfold findF; cases lookT n.text l <;> rfl
    rw [e] at h
    exact h
  rw [if_neg g5]
  exact simple_else q c2 l n p c ts.length w (by omega)

/-- The types of all nodes. -/
def partsTy (parts : List (List Nat)) (tys : List TyD) (i : Nat) : List TyD := (parts.getD i []).map (tyAt tys)
def stepR (l : List SymD) (ns : List NodeD) (parts : List (List Nat)) (i : Nat) (n : NodeD) (tys : List TyD) : TyD × Int :=
  if n.op = 23 then (match parts.getD i [] with | [a, b] => toldF (fitF ns parts tys (b + 1) b (tyAt tys a)) ⟨1, 0⟩ | _ => (⟨0, 0⟩, 0)) else typedF l n.op n.text (bare (partsTy parts tys i))
def typesR (l : List SymD) (ns : List NodeD) (parts : List (List Nat)) : List NodeD → Nat → List TyD → List TyD × Int
  | [], _, tys => (tys, 0)
  | n :: rest, i, tys => if (stepR l ns parts i n tys).2 = 0 then typesR l ns parts rest (i + 1) (tys.set i (stepR l ns parts i n tys).1) else ([], (stepR l ns parts i n tys).2)
theorem zeros_flat (n : Nat) : (List.replicate n [Value.int .i64 0, .int .i64 0]).flatten = (List.replicate n (⟨0, 0⟩ : TyD)).flatMap TyD.cs := by
  rw [List.flatMap_def, List.map_replicate]; rfl
theorem set_flat (tys : List TyD) (i : Nat) (t : TyD) (h : i < tys.length) : (tys.flatMap TyD.cs).take (i * 2) ++ t.cs ++ (tys.flatMap TyD.cs).drop (i * 2 + 2) = (tys.set i t).flatMap TyD.cs := by
  rw [flat_take TyD.cs 2 TyD.cs_len, show i * 2 + 2 = (i + 1) * 2 by omega, flat_drop TyD.cs 2 TyD.cs_len]
  rw [List.set_eq_take_append_cons_drop, if_pos h]
  simp
theorem stepR_form {l : List SymD} (h : ∀ s, s ∈ l → s.t.form) (ns : List NodeD) (parts : List (List Nat)) (i : Nat) (n : NodeD) (tys : List TyD) (hf : ∀ t, t ∈ tys → t.form) : (stepR l ns parts i n tys).1.form := by
  have hat : ∀ k, (tyAt tys k).form := fun k => by
    unfold tyAt
    rw [List.getD_eq_getElem?_getD]
    cases hk : tys[k]? with
    | none => exact form_zero
    | some t => exact hf t (List.mem_of_getElem? hk)
  unfold stepR
  split
  · split
    · exact toldF_form (by unfold TyD.form; decide)
    · exact form_zero
  · refine typedF_form h _ _ _ (fun d hd => ?_)
    obtain ⟨t, ht, rfl⟩ := List.mem_map.1 hd
    obtain ⟨k, _, rfl⟩ := List.mem_map.1 ht
    exact ⟨hat k, fun a ha => by cases ha⟩
/-- Where the parts lie among pieces. -/
def PIn (T : List Res) (pp : Option Addr) (cp N : Nat) (vs : List Value) (parts : List (List Nat)) : Prop := Res.row pp cp 68 1 N vs ∈ T ∧ N = vs.length ∧ RowsIn T vs parts
theorem PIn.mono {T T' : List Res} {pp : Option Addr} {cp N : Nat} {vs : List Value} {parts : List (List Nat)} (h : PIn T pp cp N vs parts) (hT : ∀ r, r ∈ T → r ∈ T') : PIn T' pp cp N vs parts :=
  ⟨hT _ h.1, h.2.1, h.2.2.1, fun i l hl => by obtain ⟨p, c, a, b⟩ := h.2.2.2 i l hl; exact ⟨p, c, a, hT _ b⟩⟩
theorem PIn.at_ {T : List Res} {pp : Option Addr} {cp N B : Nat} {vs : List Value} {parts : List (List Nat)} {W : World} (h : PIn T pp cp N vs parts) (hT : ∀ r, r ∈ T → r.holds B W) : PartsAt W pp parts := by
  refine ⟨vs, ?_, h.2.2.1, fun i l hl => ?_⟩
  · have h1 := hT _ h.1
    rw [h.2.1] at h1
    have h2 := sl_row (fun v : Value => [v]) 1 (fun _ => rfl) (l := vs) (by simpa using h1)
    simpa using h2
  · obtain ⟨p, c, a, b⟩ := h.2.2.2 i l hl
    exact ⟨p, c, a, sl_row intC 1 intC_len (hT _ b)⟩
end Go.Proofs.YtpjcjgikfplgnaaDoor
