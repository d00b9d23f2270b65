/- The stack of check's machine as it lies; small laws. The machine in plain words: its types are in form, its stack is small; its height is that of expr.Check. -/
import Derived.Test.YtpjcjgikfplgnaaDoorTypedB
import Derived.Test.YtpjcjgikfplgnaaDoorSepA
namespace Go.Proofs.YtpjcjgikfplgnaaDoor
open Go.RowKit
set_option linter.unusedVariables false
set_option linter.unusedSimpArgs false

/-- A thing as it lies: its tests in a row of their own, or none. -/
def StIn (T : List Res) (x : ThT) (d : ThD) : Prop := x.t = d.t ∧ x.n = d.qs.length ∧ (Res.row x.q x.c 89 3 d.qs.length (d.qs.flatMap AskD.cs) ∈ T ∨ (x.q = none ∧ d.qs = []))
def StOk (T : List Res) : List ThT → List ThD → Prop
  | [], [] => True
  | x :: ts, d :: ds => StIn T x d ∧ StOk T ts ds
  | _, _ => False
theorem StIn.mono {T T' : List Res} {x : ThT} {d : ThD} (h : StIn T x d) (hT : ∀ r, r ∈ T → r ∈ T') : StIn T' x d := ⟨h.1, h.2.1, h.2.2.imp (hT _) id⟩
theorem StOk.mono {T T' : List Res} (hT : ∀ r, r ∈ T → r ∈ T') : ∀ {ts : List ThT} {ds : List ThD}, StOk T ts ds → StOk T' ts ds
  | [], [], _ => trivial
  | x :: ts, d :: ds, h => ⟨StIn.mono h.1 hT, StOk.mono hT h.2⟩
  | [], _ :: _, h => h.elim
  | _ :: _, [], h => h.elim
theorem StOk.len {T : List Res} : ∀ {ts : List ThT} {ds : List ThD}, StOk T ts ds → ts.length = ds.length
  | [], [], _ => rfl
  | x :: ts, d :: ds, h => by rw [List.length_cons, List.length_cons, StOk.len h.2]
  | [], _ :: _, h => h.elim
  | _ :: _, [], h => h.elim
theorem StOk.drop {T : List Res} : ∀ (k : Nat) {ts : List ThT} {ds : List ThD}, StOk T ts ds → StOk T (ts.drop k) (ds.drop k)
  | 0, _, _, h => h
  | _ + 1, [], [], _ => trivial
  | k + 1, _ :: _, _ :: _, h => StOk.drop k h.2
  | _ + 1, [], _ :: _, h => h.elim
  | _ + 1, _ :: _, [], h => h.elim
theorem StOk.take {T : List Res} : ∀ (k : Nat) {ts : List ThT} {ds : List ThD}, StOk T ts ds → StOk T (ts.take k) (ds.take k)
  | 0, _, _, _ => trivial
  | _ + 1, [], [], _ => trivial
  | k + 1, _ :: _, _ :: _, h => ⟨h.1, StOk.take k h.2⟩
  | _ + 1, [], _ :: _, h => h.elim
  | _ + 1, _ :: _, [], h => h.elim
theorem StOk.push {T : List Res} : ∀ {ts : List ThT} {ds : List ThD} {x : ThT} {d : ThD}, StOk T ts ds → StIn T x d → StOk T (ts ++ [x]) (ds ++ [d])
  | [], [], _, _, _, h => ⟨h, trivial⟩
  | _ :: _, _ :: _, _, _, h, h' => ⟨h.1, StOk.push h.2 h'⟩
  | [], _ :: _, _, _, h, _ => h.elim
  | _ :: _, [], _, _, h, _ => h.elim
theorem StOk.at_ {T : List Res} : ∀ {ts : List ThT} {ds : List ThD} {k : Nat} {x : ThT}, StOk T ts ds → ts[k]? = some x → ∃ d, ds[k]? = some d ∧ StIn T x d
  | [], _, k, x, _, h => by simp at h
  | y :: ts, d :: ds, 0, x, h, hx => by
    simp only [List.getElem?_cons_zero, Option.some.injEq] at hx
    subst hx
    exact ⟨d, rfl, h.1⟩
  | y :: ts, d :: ds, k + 1, x, h, hx => StOk.at_ (k := k) h.2 (by simpa using hx)
  | _ :: _, [], _, _, h, _ => h.elim
theorem StIn.sl {T : List Res} {x : ThT} {d : ThD} (h : StIn T x d) {B : Nat} {W : World} (hT : ∀ r, r ∈ T → r.holds B W) : Sl W x.q (d.qs.flatMap AskD.cs) := by
  rcases h.2.2 with hm | ⟨h1, h2⟩
  · exact sl_row AskD.cs 3 AskD.cs_len (hT _ hm)
  · rw [h1, h2]
    exact ⟨fun _ => rfl, fun a e => by cases e⟩
theorem StIn.ok {T : List Res} {x : ThT} {d : ThD} (h : StIn T x d) {B : Nat} {W : World} (hT : ∀ r, r ∈ T → r.holds B W) : ThOk W x d := ⟨h.1, h.2.1, h.sl hT⟩
theorem StOk.ths {T : List Res} {B : Nat} {W : World} (hT : ∀ r, r ∈ T → r.holds B W) : ∀ {ts : List ThT} {ds : List ThD}, StOk T ts ds → ThsOk W ts ds
  | [], [], _ => trivial
  | x :: ts, d :: ds, h => ⟨StIn.ok h.1 hT, StOk.ths hT h.2⟩
  | [], _ :: _, h => h.elim
  | _ :: _, [], h => h.elim
theorem Mem.chk {w0 W : World} {L : List Res} (h : Mem w0 W L) {gc gm : Nat} {t : TypeId} {sv : Value} {l : List SymD} (i j : Nat) (hi : L[i]? = some (.box gc t [.map (some gm), sv])) (hj : L[j]? = some (.map gm (mapEs (symE l)) (symE l).length)) : CheckerAt W gc gm sv l :=
  ⟨box_cells (h.get hi) 0, (h.get hj).2⟩
/-- What a step leaves. -/
def StepPost (w0 : World) (gc gm : Nat) (T : List Res) (l : List SymD) (nds : List ThD) (r : Int) (e : Ending) (w' : World) : Prop :=
  e = .returned (.int .i64 r) ∧ ∃ sq cap st R, Mem w0 w' (.box gc 60 [.map (some gm), .slice sq st.length cap] :: .row sq cap 63 3 st.length (st.flatMap ThT.cs) :: .map gm (mapEs (symE l)) (symE l).length :: (R ++ T)) ∧ StOk (R ++ T) st nds
theorem sizeT_cons (d : ThD) (ds : List ThD) : sizeT (d :: ds) = d.qs.length + 1 + sizeT ds := by unfold sizeT; rw [List.map_cons, List.sum_cons]
theorem sizeT_append (a b : List ThD) : sizeT (a ++ b) = sizeT a + sizeT b := by unfold sizeT; rw [List.map_append, List.sum_append]
theorem sizeT_drop (ds : List ThD) (k : Nat) : sizeT (ds.take k) + sizeT (ds.drop k) = sizeT ds := by rw [← sizeT_append, List.take_append_drop]
theorem sizeT_len (ds : List ThD) : ds.length ≤ sizeT ds := by
  induction ds with
  | nil => exact Nat.zero_le _
  | cons d ds ih => rw [sizeT_cons, List.length_cons]; omega
theorem sizeT_flat (ds : List ThD) : (ds.flatMap ThD.qs).length + ds.length = sizeT ds := by
  induction ds with
  | nil => rfl
  | cons d ds ih => rw [sizeT_cons, List.flatMap_cons, List.length_append, List.length_cons]; omega
theorem sizeT_mem {ds : List ThD} {d : ThD} (h : d ∈ ds) : d.qs.length ≤ sizeT ds := by
  induction ds with
  | nil => cases h
  | cons x ds ih =>
    rw [sizeT_cons]
    rcases List.mem_cons.1 h with rfl | h
    · omega
    · have := ih h; omega
theorem stack_flat (st : List ThT) (x : ThT) (cut : Nat) : (st.flatMap ThT.cs).take (cut * 3) ++ x.cs = (st.take cut ++ [x]).flatMap ThT.cs := by
  rw [flat_take ThT.cs 3 ThT.cs_len, List.flatMap_append, List.flatMap_singleton]
theorem stack_len {st : List ThT} {cut : Nat} (x : ThT) (h : cut ≤ st.length) : (st.take cut ++ [x]).length = cut + 1 := by rw [List.length_append, List.length_take]; simp; omega
end Go.Proofs.YtpjcjgikfplgnaaDoor

namespace Go.Proofs.YtpjcjgikfplgnaaDoor
open Go.RowKit
set_option linter.unusedVariables false
set_option linter.unusedSimpArgs false

theorem form_zero : TyD.form ⟨0, 0⟩ := by unfold TyD.form; decide
theorem toldF_form {ok : Bool} {t : TyD} (h : t.form) : (toldF ok t).1.form := by unfold toldF; split; exact h; exact form_zero
theorem joinT_form {k o k' o' : Int} (h : formB k o = true) (h' : formB k' o' = true) : formB (joinT k o k' o').1 (joinT k o k' o').2 = true := by
  rw [← joinF_eq h h']
  exact joinF_form k o k' o' 10 (Nat.le_refl _)
theorem itemsG_form : ∀ (l : List TyD) (i : Nat) (k : Int), 0 ≤ k ∧ k ≤ 4 → (itemsG i k l).form
  | [], i, k, h => by unfold TyD.form; exact (formB_iff _ _).2 (Or.inr ⟨rfl, h⟩)
  | t :: l, i, k, h => by
    rw [itemsG_cons]
    split
    · unfold TyD.form; decide
    · rename_i hc
      exact itemsG_form l (i + 1) t.k (by omega)
theorem lookT_form {l : List SymD} (h : ∀ s, s ∈ l → s.t.form) (n : ByteArray) {t : TyD} (ht : lookT n l = some t) : t.form := by
  induction l with
  | nil => cases ht
  | cons s l ih =>
    unfold lookT at ht
    split at ht
    · cases ht; exact h s (by simp)
    · exact ih (fun s hs => h s (by simp [hs])) ht
theorem leafF_form {l : List SymD} (h : ∀ s, s ∈ l → s.t.form) (op : Int) (n : ByteArray) : (leafF l op n).1.form := by
  unfold leafF
  split
  · show TyD.form ⟨1, 0⟩; unfold TyD.form; decide
  split
  · show TyD.form ⟨2, 0⟩; unfold TyD.form; decide
  split
  · show TyD.form ⟨3, 0⟩; unfold TyD.form; decide
  split
  · show TyD.form ⟨4, 0⟩; unfold TyD.form; decide
  split
  · split
    · rename_i t ht
      exact lookT_form h n ht
    · exact form_zero
  · exact form_zero
theorem callF_form (s : List UInt8) (ts : List TyD) : (callF (fnF s) ts).1.form := by
  unfold callF
  split
  · exact form_zero
  · rename_i tk g hf
    split
    · split
      · exact (fnF_form hf).2
      · exact form_zero
    · exact form_zero
theorem addF_form (ts : List TyD) : (addF ts).1.form := by
  unfold addF
  split
  · exact form_zero
  split
  · show TyD.form ⟨3, 0⟩; unfold TyD.form; decide
  · exact toldF_form (by unfold TyD.form; decide)
theorem typedF_form {l : List SymD} (h : ∀ s, s ∈ l → s.t.form) (op : Int) (n : ByteArray) (ds : List ThD) (hd : ∀ d, d ∈ ds → ThForm d) : (typedF l op n ds).1.form := by
  have h1 : TyD.form ⟨1, 0⟩ := by unfold TyD.form; decide
  have h2 : TyD.form ⟨2, 0⟩ := by unfold TyD.form; decide
  unfold typedF
  split
  · exact toldF_form h2
  split
  · exact addF_form _
  split
  · split
    · exact toldF_form h1
    · exact form_zero
  split
  · split
    · exact toldF_form h1
    · exact form_zero
  split
  · exact toldF_form h1
  split
  · split
    · rename_i x y z
      exact toldF_form (joinT_form (hd y (by simp)).1 (hd z (by simp)).1)
    · exact form_zero
  split
  · split
    · exact toldF_form h1
    · exact form_zero
  split
  · split
    · exact toldF_form h1
    · exact form_zero
  split
  · split
    · exact toldF_form form_zero
    · exact form_zero
  split
  · exact callF_form _ _
  split
  · exact itemsG_form _ 0 0 (by omega)
  · exact leafF_form h _ _
theorem stepT_form {l : List SymD} (h : ∀ s, s ∈ l → s.t.form) (ds : List ThD) (n : NodeD) (hd : ∀ d, d ∈ ds → ThForm d) : ThForm (stepT l ds n).1 := by
  have hp : ∀ d, d ∈ partsD n ds → ThForm d := fun d hm => hd d (List.mem_of_mem_drop hm)
  unfold stepT
  split
  · refine ⟨form_zero, fun a ha => ?_⟩
    obtain ⟨d, hm, ha'⟩ := List.mem_flatMap.1 ha
    exact (hp d hm).2 a ha'
  split
  · refine ⟨form_zero, fun a ha => ?_⟩
    obtain ⟨d, hm, rfl⟩ := List.mem_map.1 ha
    exact (hp d hm).1
  · exact ⟨typedF_form h _ _ _ hp, fun a ha => by cases ha⟩
theorem nextT_form {l : List SymD} (h : ∀ s, s ∈ l → s.t.form) (ds : List ThD) (n : NodeD) (hd : ∀ d, d ∈ ds → ThForm d) : ∀ d, d ∈ nextT l ds n → ThForm d := fun d hm => by
  unfold nextT at hm
  rcases List.mem_append.1 hm with hm | hm
  · exact hd d (List.mem_of_mem_take hm)
  · rw [List.mem_singleton.1 hm]
    exact stepT_form h ds n hd
theorem nextT_size (l : List SymD) (ds : List ThD) (n : NodeD) : sizeT (nextT l ds n) ≤ sizeT ds + 1 := by
  have h1 := sizeT_drop ds (ds.length - n.kids.toNat)
  have h2 := sizeT_flat (partsD n ds)
  have h3 := sizeT_len (partsD n ds)
  have h4 : sizeT (partsD n ds) = sizeT (ds.drop (ds.length - n.kids.toNat)) := rfl
  unfold nextT
  rw [sizeT_append, sizeT_cons]
  have h5 : (stepT l ds n).1.qs.length ≤ sizeT (partsD n ds) := by
    unfold stepT
    split
    · show ((partsD n ds).flatMap ThD.qs).length ≤ _; omega
    split
    · show ((partsD n ds).map _).length ≤ _; rw [List.length_map]; exact h3
    · exact Nat.zero_le _
  have h6 : sizeT ([] : List ThD) = 0 := rfl
  omega
theorem nextT_len (l : List SymD) (ds : List ThD) (n : NodeD) : (nextT l ds n).length = ds.length - n.kids.toNat + 1 := by
  unfold nextT
  rw [List.length_append, List.length_take]
  simp
/-- Of a step of expr.Check that goes on. -/
theorem stepC_ok {ns : List NodeD} {st st' : List ThingD} {i : Nat} {n : NodeD} {d : Int} (h : stepC ns st i n = some (st', d)) : kidsB n.op n.kids = true ∧ n.kids ≤ st.length ∧ st'.length = st.length - n.kids.toNat + 1 := by
  unfold stepC at h
  split at h
  · rename_i hc
    simp only [Bool.and_eq_true, decide_eq_true_eq] at hc
    split at h
    · cases h
    · split at h
      · cases h
      · cases h
        refine ⟨hc.1.2, hc.2, ?_⟩
        rw [List.length_append, List.length_take]
        simp
  · cases h
theorem runC_next {ns : List NodeD} {tests : Bool} {n : NodeD} {rest : List NodeD} {i : Nat} {st : List ThingD} {deep : Int} (h : runC ns tests (n :: rest) i st deep = 0) : kidsB n.op n.kids = true ∧ n.kids ≤ st.length ∧ ∃ st' deep', st'.length = st.length - n.kids.toNat + 1 ∧ runC ns tests rest (i + 1) st' deep' = 0 := by
  rw [runC_cons] at h
  cases hs : stepC ns st i n with
  | none => rw [hs] at h; cases h
  | some x =>
    obtain ⟨st', d⟩ := x
    rw [hs] at h
    obtain ⟨h1, h2, h3⟩ := stepC_ok hs
    exact ⟨h1, h2, st', _, h3, h⟩
theorem runC_end {ns : List NodeD} {tests : Bool} {i : Nat} {st : List ThingD} {deep : Int} (h : runC ns tests [] i st deep = 0) : st.length = 1 := by
  have h1 : endC tests st deep = 0 := h
  unfold endC at h1
  match st, h1 with
  | [t], _ => rfl
  | [], h => simp at h
  | _ :: _ :: _, h => simp at h
theorem checkC_ok {ns : List NodeD} {tests : Bool} (h : checkC ns tests = 0) : ns.length ≤ 300 ∧ runC ns tests ns 0 [] 0 = 0 := by
  unfold checkC at h
  split at h
  · cases h
  · exact ⟨by omega, h⟩
/-- What a run that goes through leaves. -/
theorem runT_inv {l : List SymD} (hl : ∀ s, s ∈ l → s.t.form) {ns : List NodeD} {tests : Bool} : ∀ (rest : List NodeD) (i : Nat) (ds : List ThD) (cst : List ThingD) (deep : Int), cst.length = ds.length → runC ns tests rest i cst deep = 0 → sizeT ds ≤ i → (∀ d, d ∈ ds → ThForm d) → ThForm (runT l rest ds).1 ∧ (runT l rest ds).1.qs.length ≤ i + rest.length
  | [], i, ds, cst, deep, hc, hr, hz, hf => by
    obtain ⟨d, rfl⟩ := one_of (hc ▸ runC_end hr)
    refine ⟨hf d (by simp), ?_⟩
    rw [sizeT_cons] at hz
    show d.qs.length ≤ i + 0
    omega
  | n :: rest, i, ds, cst, deep, hc, hr, hz, hf => by
    obtain ⟨hk, hkl, cst', deep', hcl', hcr'⟩ := runC_next hr
    unfold runT
    split
    · have h := runT_inv hl rest (i + 1) (nextT l ds n) cst' deep' (by rw [hcl', nextT_len, hc]) hcr' (Nat.le_trans (nextT_size l ds n) (Nat.succ_le_succ hz)) (nextT_form hl ds n hf)
      rw [List.length_cons]
      exact ⟨h.1, by omega⟩
    · exact ⟨⟨form_zero, fun a ha => by cases ha⟩, Nat.zero_le _⟩
theorem runT_good {l : List SymD} (hl : ∀ s, s ∈ l → s.t.form) {ns : List NodeD} {tests : Bool} (h : ns.length ≤ 300) (hr : runC ns tests ns 0 [] 0 = 0) : (∀ a, a ∈ (runT l ns []).1.qs → a.t.form) ∧ (runT l ns []).1.qs.length ≤ 301 := by
  have h1 := runT_inv hl ns 0 [] [] 0 rfl hr (Nat.zero_le _) (fun d hd => by cases hd)
  exact ⟨h1.1.2, by omega⟩
end Go.Proofs.YtpjcjgikfplgnaaDoor
