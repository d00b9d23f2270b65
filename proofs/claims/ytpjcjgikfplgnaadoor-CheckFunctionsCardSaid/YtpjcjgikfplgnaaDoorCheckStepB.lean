/- The stack of check's machine as it lies; small laws. (fast) -/
import Derived.Test.YtpjcjgikfplgnaaDoorCheckTypedAll
import Derived.Test.YtpjcjgikfplgnaaDoorSepA
namespace Go.Proofs.YtpjcjgikfplgnaaDoor
open Go.RowKit
set_option linter.unusedVariables false
set_option linter.unusedSimpArgs false

/-- A thing as it lies: its tests in a row of their own, or none. -/
def StIn (T : List Res) (x : ThT) (d : ThD) : Prop := x.t = d.t ∧ x.n = d.qs.length ∧ (Res.row x.q x.c 89 3 d.qs.length (d.qs.flatMap AskD.cs) ∈ T ∨ (x.q = none ∧ d.qs = []))
def StOk (T : List Res) : List ThT → List ThD → Prop
  | [], [] => True
  | x :: ts, d :: ds => StIn T x d ∧ StOk T ts ds
  | _, _ => False
theorem StIn.mono {T T' : List Res} {x : ThT} {d : ThD} (h : StIn T x d) (hT : ∀ r, r ∈ T → r ∈ T') : StIn T' x d := ⟨h.1, h.2.1, h.2.2.imp (hT _) id⟩
theorem StOk.mono {T T' : List Res} (hT : ∀ r, r ∈ T → r ∈ T') : ∀ {ts : List ThT} {ds : List ThD}, StOk T ts ds → StOk T' ts ds
  | [], [], _ => trivial
  | x :: ts, d :: ds, h => ⟨StIn.mono h.1 hT, StOk.mono hT h.2⟩
  | [], _ :: _, h => h.elim
  | _ :: _, [], h => h.elim
theorem StOk.len {T : List Res} : ∀ {ts : List ThT} {ds : List ThD}, StOk T ts ds → ts.length = ds.length
  | [], [], _ => rfl
  | x :: ts, d :: ds, h => by rw [List.length_cons, List.length_cons, StOk.len h.2]
  | [], _ :: _, h => h.elim
  | _ :: _, [], h => h.elim
theorem StOk.drop {T : List Res} : ∀ (k : Nat) {ts : List ThT} {ds : List ThD}, StOk T ts ds → StOk T (ts.drop k) (ds.drop k)
  | 0, _, _, h => h
  | _ + 1, [], [], _ => trivial
  | k + 1, _ :: _, _ :: _, h => StOk.drop k h.2
  | _ + 1, [], _ :: _, h => h.elim
  | _ + 1, _ :: _, [], h => h.elim
theorem StOk.take {T : List Res} : ∀ (k : Nat) {ts : List ThT} {ds : List ThD}, StOk T ts ds → StOk T (ts.take k) (ds.take k)
  | 0, _, _, _ => trivial
  | _ + 1, [], [], _ => trivial
  | k + 1, _ :: _, _ :: _, h => ⟨h.1, StOk.take k h.2⟩
  | _ + 1, [], _ :: _, h => h.elim
  | _ + 1, _ :: _, [], h => h.elim
theorem StOk.push {T : List Res} : ∀ {ts : List ThT} {ds : List ThD} {x : ThT} {d : ThD}, StOk T ts ds → StIn T x d → StOk T (ts ++ [x]) (ds ++ [d])
  | [], [], _, _, _, h => ⟨h, trivial⟩
  | _ :: _, _ :: _, _, _, h, h' => ⟨h.1, StOk.push h.2 h'⟩
  | [], _ :: _, _, _, h, _ => h.elim
  | _ :: _, [], _, _, h, _ => h.elim
theorem StOk.at_ {T : List Res} : ∀ {ts : List ThT} {ds : List ThD} {k : Nat} {x : ThT}, StOk T ts ds → ts[k]? = some x → ∃ d, ds[k]? = some d ∧ StIn T x d
  | [], _, k, x, _, h => by simp at h
  | y :: ts, d :: ds, 0, x, h, hx => by
    simp only [List.getElem?_cons_zero, Option.some.injEq] at hx
    subst hx
    exact ⟨d, rfl, h.1⟩
  | y :: ts, d :: ds, k + 1, x, h, hx => StOk.at_ (k := k) h.2 (by simpa using hx)
  | _ :: _, [], _, _, h, _ => h.elim
theorem StIn.sl {T : List Res} {x : ThT} {d : ThD} (h : StIn T x d) {B : Nat} {W : World} (hT : ∀ r, r ∈ T → r.holds B W) : Sl W x.q (d.qs.flatMap AskD.cs) := by
  rcases h.2.2 with hm | ⟨h1, h2⟩
  · exact sl_row AskD.cs 3 AskD.cs_len (hT _ hm)
  · rw [h1, h2]
    exact ⟨fun _ => rfl, fun a e => by cases e⟩
theorem StIn.ok {T : List Res} {x : ThT} {d : ThD} (h : StIn T x d) {B : Nat} {W : World} (hT : ∀ r, r ∈ T → r.holds B W) : ThOk W x d := ⟨h.1, h.2.1, h.sl hT⟩
theorem StOk.ths {T : List Res} {B : Nat} {W : World} (hT : ∀ r, r ∈ T → r.holds B W) : ∀ {ts : List ThT} {ds : List ThD}, StOk T ts ds → ThsOk W ts ds
  | [], [], _ => trivial
  | x :: ts, d :: ds, h => ⟨StIn.ok h.1 hT, StOk.ths hT h.2⟩
  | [], _ :: _, h => h.elim
  | _ :: _, [], h => h.elim
theorem Mem.chk {w0 W : World} {L : List Res} (h : Mem w0 W L) {gc gm : Nat} {t : TypeId} {sv : Value} {l : List SymD} (i j : Nat) (hi : L[i]? = some (.box gc t [.map (some gm), sv])) (hj : L[j]? = some (.map gm (mapEs (symE l)) (symE l).length)) : CheckerAt W gc gm sv l :=
  ⟨box_cells (h.get hi) 0, (h.get hj).2⟩
/-- What a step leaves. -/
def StepPost (w0 : World) (gc gm : Nat) (T : List Res) (l : List SymD) (nds : List ThD) (r : Int) (e : Ending) (w' : World) : Prop :=
  e = .returned (.int .i64 r) ∧ ∃ sq cap st R, Mem w0 w' (.box gc 60 [.map (some gm), .slice sq st.length cap] :: .row sq cap 63 3 st.length (st.flatMap ThT.cs) :: .map gm (mapEs (symE l)) (symE l).length :: (R ++ T)) ∧ StOk (R ++ T) st nds
theorem sizeT_cons (d : ThD) (ds : List ThD) : sizeT (d :: ds) = d.qs.length + 1 + sizeT ds := by unfold sizeT; rw [List.map_cons, List.sum_cons]
theorem sizeT_append (a b : List ThD) : sizeT (a ++ b) = sizeT a + sizeT b := by unfold sizeT; rw [List.map_append, List.sum_append]
theorem sizeT_drop (ds : List ThD) (k : Nat) : sizeT (ds.take k) + sizeT (ds.drop k) = sizeT ds := by rw [← sizeT_append, List.take_append_drop]
theorem sizeT_len (ds : List ThD) : ds.length ≤ sizeT ds := by
  induction ds with
  | nil => exact Nat.zero_le _
  | cons d ds ih => rw [sizeT_cons, List.length_cons]; omega
theorem sizeT_flat (ds : List ThD) : (ds.flatMap ThD.qs).length + ds.length = sizeT ds := by
  induction ds with
  | nil => rfl
  | cons d ds ih => rw [sizeT_cons, List.flatMap_cons, List.length_append, List.length_cons]; omega
theorem sizeT_mem {ds : List ThD} {d : ThD} (h : d ∈ ds) : d.qs.length ≤ sizeT ds := by
  induction ds with
  | nil => cases h
  | cons x ds ih =>
    rw [sizeT_cons]
    rcases List.mem_cons.1 h with rfl | h
    · omega
    · have := ih h; omega
theorem stack_flat (st : List ThT) (x : ThT) (cut : Nat) : (st.flatMap ThT.cs).take (cut * 3) ++ x.cs = (st.take cut ++ [x]).flatMap ThT.cs := by
  rw [flat_take ThT.cs 3 ThT.cs_len, List.flatMap_append, List.flatMap_singleton]
theorem stack_len {st : List ThT} {cut : Nat} (x : ThT) (h : cut ≤ st.length) : (st.take cut ++ [x]).length = cut + 1 := by rw [List.length_append, List.length_take]; simp; omega
end Go.Proofs.YtpjcjgikfplgnaaDoor
