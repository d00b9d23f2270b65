/- The types of all nodes and the stack machine agree; in plain Lean. -/
import Derived.Test.YtpjcjgikfplgnaaDoorRefSimple
namespace Go.Proofs.YtpjcjgikfplgnaaDoor
open Go.RowKit
set_option linter.unusedVariables false
set_option linter.unusedSimpArgs false
set_option maxRecDepth 100000

def Duo {α β : Type} (R : α → β → Prop) : List α → List β → Prop
  | [], [] => True
  | a :: l, b :: m => R a b ∧ Duo R l m
  | [], _ :: _ => False
  | _ :: _, [] => False
theorem Duo.len {α β : Type} {R : α → β → Prop} : ∀ {l : List α} {m : List β}, Duo R l m → l.length = m.length
  | [], [], _ => rfl
  | a :: l, b :: m, h => by rw [List.length_cons, List.length_cons, Duo.len h.2]
  | [], _ :: _, h => h.elim
  | _ :: _, [], h => h.elim
theorem Duo.take {α β : Type} {R : α → β → Prop} : ∀ {l : List α} {m : List β} (n : Nat), Duo R l m → Duo R (l.take n) (m.take n)
  | l, m, 0, _ => by rw [List.take_zero, List.take_zero]; exact True.intro
  | [], [], n + 1, _ => True.intro
  | a :: l, b :: m, n + 1, h => ⟨h.1, Duo.take n h.2⟩
  | [], _ :: _, _ + 1, h => h.elim
  | _ :: _, [], _ + 1, h => h.elim
theorem Duo.drop {α β : Type} {R : α → β → Prop} : ∀ {l : List α} {m : List β} (n : Nat), Duo R l m → Duo R (l.drop n) (m.drop n)
  | l, m, 0, h => h
  | [], [], n + 1, _ => True.intro
  | a :: l, b :: m, n + 1, h => Duo.drop n h.2
  | [], _ :: _, _ + 1, h => h.elim
  | _ :: _, [], _ + 1, h => h.elim
theorem Duo.snoc {α β : Type} {R : α → β → Prop} {a : α} {b : β} (hab : R a b) : ∀ {l : List α} {m : List β}, Duo R l m → Duo R (l ++ [a]) (m ++ [b])
  | [], [], _ => ⟨hab, True.intro⟩
  | _ :: l, _ :: m, h => ⟨h.1, Duo.snoc hab h.2⟩
  | [], _ :: _, h => h.elim
  | _ :: _, [], h => h.elim
theorem Duo.imp {α β : Type} {R S : α → β → Prop} : ∀ {l : List α} {m : List β}, Duo R l m → (∀ a b, a ∈ l → R a b → S a b) → Duo S l m
  | [], [], _, _ => True.intro
  | a :: l, b :: m, h, f => ⟨f a b (List.mem_cons_self ..) h.1, Duo.imp h.2 fun x y hx => f x y (List.mem_cons_of_mem _ hx)⟩
  | [], _ :: _, h, _ => h.elim
  | _ :: _, [], h, _ => h.elim
theorem Duo.map_eq {α β γ : Type} {f : α → γ} {g : β → γ} : ∀ {l : List α} {m : List β}, Duo (fun a b => f a = g b) l m → l.map f = m.map g
  | [], [], _ => rfl
  | a :: l, b :: m, h => by rw [List.map_cons, List.map_cons, Duo.map_eq h.2, show f a = g b from h.1]
  | [], _ :: _, h => h.elim
  | _ :: _, [], h => h.elim
theorem Duo.all_eq {α β : Type} {f : α → Bool} {g : β → Bool} : ∀ {l : List α} {m : List β}, Duo (fun a b => f a = g b) l m → l.all f = m.all g
  | [], [], _ => rfl
  | a :: l, b :: m, h => by rw [List.all_cons, List.all_cons, Duo.all_eq h.2, show f a = g b from h.1]
  | [], _ :: _, h => h.elim
  | _ :: _, [], h => h.elim
theorem typedF_types (l : List SymD) (op : Int) (s : ByteArray) (hop : op ≠ 23) : ∀ (ds es : List ThD), ds.map ThD.t = es.map ThD.t → typedF l op s ds = typedF l op s es
  | [], [], _ => rfl
  | [x], [y], h => by
    simp only [List.map_cons, List.map_nil, List.cons.injEq, and_true] at h
    unfold typedF
    simp only [List.map_cons, List.map_nil, h, if_neg hop]
  | [x, x2], [y, y2], h => by
    simp only [List.map_cons, List.map_nil, List.cons.injEq, and_true] at h
    unfold typedF
    simp only [List.map_cons, List.map_nil, h.1, h.2, if_neg hop]
  | [x, x2, x3], [y, y2, y3], h => by
    simp only [List.map_cons, List.map_nil, List.cons.injEq, and_true] at h
    unfold typedF
    simp only [List.map_cons, List.map_nil, h.1, h.2.1, h.2.2, if_neg hop]
  | x :: x2 :: x3 :: x4 :: r, y :: y2 :: y3 :: y4 :: r', h => by
    unfold typedF
    rw [h]
  | [], _ :: _, h => by cases h
  | _ :: _, [], h => by cases h
  | [_], _ :: _ :: _, h => by simp at h
  | _ :: _ :: _, [_], h => by simp at h
  | [_, _], _ :: _ :: _ :: _, h => by simp at h
  | _ :: _ :: _ :: _, [_, _], h => by simp at h
  | [_, _, _], _ :: _ :: _ :: _ :: _, h => by simp at h
  | _ :: _ :: _ :: _ :: _, [_, _, _], h => by simp at h
theorem partsF_sort {op : Int} : ∀ (L : List ThingD) (k : Nat) (d r : Int), partsF op k d L = some r → ∀ (j : Nat) (t : ThingD), L[j]? = some t → t.sort = wantI op ((k + j : Nat) : Int)
  | [], _, _, _, _, j, t, hj => by simp at hj
  | u :: L, k, d, r, h, j, t, hj => by
    rw [partsF_cons] at h
    split at h
    · rename_i hs
      cases j with
      | zero => cases hj; exact hs
      | succ j =>
        have := partsF_sort L (k + 1) _ r h j t hj
        rw [this, show k + 1 + j = k + (j + 1) by omega]
    · cases h
theorem fitF_agree {ns : List NodeD} {parts : List (List Nat)} {tys tys' : List TyD} (hp : PartsLt parts) : ∀ (i : Nat) (t : TyD), (∀ x, x < i → tyAt tys' x = tyAt tys x) → fitF ns parts tys' (i + 1) i t = fitF ns parts tys (i + 1) i t := by
  intro i
  induction i using Nat.strongRecOn with
  | ind i ih =>
    intro t hx
    unfold fitF
    rw [List.getD_eq_getElem?_getD]
    cases hl : parts[i]? with
    | none => rfl
    | some l =>
      show l.all _ = l.all _
      have key : ∀ p, p ∈ l → fitE tys' (fitF ns parts tys' i) (opAt ns i) t p = fitE tys (fitF ns parts tys i) (opAt ns i) t p := fun p hpm => by
        have hlt := hp i l hl p hpm
        unfold fitE
        rw [hx p hlt]
        split
        · rw [fitF_fuel hp p i t hlt, fitF_fuel hp p i t hlt, ih p hlt t (fun x h => hx x (by omega))]
        · rfl
      rw [Bool.eq_iff_iff, List.all_eq_true, List.all_eq_true]
      exact ⟨fun h p hpm => by rw [← key p hpm]; exact h p hpm, fun h p hpm => by rw [key p hpm]; exact h p hpm⟩

/-- What ties a thing of expr's stack to one of check's. -/
def Tie (ns : List NodeD) (parts : List (List Nat)) (tys : List TyD) (i : Nat) (c : ThingD) (d : ThD) : Prop :=
  c.at_ < i ∧ c.sort = sortI (opAt ns c.at_) ∧ tyAt tys c.at_ = d.t ∧ (3 ≤ c.sort → ∀ t, asksB t d.qs = fitF ns parts tys (c.at_ + 1) c.at_ t)
theorem asksB_flat (t : TyD) : ∀ ds : List ThD, asksB t (ds.flatMap ThD.qs) = ds.all fun d => asksB t d.qs
  | [] => rfl
  | d :: ds => by
    rw [List.flatMap_cons, List.all_cons, ← asksB_flat t ds]
    unfold asksB
    rw [List.all_append]
theorem leafF_more {l : List SymD} {op : Int} (h : 8 ≤ op) (s : ByteArray) : leafF l op s = (⟨0, 0⟩, 0) := by
  unfold leafF
  rw [if_neg (by omega), if_neg (by omega), if_neg (by omega), if_neg (by omega), if_neg (by omega)]
theorem typedF_more {l : List SymD} {op : Int} (h : 27 ≤ op) (s : ByteArray) (ds : List ThD) : typedF l op s ds = (⟨0, 0⟩, 0) := by
  unfold typedF
  rw [if_neg (by omega), if_neg (by omega), if_neg (by omega), if_neg (by omega), if_neg (by omega), if_neg (by omega), if_neg (by omega), if_neg (by omega), if_neg (by omega), if_neg (by omega), if_neg (by omega)]
  exact leafF_more (by omega) s

theorem step_tie {l : List SymD} {ns : List NodeD} {parts : List (List Nat)} (hp : PartsLt parts) {tys : List TyD} {i : Nat} {n : NodeD} {cs : List ThingD} {ds : List ThD} (hn : opAt ns i = n.op) (hT : Duo (Tie ns parts tys i) cs (partsD n ds)) (hpi : parts.getD i [] = cs.map (·.at_)) {d0 : Int} (hs : partsF n.op 0 0 cs = some d0) (hk : kidsB n.op cs.length = true) :
    stepR l ns parts i n tys = ((stepT l ds n).1.t, (stepT l ds n).2) ∧
      (3 ≤ sortI n.op → ∀ (tys' : List TyD), (∀ x, x < i → tyAt tys' x = tyAt tys x) → ∀ t, asksB t (stepT l ds n).1.qs = fitF ns parts tys' (i + 1) i t) := by
  have hty : partsTy parts tys i = (partsD n ds).map ThD.t := by
    unfold partsTy
    rw [hpi, List.map_map]
    exact Duo.map_eq (hT.imp fun a b _ h => h.2.2.1)
  have hop := kidsB_op hk
  refine ⟨?_, ?_⟩
  · unfold stepR
    split
    · rename_i h23
      have hl2 : cs.length = 2 := by have := kids_eq (m := 2) hk (by rw [h23]; rfl) (by decide); omega
      obtain ⟨ca, cb, rfl⟩ := two_of hl2
      obtain ⟨da, db, hd⟩ := two_of (hT.len.symm.trans hl2)
      rw [hd] at hT
      have h4 : cb.sort = 4 := by
        have := partsF_sort _ _ _ _ hs 1 cb rfl
        rw [this, h23]
        rfl
      rw [hpi]
      show toldF (fitF ns parts tys (cb.at_ + 1) cb.at_ (tyAt tys ca.at_)) ⟨1, 0⟩ = _
      rw [hT.1.2.2.1, ← hT.2.1.2.2.2 (by rw [h4]; decide)]
      unfold stepT
      rw [if_neg (by omega), if_neg (by omega), hd]
      unfold typedF
      rw [if_neg (by omega), if_neg (by omega), if_neg (by omega), if_neg (by omega), if_neg (by omega), if_neg (by omega), if_neg (by omega), if_pos h23]
    · rename_i h23
      rw [typedF_types l n.op n.text h23 (bare (partsTy parts tys i)) (partsD n ds) (by rw [bare_types, hty])]
      unfold stepT
      split
      · rw [typedF_more (by omega)]
      split
      · rw [typedF_more (by omega)]
      · rfl
  · intro h3 tys' hag t
    have hop29 : 29 ≤ n.op := by
      unfold sortI at h3
      by_cases h1 : n.op ≤ 27
      · rw [if_pos h1] at h3; omega
      · rw [if_neg h1] at h3
        by_cases h2 : n.op = 28
        · rw [if_pos h2] at h3; omega
        · omega
    have hrun : fitF ns parts tys' (i + 1) i t = cs.all fun c => fitE tys' (fitF ns parts tys' i) n.op t c.at_ := by
      show (parts.getD i []).all _ = _
      rw [hpi, List.all_map, hn]
      rfl
    rw [hrun]
    unfold stepT
    by_cases h36 : n.op = 36 ∨ n.op = 37
    · rw [if_pos h36]
      show asksB t ((partsD n ds).flatMap ThD.qs) = _
      rw [asksB_flat]
      refine (Duo.all_eq ?_).symm
      refine hT.imp fun c d hc h => ?_
      obtain ⟨h1, h2, h4, h5⟩ := h
      have hsort : 3 ≤ c.sort := by
        obtain ⟨j, hj⟩ := List.getElem?_of_mem hc
        have := partsF_sort _ _ _ _ hs j c hj
        rw [this]
        rcases h36 with e | e <;> rw [e] <;> unfold wantI <;> simp
      show fitE tys' (fitF ns parts tys' i) n.op t c.at_ = asksB t d.qs
      unfold fitE
      rw [if_pos h36, h5 hsort, fitF_fuel hp c.at_ i t h1, fitF_agree hp c.at_ t (fun x hx => hag x (by omega))]
    · rw [if_neg h36]
      by_cases h30 : 30 ≤ n.op ∧ n.op ≤ 35
      · rw [if_pos h30]
        show asksB t ((partsD n ds).map fun y => ⟨n.op != 30, y.t⟩) = _
        unfold asksB
        rw [List.all_map]
        refine (Duo.all_eq ?_).symm
        refine hT.imp fun c d hc h => ?_
        obtain ⟨h1, h2, h4, h5⟩ := h
        show fitE tys' (fitF ns parts tys' i) n.op t c.at_ = askB t ⟨n.op != 30, d.t⟩
        unfold fitE askB
        rw [if_neg h36, hag _ h1, h4]
        by_cases e : n.op = 30
        · rw [if_pos e, e]; rfl
        · rw [if_neg e, show (n.op != 30) = true by simpa using e]; rfl
      · have e29 : n.op = 29 := by omega
        have hl0 : cs.length = 0 := by have := kids_eq (m := 0) hk (by rw [e29]; rfl) (by decide); omega
        rw [if_neg h30, List.eq_nil_of_length_eq_zero hl0]
        rfl

theorem placeF_pre (ns : List NodeD) : ∀ (m i : Nat) (hs : List Nat) (ps parts : List (List Nat)) (hv : List Nat), ps.length = i → placeF ns m i hs ps = some (parts, hv) → ∀ j, j < i → parts[j]? = ps[j]?
  | 0, i, hs, ps, parts, hv, h3, h, j, hj => by
    simp only [placeF, Option.some.injEq, Prod.mk.injEq] at h
    obtain ⟨rfl, rfl⟩ := h
    rfl
  | m + 1, i, hs, ps, parts, hv, h3, h, j, hj => by
    unfold placeF at h
    split at h
    · cases h
    · split at h
      · rw [placeF_pre ns m (i + 1) _ _ parts hv (by simp [h3]) h j (by omega), List.getElem?_append_left (by omega)]
      · cases h

theorem types_run {l : List SymD} {ns : List NodeD} {parts : List (List Nat)} {hv : List Nat} {tests : Bool} (hp : PartsLt parts) : ∀ (rest : List NodeD) (i : Nat) (cst : List ThingD) (ds : List ThD) (deep : Int) (ps : List (List Nat)) (tys : List TyD), ns.drop i = rest → Duo (Tie ns parts tys i) cst ds → (∀ l t, cst = l ++ [t] → t.at_ + 1 = i) → i ≤ ns.length → tys.length = ns.length → ps.length = i → placeF ns rest.length i (cst.map (·.at_)) ps = some (parts, hv) → runC ns tests rest i cst deep = 0 →
    (∀ j, j < i → parts[j]? = ps[j]?) ∧ (∀ (j : Nat) (n : NodeD) (x : List Nat), i ≤ j → ns[j]? = some n → parts[j]? = some x → kidsB n.op x.length = true) ∧ (typesR l ns parts rest i tys).2 = (runT l rest ds).2 ∧
    ((runT l rest ds).2 = 0 → (typesR l ns parts rest i tys).1.length = ns.length ∧ tyAt (typesR l ns parts rest i tys).1 (ns.length - 1) = (runT l rest ds).1.t ∧ (tests = true → ∀ t, fitF ns parts (typesR l ns parts rest i tys).1 (ns.length - 1 + 1) (ns.length - 1) t = asksB t (runT l rest ds).1.qs))
  | [], i, cst, ds, deep, ps, tys, hd, hT, hlast, hin, htl, hps, h, hr => by
    simp only [List.length_nil, placeF, Option.some.injEq, Prod.mk.injEq] at h
    obtain ⟨rfl, rfl⟩ := h
    have hi : i = ns.length := by
      have := congrArg List.length hd
      simp at this
      omega
    obtain ⟨c, rfl⟩ := one_of (runC_end hr)
    have he : endC tests [c] deep = 0 := hr
    obtain ⟨d, rfl⟩ := one_of hT.len.symm
    obtain ⟨⟨h1, h2, h3, h4⟩, -⟩ := hT
    have hat : c.at_ = ns.length - 1 := by have := hlast [] c rfl; omega
    refine ⟨fun _ _ => rfl, fun j n x hj hn _ => by have := (List.getElem?_eq_some_iff.1 hn).1; omega, rfl, fun _ => ⟨htl, ?_, fun ht t => ?_⟩⟩
    · rw [← hat]; exact h3
    · rw [← hat]
      refine (h4 ?_ t).symm
      subst ht
      unfold endC at he
      by_cases h5 : c.sort = 4 ∨ c.sort = 5
      · omega
      · simp [h5] at he
  | n :: rest, i, cst, ds, deep, ps, tys, hd, hT, hlast, hin, htl, hps, h, hr => by
    have hn : ns[i]? = some n := by rw [← List.head?_drop, hd]; rfl
    have hil : i < ns.length := (List.getElem?_eq_some_iff.1 hn).1
    have hd' : ns.drop (i + 1) = rest := by rw [← List.drop_drop, hd]; rfl
    have h' : (if kidsB n.op n.kids && decide (n.kids ≤ (cst.map (·.at_)).length) then placeF ns rest.length (i + 1) ((cst.map (·.at_)).take ((cst.map (·.at_)).length - n.kids.toNat) ++ [i]) (ps ++ [(cst.map (·.at_)).drop ((cst.map (·.at_)).length - n.kids.toNat)]) else none) = some (parts, hv) := by
      have h2 := h
      rw [List.length_cons] at h2
      unfold placeF at h2
      rw [hn] at h2
      exact h2
    rw [List.length_map] at h'
    split at h'
    · rename_i hg
      rw [Bool.and_eq_true] at hg
      have hk0 := kidsB_nonneg hg.1
      have hkl : n.kids ≤ cst.length := of_decide_eq_true hg.2
      rw [runC_cons] at hr
      have hcl := hT.len
      generalize hcut : cst.length - n.kids.toNat = cut at h'
      have hpD : partsD n ds = ds.drop cut := by unfold partsD; rw [← hcl, hcut]
      have hlen : (cst.drop cut).length = n.kids.toNat := by rw [List.length_drop]; omega
      have hlk : ((cst.drop cut).length : Int) = n.kids := by omega
      unfold stepC at hr
      rw [hcut] at hr
      split at hr
      · rename_i hc
        cases hpf : partsF n.op 0 0 (cst.drop cut) with
        | none => rw [hpf] at hr; cases hr
        | some d0 =>
          rw [hpf] at hr
          simp only at hr
          split at hr
          · cases hr
          · have hr' : runC ns tests rest (i + 1) (cst.take cut ++ [⟨sortI n.op, d0 + 1, i⟩]) (max deep (d0 + 1)) = 0 := hr
            have hkk : kidsB n.op (cst.drop cut).length = true := by rw [hlk]; exact hg.1
            have hlast' : ∀ (l : List ThingD) (t : ThingD), cst.take cut ++ [(⟨sortI n.op, d0 + 1, i⟩ : ThingD)] = l ++ [t] → t.at_ + 1 = i + 1 := fun l t e => by
              have := List.append_inj_right' e rfl
              cases this
              rfl
            have hpl : placeF ns rest.length (i + 1) ((cst.take cut ++ [(⟨sortI n.op, d0 + 1, i⟩ : ThingD)]).map (fun t : ThingD => t.at_)) (ps ++ [(cst.map (·.at_)).drop cut]) = some (parts, hv) := by rw [List.map_append, List.map_take]; exact h'
            have hpre : (∀ j, j < i + 1 → parts[j]? = (ps ++ [(cst.map (·.at_)).drop cut])[j]?) := placeF_pre ns rest.length (i + 1) _ _ parts hv (by simp [hps]) hpl
            have hpx : parts[i]? = some ((cst.drop cut).map (·.at_)) := by
              rw [hpre i (by omega), List.getElem?_append_right (by omega), hps, Nat.sub_self, List.map_drop]
              rfl
            have hpi : parts.getD i [] = (cst.drop cut).map (·.at_) := by rw [List.getD_eq_getElem?_getD, hpx]; rfl
            have hTd := hT.drop cut
            rw [← hpD] at hTd
            obtain ⟨hs1, hs2⟩ := step_tie (l := l) hp (opAt_of hn) hTd hpi hpf hkk
            have hag : ∀ (t : TyD) (x : Nat), x < i → tyAt (tys.set i t) x = tyAt tys x := fun t x hx => by
              unfold tyAt
              rw [List.getD_eq_getElem?_getD, List.getD_eq_getElem?_getD, List.getElem?_set_ne (by omega)]
            have hT' : Duo (Tie ns parts (tys.set i (stepT l ds n).1.t) (i + 1)) (cst.take cut ++ [⟨sortI n.op, d0 + 1, i⟩]) (nextT l ds n) := by
              unfold nextT
              rw [← hcl, hcut]
              have h5 : tyAt (tys.set i (stepT l ds n).1.t) i = (stepT l ds n).1.t := by
                unfold tyAt
                rw [List.getD_eq_getElem?_getD, List.getElem?_set_self (by omega)]
                rfl
              refine Duo.snoc ⟨Nat.lt_succ_self i, by rw [opAt_of hn], h5, fun h3 => hs2 h3 _ (hag _)⟩ ((hT.take cut).imp fun c d _ h => ?_)
              · obtain ⟨g1, g2, g3, g4⟩ := h
                exact ⟨by omega, g2, by rw [hag _ _ g1]; exact g3, fun h3 t => by rw [g4 h3 t, fitF_agree hp c.at_ t (fun x hx => hag _ x (by omega))]⟩
            have ih := types_run (l := l) hp rest (i + 1) (cst.take cut ++ [⟨sortI n.op, d0 + 1, i⟩]) (nextT l ds n) (max deep (d0 + 1)) (ps ++ [(cst.map (·.at_)).drop cut]) (tys.set i (stepT l ds n).1.t) hd' hT' hlast' (by omega) (by rw [List.length_set]; exact htl) (by simp [hps]) hpl hr'
            refine ⟨fun j hj => by rw [hpre j (by omega), List.getElem?_append_left (by omega)], fun j m x hj hm hx => ?_, ?_⟩
            · rcases Nat.lt_or_ge i j with hij | hij
              · exact ih.2.1 j m x hij hm hx
              · obtain rfl : i = j := by omega
                rw [hn] at hm
                cases hm
                rw [hpx] at hx
                cases hx
                rw [List.length_map]
                exact hkk
            · show (if (stepR l ns parts i n tys).2 = 0 then typesR l ns parts rest (i + 1) (tys.set i (stepR l ns parts i n tys).1) else ([], (stepR l ns parts i n tys).2)).2 = (if (stepT l ds n).2 = 0 then runT l rest (nextT l ds n) else (⟨⟨0, 0⟩, []⟩, (stepT l ds n).2)).2 ∧ _
              have e1 : typesR l ns parts (n :: rest) i tys = if (stepR l ns parts i n tys).2 = 0 then typesR l ns parts rest (i + 1) (tys.set i (stepR l ns parts i n tys).1) else ([], (stepR l ns parts i n tys).2) := rfl
              have e2 : runT l (n :: rest) ds = if (stepT l ds n).2 = 0 then runT l rest (nextT l ds n) else (⟨⟨0, 0⟩, []⟩, (stepT l ds n).2) := rfl
              rw [e1, e2, hs1]
              simp only
              by_cases h0 : (stepT l ds n).2 = 0
              · rw [if_pos h0, if_pos h0]
                exact ih.2.2
              · rw [if_neg h0, if_neg h0]
                exact ⟨rfl, fun h => absurd h h0⟩
      · cases hr
    · cases h'

/-- What the reference's types come to, where expr.Check finds nothing. -/
theorem types_plain {l : List SymD} {ns : List NodeD} {tests : Bool} (hc : checkC ns tests = 0) :
    ∃ parts hv, placeF ns ns.length 0 [] [] = some (parts, hv) ∧ 0 < ns.length ∧ ns.length ≤ 300 ∧ (∀ (i : Nat) (n : NodeD) (x : List Nat), ns[i]? = some n → parts[i]? = some x → kidsB n.op x.length = true) ∧
      (typesR l ns parts ns 0 (List.replicate ns.length ⟨0, 0⟩)).2 = (runT l ns []).2 ∧
      ((runT l ns []).2 = 0 → (typesR l ns parts ns 0 (List.replicate ns.length ⟨0, 0⟩)).1.length = ns.length ∧ tyAt (typesR l ns parts ns 0 (List.replicate ns.length ⟨0, 0⟩)).1 (ns.length - 1) = (runT l ns []).1.t ∧ (tests = true → ∀ t, fitF ns parts (typesR l ns parts ns 0 (List.replicate ns.length ⟨0, 0⟩)).1 (ns.length - 1 + 1) (ns.length - 1) t = asksB t (runT l ns []).1.qs)) := by
  obtain ⟨hl, hr⟩ := checkC_ok hc
  cases hp : placeF ns ns.length 0 [] [] with
  | none => have := run_none ns tests ns 0 [] 0 [] rfl hp; omega
  | some x =>
    obtain ⟨parts, hv⟩ := x
    obtain ⟨-, hpx⟩ := placeF_ok ns ns.length 0 [] [] parts hv (fun x hx => by cases hx) (fun j l hj => by simp at hj) rfl hp
    have h := types_run (l := l) (tests := tests) (show PartsLt parts from hpx) ns 0 [] [] 0 [] (List.replicate ns.length ⟨0, 0⟩) rfl True.intro (fun l t e => by simp at e) (Nat.zero_le _) (by simp) rfl hp hr
    refine ⟨parts, hv, rfl, ?_, hl, fun i n x => h.2.1 i n x (Nat.zero_le _), h.2.2⟩
    cases ns with
    | nil => have h1 : endC tests [] 0 = 0 := hr; simp [endC] at h1
    | cons a b => simp
end Go.Proofs.YtpjcjgikfplgnaaDoor
