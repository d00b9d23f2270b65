/- The laws of equality and of truth over values in form, in plain Lean. -/
import Derived.Test.YtgobdcmoelcckaaGreatDoorValPlain
namespace Go.Proofs.YtgobdcmoelcckaaGreatDoor
open Go.RowKit
set_option linter.unusedVariables false
set_option maxRecDepth 100000

/-- Lists of names none twice. -/
theorem sub_back {α : Type} [DecidableEq α] : ∀ (a b : List α), a.Nodup → (∀ x ∈ a, x ∈ b) → b.length ≤ a.length → ∀ y ∈ b, y ∈ a
  | [], b, _, _, hl, y, hy => by
    have : b = [] := List.eq_nil_of_length_eq_zero (by simpa using hl)
    subst this; exact hy
  | x :: r, b, hn, hs, hl, y, hy => by
    by_cases e : y = x
    · subst e; exact List.mem_cons_self
    · refine List.mem_cons_of_mem _ (sub_back r (b.erase x) (List.nodup_cons.1 hn).2 (fun z hz => ?_) ?_ y ((List.mem_erase_of_ne e).2 hy))
      · have hzx : z ≠ x := fun e => (List.nodup_cons.1 hn).1 (e ▸ hz)
        exact (List.mem_erase_of_ne hzx).2 (hs z (List.mem_cons_of_mem _ hz))
      · rw [List.length_erase_of_mem (hs x List.mem_cons_self)]
        simp only [List.length_cons] at hl
        omega
theorem findS_some {l : List ByteArray} {s : ByteArray} {j : Nat} (h : findS l s = some j) : ∃ t, l[j]? = some t ∧ t.toList = s.toList := by
  unfold findS at h
  obtain ⟨hj, h1, -⟩ := List.findIdx?_eq_some_iff_getElem.1 h
  exact ⟨l[j], List.getElem?_eq_getElem hj, by simpa using h1⟩
theorem findS_none {l : List ByteArray} {s : ByteArray} (h : findS l s = none) : s.toList ∉ l.map (·.toList) := by
  unfold findS at h
  rw [List.findIdx?_eq_none_iff] at h
  intro hm
  obtain ⟨t, ht, e⟩ := List.mem_map.1 hm
  have := h t ht
  simp [e] at this
theorem nodup_get {α : Type} {l : List α} (h : l.Nodup) {i j : Nat} {x : α} (hi : l[i]? = some x) (hj : l[j]? = some x) : i = j := by
  obtain ⟨a, ha⟩ := List.getElem?_eq_some_iff.1 hi
  obtain ⟨b, hb⟩ := List.getElem?_eq_some_iff.1 hj
  exact (List.getElem_inj h).1 (ha.trans hb.symm)
theorem findS_at {l : List ByteArray} (h : (l.map (·.toList)).Nodup) {s t : ByteArray} {j : Nat} (hj : l[j]? = some t) (e : t.toList = s.toList) : findS l s = some j := by
  cases hf : findS l s with
  | none =>
    exact absurd (List.mem_map.2 ⟨t, List.mem_of_getElem? hj, e⟩) (findS_none hf)
  | some k =>
    obtain ⟨u, hu, e'⟩ := findS_some hf
    have h1 : (l.map (·.toList))[k]? = some s.toList := by rw [List.getElem?_map, hu]; exact congrArg some e'
    have h2 : (l.map (·.toList))[j]? = some s.toList := by rw [List.getElem?_map, hj]; exact congrArg some e
    rw [nodup_get h h1 h2]

theorem ansL_len {ctx : Bool} {ns : List ByteArray} {b : VD} : ∀ {l : List VD} {i : Nat} {L : List (Option Bool)}, ansL ctx ns b l i = some L → L.length = l.length
  | [], i, L, h => by simp only [ansL, Option.some.injEq] at h; subst h; rfl
  | x :: r, i, L, h => by
    simp only [ansL] at h
    cases hz : (place ctx ns b.ns i).bind (fun j => b.l[j]?) with
    | none => rw [hz] at h; cases h
    | some z =>
      rw [hz] at h
      dsimp only at h
      cases hr : ansL ctx ns b r (i + 1) with
      | none => rw [hr] at h; cases h
      | some M =>
        rw [hr] at h
        simp only [Option.map_some, Option.some.injEq] at h
        subst h
        rw [List.length_cons, List.length_cons, ansL_len hr]
theorem ansL_none {ctx : Bool} {ns : List ByteArray} {b : VD} : ∀ {l : List VD} {i : Nat}, ansL ctx ns b l i = none ↔ ∃ m, m < l.length ∧ (place ctx ns b.ns (i + m)).bind (fun j => b.l[j]?) = none
  | [], i => by simp [ansL]
  | x :: r, i => by
    simp only [ansL]
    cases hz : (place ctx ns b.ns i).bind (fun j => b.l[j]?) with
    | none => exact ⟨fun _ => ⟨0, by simp, by simpa using hz⟩, fun _ => rfl⟩
    | some z =>
      dsimp only
      rw [Option.map_eq_none_iff, ansL_none]
      constructor
      · rintro ⟨m, hm, h⟩
        exact ⟨m + 1, by simpa using hm, by rw [show i + (m + 1) = i + 1 + m by omega]; exact h⟩
      · rintro ⟨m, hm, h⟩
        cases m with
        | zero => rw [Nat.add_zero, hz] at h; cases h
        | succ m => exact ⟨m, by simpa using hm, by rw [show i + 1 + m = i + (m + 1) by omega]; exact h⟩
theorem ansL_get {ctx : Bool} {ns : List ByteArray} {b : VD} : ∀ {l : List VD} {i : Nat} {L : List (Option Bool)}, ansL ctx ns b l i = some L → ∀ {m : Nat} {x : VD}, l[m]? = some x → ∃ z, (place ctx ns b.ns (i + m)).bind (fun j => b.l[j]?) = some z ∧ L[m]? = some (VD.eq x z)
  | [], i, L, h, m, x, hx => by simp at hx
  | y :: r, i, L, h, m, x, hx => by
    simp only [ansL] at h
    cases hz : (place ctx ns b.ns i).bind (fun j => b.l[j]?) with
    | none => rw [hz] at h; cases h
    | some z =>
      rw [hz] at h
      dsimp only at h
      cases hr : ansL ctx ns b r (i + 1) with
      | none => rw [hr] at h; cases h
      | some M =>
        rw [hr] at h
        simp only [Option.map_some, Option.some.injEq] at h
        subst h
        cases m with
        | zero =>
          simp at hx
          subst hx
          exact ⟨z, by rw [Nat.add_zero]; exact hz, rfl⟩
        | succ m =>
          obtain ⟨z', h1, h2⟩ := ansL_get hr (m := m) (x := x) (by simpa using hx)
          exact ⟨z', by rw [show i + (m + 1) = i + 1 + m by omega]; exact h1, by simpa using h2⟩

/-- The entry of the other one that stands against an entry. -/
def mate (ctx : Bool) (a b : VD) (i : Nat) : Option VD := (place ctx a.ns b.ns i).bind (fun j => b.l[j]?)
theorem eqL_false {ctx : Bool} {a b : VD} : sumT (some true) (ansL ctx a.ns b a.l 0) = some false ↔ ∃ i x, a.l[i]? = some x ∧ (mate ctx a b i = none ∨ ∃ z, mate ctx a b i = some z ∧ VD.eq x z = some false) := by
  cases h : ansL ctx a.ns b a.l 0 with
  | none =>
    obtain ⟨m, hm, hn⟩ := ansL_none.1 h
    rw [Nat.zero_add] at hn
    exact ⟨fun _ => ⟨m, a.l[m], List.getElem?_eq_getElem hm, Or.inl hn⟩, fun _ => rfl⟩
  | some L =>
    simp only [sumT, bothT_true]
    rw [allT_false]
    constructor
    · intro hm
      obtain ⟨i, hi⟩ := List.mem_iff_getElem?.1 hm
      have hil := (List.getElem?_eq_some_iff.1 hi).1
      rw [ansL_len h] at hil
      obtain ⟨z, h1, h2⟩ := ansL_get h (List.getElem?_eq_getElem hil)
      rw [Nat.zero_add] at h1
      rw [hi] at h2
      exact ⟨i, a.l[i], List.getElem?_eq_getElem hil, Or.inr ⟨z, h1, (Option.some.inj h2).symm⟩⟩
    · rintro ⟨i, x, hx, hn⟩
      obtain ⟨z, h1, h2⟩ := ansL_get h hx
      rw [Nat.zero_add] at h1
      rcases hn with hn | ⟨z', hz', he⟩
      · unfold mate at hn; rw [hn] at h1; cases h1
      · unfold mate at hz'
        rw [hz'] at h1
        obtain rfl := Option.some.inj h1
        rw [he] at h2
        exact List.mem_of_getElem? h2
theorem eqL_true {ctx : Bool} {a b : VD} : sumT (some true) (ansL ctx a.ns b a.l 0) = some true ↔ ∀ i x, a.l[i]? = some x → ∃ z, mate ctx a b i = some z ∧ VD.eq x z = some true := by
  cases h : ansL ctx a.ns b a.l 0 with
  | none =>
    obtain ⟨m, hm, hn⟩ := ansL_none.1 h
    rw [Nat.zero_add] at hn
    refine ⟨fun e => (by cases e), fun e => ?_⟩
    obtain ⟨z, hz, -⟩ := e m a.l[m] (List.getElem?_eq_getElem hm)
    unfold mate at hz
    rw [hn] at hz
    cases hz
  | some L =>
    simp only [sumT, bothT_true]
    rw [allT_true]
    constructor
    · intro hall i x hx
      obtain ⟨z, h1, h2⟩ := ansL_get h hx
      rw [Nat.zero_add] at h1
      exact ⟨z, h1, hall _ (List.mem_of_getElem? h2)⟩
    · intro hall y hy
      obtain ⟨i, hi⟩ := List.mem_iff_getElem?.1 hy
      have hil := (List.getElem?_eq_some_iff.1 hi).1
      rw [ansL_len h] at hil
      obtain ⟨z, h1, h2⟩ := ansL_get h (List.getElem?_eq_getElem hil)
      rw [Nat.zero_add] at h1
      obtain ⟨z', h3, h4⟩ := hall i a.l[i] (List.getElem?_eq_getElem hil)
      unfold mate at h3
      rw [h1] at h3
      obtain rfl := Option.some.inj h3
      rw [hi] at h2
      rw [Option.some.inj h2, h4]
theorem three_ext {a b : Option Bool} (h1 : a = some false ↔ b = some false) (h2 : a = some true ↔ b = some true) : a = b := by
  rcases a with _ | _ | _ <;> rcases b with _ | _ | _ <;> simp_all

/-- What form gives of a context, of any. -/
theorem VD.form_own {v : VD} (h : v.form = true) : v.own = true ∧ VD.formL v.l = true := by
  cases v
  simp only [VD.form, Bool.and_eq_true] at h
  exact ⟨h.1, h.2⟩
theorem VD.form_bare {v : VD} (h : v.form = true) : v.bare = true := by
  have := (VD.form_own h).1
  unfold VD.own at this
  exact (Bool.and_eq_true _ _ ▸ this).1
theorem VD.form_ctx {v : VD} (h : v.form = true) (hk : v.k = 6) : v.ns.length = v.l.length ∧ (v.ns.map (·.toList)).Nodup := by
  have := (VD.form_own h).1
  unfold VD.own at this
  rw [Bool.and_eq_true] at this
  have h2 := this.2
  simp only [hk, namesB] at h2
  simp at h2
  exact ⟨h2.1, h2.2.2⟩
/-- Two entries that stand against one another do so both ways. -/
theorem mate_back {a b : VD} {ctx : Bool} (hc : ctx = true → (a.ns.length = a.l.length ∧ (a.ns.map (·.toList)).Nodup) ∧ b.ns.length = b.l.length ∧ (b.ns.map (·.toList)).Nodup) (hl : a.l.length = b.l.length) {i : Nat} {x z : VD} (hx : a.l[i]? = some x) (hz : mate ctx a b i = some z) : ∃ j, b.l[j]? = some z ∧ mate ctx b a j = some x := by
  unfold mate at hz
  obtain ⟨j, hj, hbj⟩ := Option.bind_eq_some_iff.1 hz
  refine ⟨j, hbj, ?_⟩
  unfold mate
  cases ctx with
  | false =>
    simp only [place, Bool.false_eq_true, if_false, Option.some.injEq] at hj ⊢
    subst hj
    simpa using hx
  | true =>
    obtain ⟨⟨ha1, ha2⟩, hb1, hb2⟩ := hc rfl
    simp only [place, if_true] at hj ⊢
    cases hs : a.ns[i]? with
    | none => rw [hs] at hj; cases hj
    | some s =>
      rw [hs] at hj
      dsimp only at hj
      obtain ⟨t, ht, e⟩ := findS_some hj
      rw [ht]
      dsimp only
      rw [findS_at ha2 hs e.symm]
      exact hx
theorem mate_lack {a b : VD} {ctx : Bool} (hc : ctx = true → (a.ns.length = a.l.length ∧ (a.ns.map (·.toList)).Nodup) ∧ b.ns.length = b.l.length ∧ (b.ns.map (·.toList)).Nodup) (hl : a.l.length = b.l.length) {i : Nat} {x : VD} (hx : a.l[i]? = some x) (hn : mate ctx a b i = none) : ∃ j z, b.l[j]? = some z ∧ mate ctx b a j = none := by
  have hil := (List.getElem?_eq_some_iff.1 hx).1
  cases ctx with
  | false =>
    exfalso
    unfold mate place at hn
    simp only [Bool.false_eq_true, if_false, Option.bind_some] at hn
    rw [List.getElem?_eq_none_iff] at hn
    omega
  | true =>
    obtain ⟨⟨ha1, ha2⟩, hb1, hb2⟩ := hc rfl
    -- a name of a that b lacks; then b has one that a lacks
    have hs : a.ns[i]? = some a.ns[i] := List.getElem?_eq_getElem (by omega)
    have hlack : a.ns[i].toList ∉ b.ns.map (·.toList) := by
      unfold mate place at hn
      simp only [if_true, hs] at hn
      cases hf : findS b.ns a.ns[i] with
      | none => exact findS_none hf
      | some j =>
        rw [hf] at hn
        obtain ⟨t, ht, -⟩ := findS_some hf
        have := (List.getElem?_eq_some_iff.1 ht).1
        simp only [Option.bind_some] at hn
        rw [List.getElem?_eq_none_iff] at hn
        omega
    refine Classical.byContradiction fun hno => hlack ?_
    refine sub_back (b.ns.map (·.toList)) (a.ns.map (·.toList)) hb2 (fun s hs => ?_) (by simp; omega) _ (List.mem_map.2 ⟨_, List.getElem_mem _, rfl⟩)
    obtain ⟨j, hj⟩ := List.mem_iff_getElem?.1 hs
    rw [List.getElem?_map, Option.map_eq_some_iff] at hj
    obtain ⟨t, ht, e⟩ := hj
    have hjl := (List.getElem?_eq_some_iff.1 ht).1
    have hz : b.l[j]? = some b.l[j] := List.getElem?_eq_getElem (by omega)
    cases hm : mate true b a j with
    | none => exact absurd ⟨j, _, hz, hm⟩ hno
    | some y =>
      unfold mate place at hm
      simp only [if_true, ht] at hm
      obtain ⟨k, hk, -⟩ := Option.bind_eq_some_iff.1 hm
      obtain ⟨u, hu, e'⟩ := findS_some hk
      exact List.mem_map.2 ⟨u, List.mem_of_getElem? hu, by rw [e', e]⟩

mutual
theorem VD.same_symm : ∀ a b : VD, VD.same a b = VD.same b a
  | .mk k y n t d l ns, .mk k' y' n' t' d' l' ns' => by
    simp only [VD.same]
    rw [VD.sameL_symm l l']
    congr 1
    rw [decide_eq_decide]
    constructor <;> (rintro ⟨h1, h2, h3, h4, h5, h6⟩; exact ⟨h1.symm, h2.symm, h3.symm, h4.symm, h5.symm, h6.symm⟩)
theorem VD.sameL_symm : ∀ a b : List VD, VD.sameL a b = VD.sameL b a
  | [], [] => rfl
  | x :: r, y :: s => by simp only [VD.sameL]; rw [VD.same_symm x y, VD.sameL_symm r s]
  | _ :: _, [] => rfl
  | [], _ :: _ => rfl
end
mutual
theorem VD.same_self : ∀ a : VD, VD.same a a = true
  | .mk k y n t d l ns => by simp only [VD.same]; rw [VD.sameL_self l]; simp
theorem VD.sameL_self : ∀ a : List VD, VD.sameL a a = true
  | [] => rfl
  | x :: r => by simp only [VD.sameL]; rw [VD.same_self x, VD.sameL_self r]; rfl
end
theorem VD.eq_def' (a b : VD) : VD.eq a b = if a.k = 0 ∨ b.k = 0 then some (decide (a.k = b.k)) else if a.k ≠ b.k then none else if a.k ≠ 5 ∧ a.k ≠ 6 then some (VD.same a b) else if a.l.length ≠ b.l.length then some false else sumT (some true) (ansL (decide (a.k = 6)) a.ns b a.l 0) := by
  cases a
  simp only [VD.eq, eqL_ans]
  rfl
theorem VD.parts_get {v x : VD} {i : Nat} (h : v.l[i]? = some x) : x.parts < v.parts := by
  cases v with
  | mk k y n t d l ns =>
    have := VD.partsL_get (show l[i]? = some x from h)
    simp only [VD.parts]
    omega
theorem mate_form {ctx : Bool} {a b z : VD} {i : Nat} (hb : b.form = true) (h : mate ctx a b i = some z) : z.form = true := by
  unfold mate at h
  obtain ⟨j, -, hj⟩ := Option.bind_eq_some_iff.1 h
  exact VD.formL_get (VD.form_own hb).2 hj
theorem VD.eq_symm : ∀ (n : Nat) (a b : VD), a.parts ≤ n → a.form = true → b.form = true → VD.eq a b = VD.eq b a
  | 0, a, b, hn, _, _ => by have := a.parts_pos; omega
  | n + 1, a, b, hn, ha, hb => by
    rw [VD.eq_def' a b, VD.eq_def' b a]
    by_cases h0 : a.k = 0 ∨ b.k = 0
    · rw [if_pos h0, if_pos (Or.symm h0)]
      congr 1
      rw [decide_eq_decide]
      exact eq_comm
    rw [if_neg h0, if_neg (fun h => h0 (Or.symm h))]
    by_cases h1 : a.k ≠ b.k
    · rw [if_pos h1, if_pos (Ne.symm h1)]
    rw [if_neg h1, if_neg (fun h => h1 (Ne.symm h))]
    have hk : a.k = b.k := Classical.not_not.1 h1
    by_cases h2 : a.k ≠ 5 ∧ a.k ≠ 6
    · rw [if_pos h2, if_pos (show b.k ≠ 5 ∧ b.k ≠ 6 by rw [← hk]; exact h2), VD.same_symm]
    rw [if_neg h2, if_neg (show ¬ (b.k ≠ 5 ∧ b.k ≠ 6) by rw [← hk]; exact h2)]
    by_cases h3 : a.l.length ≠ b.l.length
    · rw [if_pos h3, if_pos (Ne.symm h3)]
    rw [if_neg h3, if_neg (fun h => h3 (Ne.symm h))]
    have hl : a.l.length = b.l.length := Classical.not_not.1 h3
    rw [← hk]
    have hc : (decide (a.k = 6)) = true → (a.ns.length = a.l.length ∧ (a.ns.map (·.toList)).Nodup) ∧ b.ns.length = b.l.length ∧ (b.ns.map (·.toList)).Nodup := fun h => by
      have h6 : a.k = 6 := of_decide_eq_true h
      exact ⟨VD.form_ctx ha h6, VD.form_ctx hb (hk ▸ h6)⟩
    have hc' : (decide (a.k = 6)) = true → (b.ns.length = b.l.length ∧ (b.ns.map (·.toList)).Nodup) ∧ a.ns.length = a.l.length ∧ (a.ns.map (·.toList)).Nodup := fun h => ⟨(hc h).2, (hc h).1⟩
    generalize decide (a.k = 6) = ctx at hc hc'
    have one : ∀ {i : Nat} {x z : VD}, a.l[i]? = some x → z.form = true → VD.eq x z = VD.eq z x := fun hx hz => VD.eq_symm n _ _ (by have := VD.parts_get hx; omega) (VD.formL_get (VD.form_own ha).2 hx) hz
    refine three_ext ?_ ?_
    · rw [eqL_false, eqL_false]
      constructor
      · rintro ⟨i, x, hx, hn | ⟨z, hz, he⟩⟩
        · obtain ⟨j, z, h4, h5⟩ := mate_lack hc hl hx hn
          exact ⟨j, z, h4, Or.inl h5⟩
        · obtain ⟨j, h4, h5⟩ := mate_back hc hl hx hz
          exact ⟨j, z, h4, Or.inr ⟨x, h5, by rw [← one hx (mate_form hb hz)]; exact he⟩⟩
      · rintro ⟨j, z, hz, hn | ⟨x, hx, he⟩⟩
        · obtain ⟨i, x, h4, h5⟩ := mate_lack hc' hl.symm hz hn
          exact ⟨i, x, h4, Or.inl h5⟩
        · obtain ⟨i, h4, h5⟩ := mate_back hc' hl.symm hz hx
          exact ⟨i, x, h4, Or.inr ⟨z, h5, by rw [one h4 (VD.formL_get (VD.form_own hb).2 hz)]; exact he⟩⟩
    · rw [eqL_true, eqL_true]
      constructor
      · intro h j z hz
        cases hm : mate ctx b a j with
        | none =>
          obtain ⟨i, x, h4, h5⟩ := mate_lack hc' hl.symm hz hm
          obtain ⟨_, h6, _⟩ := h i x h4
          rw [h5] at h6
          cases h6
        | some x =>
          obtain ⟨i, h4, h5⟩ := mate_back hc' hl.symm hz hm
          obtain ⟨z', h6, h7⟩ := h i x h4
          rw [h5] at h6
          obtain rfl := Option.some.inj h6
          exact ⟨x, rfl, by rw [← one h4 (VD.formL_get (VD.form_own hb).2 hz)]; exact h7⟩
      · intro h i x hx
        cases hm : mate ctx a b i with
        | none =>
          obtain ⟨j, z, h4, h5⟩ := mate_lack hc hl hx hm
          obtain ⟨_, h6, _⟩ := h j z h4
          rw [h5] at h6
          cases h6
        | some z =>
          obtain ⟨j, h4, h5⟩ := mate_back hc hl hx hm
          obtain ⟨x', h6, h7⟩ := h j z h4
          rw [h5] at h6
          obtain rfl := Option.some.inj h6
          exact ⟨z, rfl, by rw [one hx (mate_form hb hm)]; exact h7⟩
/-- A value in form is equal to itself. -/
theorem VD.eq_self : ∀ (n : Nat) (a : VD), a.parts ≤ n → a.form = true → VD.eq a a = some true
  | 0, a, hn, _ => by have := a.parts_pos; omega
  | n + 1, a, hn, ha => by
    rw [VD.eq_def']
    by_cases h0 : a.k = 0 ∨ a.k = 0
    · rw [if_pos h0]; simp
    rw [if_neg h0, if_neg (by simp)]
    by_cases h2 : a.k ≠ 5 ∧ a.k ≠ 6
    · rw [if_pos h2, VD.same_self]
    rw [if_neg h2, if_neg (by simp), eqL_true]
    intro i x hx
    have hil := (List.getElem?_eq_some_iff.1 hx).1
    refine ⟨x, ?_, VD.eq_self n x (by have := VD.parts_get hx; omega) (VD.formL_get (VD.form_own ha).2 hx)⟩
    unfold mate place
    by_cases h6 : a.k = 6
    · obtain ⟨h7, h8⟩ := VD.form_ctx ha h6
      have hs : a.ns[i]? = some a.ns[i] := List.getElem?_eq_getElem (by omega)
      simp only [h6, decide_true, if_true, hs]
      rw [findS_at h8 hs rfl]
      exact hx
    · simp only [h6, decide_false, Bool.false_eq_true, if_false, Option.bind_some]
      exact hx
end Go.Proofs.YtgobdcmoelcckaaGreatDoor
