/- Escapes over lists of bytes: what Escape lays, what Unescape reads, and that it reads what was laid. No program in sight. -/
import Derived.Test.YtanncakdlflopaaGreatDoorQuoteA
import Derived.Test.YtanncakdlflopaaGreatDoorTrieB
namespace Go.Proofs.YtanncakdlflopaaGreatDoor
set_option linter.unusedVariables false
set_option maxRecDepth 100000

def escA : List (UInt8 × List UInt8) := [(38, [38, 97, 109, 112, 59]), (60, [38, 108, 116, 59]), (62, [38, 103, 116, 59]), (13, [38, 35, 49, 51, 59])]
def escB : List (UInt8 × List UInt8) := [(34, [38, 113, 117, 111, 116, 59]), (9, [38, 35, 57, 59]), (10, [38, 35, 49, 48, 59])]
def escT (at_ : Bool) (l : List UInt8) : List UInt8 := if at_ then replL escB (replL escA l) else replL escA l
/-- A byte as it stands in a document. -/
def escC (at_ : Bool) (c : UInt8) : List UInt8 :=
 if c = 38 then [38, 97, 109, 112, 59] else if c = 60 then [38, 108, 116, 59] else if c = 62 then [38, 103, 116, 59] else if c = 13 then [38, 35, 49, 51, 59] else
 if at_ then (if c = 34 then [38, 113, 117, 111, 116, 59] else if c = 9 then [38, 35, 57, 59] else if c = 10 then [38, 35, 49, 48, 59] else [c]) else [c]
theorem replC_one {T : List (UInt8 × List UInt8)} {c : UInt8} (h : ∀ x ∈ T, x.1 ≠ c) : replC T c = [c] := by
 unfold replC pairOf
 rw [List.find?_eq_none.2 (fun x hx => by
  simp only [beq_iff_eq]
  intro e
  exact h x hx (UInt8.toNat_inj.1 e))]
theorem replL_cons (T : List (UInt8 × List UInt8)) (c : UInt8) (l : List UInt8) : replL T (c :: l) = replC T c ++ replL T l := by
 unfold replL; rw [List.flatMap_cons]
theorem escA_one {c : UInt8} (h1 : c ≠ 38) (h2 : c ≠ 60) (h3 : c ≠ 62) (h4 : c ≠ 13) : replC escA c = [c] := replC_one (by
 intro x hx e
 simp only [escA, List.mem_cons, List.not_mem_nil, or_false] at hx
 rcases hx with rfl | rfl | rfl | rfl
 ·exact h1 e.symm
 ·exact h2 e.symm
 ·exact h3 e.symm
 ·exact h4 e.symm)
theorem escB_one {c : UInt8} (h1 : c ≠ 34) (h2 : c ≠ 9) (h3 : c ≠ 10) : replC escB c = [c] := replC_one (by
 intro x hx e
 simp only [escB, List.mem_cons, List.not_mem_nil, or_false] at hx
 rcases hx with rfl | rfl | rfl
 ·exact h1 e.symm
 ·exact h2 e.symm
 ·exact h3 e.symm)
theorem escC_false (c : UInt8) : escC false c = replC escA c := by
 unfold escC
 split
 ·rename_i h; subst h; rfl
 split
 ·rename_i h; subst h; rfl
 split
 ·rename_i h; subst h; rfl
 split
 ·rename_i h; subst h; rfl
 ·rename_i h1 h2 h3 h4
  rw [escA_one h1 h2 h3 h4]; rfl
theorem escC_true (c : UInt8) : escC true c = replL escB (replC escA c) := by
 unfold escC
 split
 ·rename_i h; subst h; rfl
 split
 ·rename_i h; subst h; rfl
 split
 ·rename_i h; subst h; rfl
 split
 ·rename_i h; subst h; rfl
 ·rename_i h1 h2 h3 h4
  rw [escA_one h1 h2 h3 h4, replL_cons]
  simp only [if_true]
  split
  ·rename_i h; subst h; rfl
  split
  ·rename_i h; subst h; rfl
  split
  ·rename_i h; subst h; rfl
  ·rename_i g1 g2 g3
   rw [escB_one g1 g2 g3]; rfl
theorem escT_map (at_ : Bool) (l : List UInt8) : escT at_ l = l.flatMap (escC at_) := by
 cases at_ with
 | false =>
  show replL escA l = _
  unfold replL
  congr 1
  funext c
  exact (escC_false c).symm
 | true =>
  show replL escB (replL escA l) = _
  induction l with
  | nil => rfl
  | cons c l ih => rw [replL_cons, replL_app, ih, List.flatMap_cons, escC_true]

/-- Line ends and blanks. -/
def spB (c : UInt8) : UInt8 := if c = 9 ∨ c = 10 then 32 else c
def plainL (at_ : Bool) (l : List UInt8) : List UInt8 := if at_ then (nlL l).map spB else nlL l
theorem nlL_none : ∀ {l : List UInt8}, (∀ c ∈ l, c ≠ 13) → nlL l = l
 | [], _ => rfl
 | c :: l, h => by
  rw [nlL_other rfl (h c (by simp)), nlL_none (fun d hd => h d (by simp [hd]))]
theorem escC_plain (at_ : Bool) (c : UInt8) : ∀ d ∈ escC at_ c, d ≠ 13 ∧ (at_ = true → d ≠ 9 ∧ d ≠ 10) := by
 unfold escC
 split
 ·intro d hd; simp at hd; rcases hd with rfl | rfl | rfl | rfl | rfl <;> decide +revert
 split
 ·intro d hd; simp at hd; rcases hd with rfl | rfl | rfl | rfl <;> decide +revert
 split
 ·intro d hd; simp at hd; rcases hd with rfl | rfl | rfl | rfl <;> decide +revert
 split
 ·intro d hd; simp at hd; rcases hd with rfl | rfl | rfl | rfl | rfl <;> decide +revert
 ·rename_i h1 h2 h3 h4
  cases at_ with
  | false =>
   intro d hd
   simp at hd
   subst hd
   exact ⟨h4, by simp⟩
  | true =>
   simp only [if_true]
   split
   ·intro d hd; simp at hd; rcases hd with rfl | rfl | rfl | rfl | rfl | rfl <;> decide
   split
   ·intro d hd; simp at hd; rcases hd with rfl | rfl | rfl | rfl <;> decide
   split
   ·intro d hd; simp at hd; rcases hd with rfl | rfl | rfl | rfl | rfl <;> decide
   ·rename_i g1 g2 g3
    intro d hd
    simp at hd
    subst hd
    exact ⟨h4, fun _ => ⟨g2, g3⟩⟩
theorem plain_esc (at_ : Bool) (l : List UInt8) : plainL at_ (escT at_ l) = escT at_ l := by
 rw [escT_map]
 have h : ∀ d ∈ l.flatMap (escC at_), d ≠ 13 ∧ (at_ = true → d ≠ 9 ∧ d ≠ 10) := by
  intro d hd
  obtain ⟨c, _, hc⟩ := List.mem_flatMap.1 hd
  exact escC_plain at_ c d hc
 have hn := nlL_none (fun d hd => (h d hd).1)
 unfold plainL
 cases at_ with
 | false => exact hn
 | true =>
  simp only [if_true]
  rw [hn]
  conv => rhs; rw [← List.map_id (l.flatMap (escC true))]
  apply List.map_congr_left
  intro d hd
  have := (h d hd).2 rfl
  simp [spB, this.1, this.2]

/-- A digit of base 16. -/
def digV (c : UInt8) : Option Nat :=
 if 48 ≤ c.toNat ∧ c.toNat ≤ 57 then some (c.toNat - 48) else if 97 ≤ c.toNat ∧ c.toNat ≤ 102 then some (c.toNat - 87) else if 65 ≤ c.toNat ∧ c.toNat ≤ 70 then some (c.toNat - 55) else none
/-- The number of a row of digits behind n. -/
def valL (b : Nat) : Nat → List UInt8 → Option Nat
 | n, [] => some n
 | n, c :: r => match digV c with
  | some d => if d < b then valL b (n * b + d) r else none
  | none => none
/-- The bytes of the character of that number. -/
def numL (b : Nat) (l : List UInt8) : Option (List UInt8) := if l = [] then none else match valL b 0 l with
 | some n => if charB n then some (encL n) else none
 | none => none
def meanL (r : List UInt8) : Option (List UInt8) :=
 if r = [108, 116] then some [60] else if r = [103, 116] then some [62] else if r = [97, 109, 112] then some [38] else if r = [113, 117, 111, 116] then some [34] else if r = [97, 112, 111, 115] then some [39] else
 if r.head? = some 35 then (if r[1]? = some 120 then numL 16 (r.drop 2) else numL 10 (r.drop 1)) else none
def cutL (c : UInt8) : List UInt8 → Option (List UInt8 × List UInt8)
 | [] => none
 | x :: r => if x = c then some ([], r) else (cutL c r).map fun p => (x :: p.1, p.2)
theorem cutL_some {c : UInt8} : ∀ {l m t : List UInt8}, cutL c l = some (m, t) → l = m ++ c :: t ∧ c ∉ m
 | [], m, t, h => by simp [cutL] at h
 | x :: r, m, t, h => by
  unfold cutL at h
  by_cases hx : x = c
  ·rw [if_pos hx] at h
   simp at h
   obtain ⟨rfl, rfl⟩ := h
   exact ⟨by rw [hx]; rfl, by simp⟩
  ·rw [if_neg hx] at h
   cases hr : cutL c r with
   | none => rw [hr] at h; simp at h
   | some p =>
    rw [hr] at h
    simp at h
    obtain ⟨rfl, rfl⟩ := h
    obtain ⟨h1, h2⟩ := cutL_some (m := p.1) (t := p.2) hr
    exact ⟨by rw [h1]; rfl, by simp [h2, Ne.symm hx]⟩
theorem cutL_none {c : UInt8} : ∀ {l : List UInt8}, cutL c l = none → c ∉ l
 | [], _ => by simp
 | x :: r, h => by
  unfold cutL at h
  by_cases hx : x = c
  ·rw [if_pos hx] at h; simp at h
  ·rw [if_neg hx] at h
   have := cutL_none (c := c) (l := r) (by simpa using h)
   simp [this, Ne.symm hx]
theorem cutL_of {c : UInt8} : ∀ {m t : List UInt8}, c ∉ m → cutL c (m ++ c :: t) = some (m, t)
 | [], t, _ => by simp [cutL]
 | x :: m, t, h => by
  simp only [List.mem_cons, not_or] at h
  simp only [List.cons_append, cutL]
  rw [if_neg (Ne.symm h.1), cutL_of h.2]
  rfl
theorem cutL_len {c : UInt8} {l m t : List UInt8} (h : cutL c l = some (m, t)) : t.length < l.length := by
 obtain ⟨e, _⟩ := cutL_some h
 rw [e]; simp; omega
/-- What a text in a document means; none: it isn't of the form. -/
def unesF : Nat → List UInt8 → Option (List UInt8)
 | 0, _ => some []
 | f + 1, l => match l with
  | [] => some []
  | c :: r => if c = 60 then none else if c = 38 then (match cutL 59 r with
    | none => none
    | some p => match meanL p.1 with
     | none => none
     | some b => (unesF f p.2).map (b ++ ·))
   else (unesF f r).map (c :: ·)
def unes (l : List UInt8) : Option (List UInt8) := unesF l.length l
theorem unesF_more : ∀ (f g : Nat) (l : List UInt8), l.length ≤ f → l.length ≤ g → unesF f l = unesF g l
 | 0, 0, _, _, _ => rfl
 | 0, g + 1, l, hf, _ => by
  have : l = [] := List.eq_nil_of_length_eq_zero (by omega)
  subst this; rfl
 | f + 1, 0, l, _, hg => by
  have : l = [] := List.eq_nil_of_length_eq_zero (by omega)
  subst this; rfl
 | f + 1, g + 1, [], _, _ => rfl
 | f + 1, g + 1, c :: r, hf, hg => by
  have h1 : r.length ≤ f := by simpa using hf
  have h2 : r.length ≤ g := by simpa using hg
  unfold unesF
  simp only
  rw [unesF_more f g r h1 h2]
  cases hc : cutL 59 r with
  | none => rfl
  | some p =>
   have h3 := cutL_len (m := p.1) (t := p.2) hc
   simp only
   rw [unesF_more f g p.2 (by omega) (by omega)]
theorem unes_nil : unes [] = some [] := rfl
theorem unes_lt (r : List UInt8) : unes (60 :: r) = none := rfl
theorem unes_other {c : UInt8} {r : List UInt8} (h1 : c ≠ 60) (h2 : c ≠ 38) : unes (c :: r) = (unes r).map (c :: ·) := by
 show (if c = 60 then none else if c = 38 then _ else (unesF r.length r).map (c :: ·)) = _
 rw [if_neg h1, if_neg h2]
 rfl
theorem unes_open {r : List UInt8} (h : cutL 59 r = none) : unes (38 :: r) = none := by
 show (match cutL 59 r with | none => none | some p => _) = none
 rw [h]
theorem unes_amp {r m t : List UInt8} (h : cutL 59 r = some (m, t)) : unes (38 :: r) = (match meanL m with | none => none | some b => (unes t).map (b ++ ·)) := by
 show (match cutL 59 r with | none => none | some p => match meanL p.1 with | none => none | some b => (unesF r.length p.2).map (b ++ ·)) = _
 rw [h]
 simp only
 have := cutL_len h
 rw [unesF_more r.length t.length t (by omega) (Nat.le_refl _)]
 rfl
theorem unes_app {l : List UInt8} (h1 : 60 ∉ l) (h2 : 38 ∉ l) (r : List UInt8) : unes (l ++ r) = (unes r).map (l ++ ·) := by
 induction l with
 | nil => simp
 | cons c l ih =>
  simp only [List.mem_cons, not_or] at h1 h2
  rw [List.cons_append, unes_other (Ne.symm h1.1) (Ne.symm h2.1), ih h1.2 h2.2, Option.map_map]
  rfl
/-- A reference read by its bytes. -/
theorem unes_ref {m b : List UInt8} (t : List UInt8) (h : 59 ∉ m) (hm : meanL m = some b) : unes (38 :: (m ++ 59 :: t)) = (unes t).map (b ++ ·) := by
 rw [unes_amp (cutL_of h), hm]
theorem escC_back (at_ : Bool) (c : UInt8) (t : List UInt8) : unes (escC at_ c ++ t) = (unes t).map (c :: ·) := by
 unfold escC
 split
 ·rename_i h; subst h; exact unes_ref (m := [97, 109, 112]) (b := [38]) t (by decide) (by decide)
 split
 ·rename_i h; subst h; exact unes_ref (m := [108, 116]) (b := [60]) t (by decide) (by decide)
 split
 ·rename_i h; subst h; exact unes_ref (m := [103, 116]) (b := [62]) t (by decide) (by decide)
 split
 ·rename_i h; subst h; exact unes_ref (m := [35, 49, 51]) (b := [13]) t (by decide) (by decide +kernel)
 ·rename_i h1 h2 h3 h4
  cases at_ with
  | false => exact unes_other h2 h1
  | true =>
   simp only [if_true]
   split
   ·rename_i h; subst h; exact unes_ref (m := [113, 117, 111, 116]) (b := [34]) t (by decide) (by decide)
   split
   ·rename_i h; subst h; exact unes_ref (m := [35, 57]) (b := [9]) t (by decide) (by decide +kernel)
   split
   ·rename_i h; subst h; exact unes_ref (m := [35, 49, 48]) (b := [10]) t (by decide) (by decide +kernel)
   ·exact unes_other h2 h1
/-- What was escaped is read back. -/
theorem esc_back (at_ : Bool) (l : List UInt8) : unes (plainL at_ (escT at_ l)) = some l := by
 rw [plain_esc, escT_map]
 induction l with
 | nil => rfl
 | cons c l ih => rw [List.flatMap_cons, escC_back, ih]; rfl

/-- A text whose characters below 128 are replaced by such is a text. -/
theorem repl_text {T : List (UInt8 × List UInt8)} (hT : ∀ x ∈ T, x.1.toNat < 128 ∧ ∀ b ∈ x.2, b.toNat < 128 ∧ charB b.toNat = true) {l : List UInt8} {cs : List Nat} (h : l = cs.flatMap encL) (hc : ∀ c ∈ cs, charB c = true) : ∃ ds : List Nat, replL T l = ds.flatMap encL ∧ ∀ d ∈ ds, charB d = true := by
 subst h
 induction cs with
 | nil => exact ⟨[], rfl, by simp⟩
 | cons c cs ih =>
  obtain ⟨ds, h1, h2⟩ := ih (fun d hd => hc d (by simp [hd]))
  have hcc := hc c (by simp)
  rw [List.flatMap_cons, replL_app, h1]
  by_cases hlt : c < 128
  ·have e : replL T (encL c) = replC T (UInt8.ofNat c) := by rw [encL_ascii hlt]; unfold replL; simp
   rw [e]
   have hn : (UInt8.ofNat c).toNat = c := byte_nat (by omega)
   unfold replC
   cases hp : pairOf T (UInt8.ofNat c).toNat with
   | none =>
    refine ⟨c :: ds, ?_, by intro d hd; rcases List.mem_cons.1 hd with rfl | hd; exact hcc; exact h2 d hd⟩
    rw [List.flatMap_cons, encL_ascii hlt]
   | some x =>
    have hx := hT x (List.mem_of_find?_eq_some hp)
    refine ⟨x.2.map (·.toNat) ++ ds, ?_, ?_⟩
    ·rw [List.flatMap_append]
     have : ∀ v : List UInt8, (∀ b ∈ v, b.toNat < 128) → v = (v.map (·.toNat)).flatMap encL := by
      intro v hv
      induction v with
      | nil => rfl
      | cons b v ihv =>
       rw [List.map_cons, List.flatMap_cons, ← ihv (fun d hd => hv d (by simp [hd])), encL_ascii (hv b (by simp))]
       simp
     rw [← this x.2 (fun b hb => (hx.2 b hb).1)]
    ·intro d hd
     rcases List.mem_append.1 hd with hd | hd
     ·obtain ⟨b, hb, rfl⟩ := List.mem_map.1 hd
      exact (hx.2 b hb).2
     ·exact h2 d hd
  ·have hh := encL_high (charB_lt hcc) (by omega)
   have e : ∀ v : List UInt8, (∀ b ∈ v, 128 ≤ b.toNat) → replL T v = v := by
    intro v hv
    induction v with
    | nil => rfl
    | cons b v ihv =>
     rw [replL_cons, ihv (fun d hd => hv d (by simp [hd])), replC_one (by
      intro x hx e
      have h1 := (hT x hx).1
      have h2 := hv b (by simp)
      rw [e] at h1
      omega)]
     rfl
   rw [e _ hh]
   refine ⟨c :: ds, by rw [List.flatMap_cons], by intro d hd; rcases List.mem_cons.1 hd with rfl | hd; exact hcc; exact h2 d hd⟩
theorem escA_ok : ∀ x ∈ escA, x.1.toNat < 128 ∧ ∀ b ∈ x.2, b.toNat < 128 ∧ charB b.toNat = true := by decide
theorem escB_ok : ∀ x ∈ escB, x.1.toNat < 128 ∧ ∀ b ∈ x.2, b.toNat < 128 ∧ charB b.toNat = true := by decide
theorem escT_text (at_ : Bool) {l : List UInt8} {cs : List Nat} (h : l = cs.flatMap encL) (hc : ∀ c ∈ cs, charB c = true) : ∃ ds, chars (escT at_ l) = some ds := by
 obtain ⟨ds, h1, h2⟩ := repl_text escA_ok h hc
 unfold escT
 cases at_ with
 | false => exact ⟨ds, by simp only [Bool.false_eq_true, if_false]; rw [h1]; exact chars_of _ h2⟩
 | true =>
  obtain ⟨es, h3, h4⟩ := repl_text escB_ok h1 h2
  exact ⟨es, by simp only [if_true]; rw [h3]; exact chars_of _ h4⟩
theorem escT_len (at_ : Bool) (l : List UInt8) : (escT at_ l).length ≤ 36 * l.length := by
 have h1 := replL_len (m := 5) (l := escA) (by omega) (by decide) l
 unfold escT
 cases at_ with
 | false => simp only [Bool.false_eq_true, if_false]; omega
 | true =>
  have h2 := replL_len (m := 6) (l := escB) (by omega) (by decide) (replL escA l)
  simp only [if_true]; omega
end Go.Proofs.YtanncakdlflopaaGreatDoor
