/- The brackets of what the grammar of expressions reads are balanced; so whether a bracket is an interval's is told within what is read; in plain Lean. -/
import Derived.Test.YtkackccmhghphaaGreatDoorExprToks
namespace Go.Proofs.YtkackccmhghphaaGreatDoor
open Go.RowKit
set_option linter.unusedVariables false
set_option linter.unusedSimpArgs false

def opnS (s : List UInt8) : Bool := s == [40] || s == [91] || s == [123]
def clsS (s : List UInt8) : Bool := s == [41] || s == [93] || s == [125]
def opn (t : TokD) : Bool := decide (t.kind = 6) && opnS t.text.toList
def cls (t : TokD) : Bool := decide (t.kind = 6) && clsS t.text.toList
def dots (t : TokD) : Bool := decide (t.kind = 6) && t.text.toList == [46, 46]
/-- The scan for an interval's dots: what it tells, or how deep it stands. -/
def scanL : List TokD → Int → Bool ⊕ Int
 | [], d => .inr d
 | t :: r, d => if opn t then scanL r (d + 1) else if cls t then (if d - 1 = 0 then .inl false else scanL r (d - 1)) else if dots t && decide (d = 1) then .inl true else scanL r d
def scanK (x : Bool ⊕ Int) (b : List TokD) : Bool ⊕ Int := match x with
 | .inl v => .inl v
 | .inr e => scanL b e
theorem scanL_app : ∀ (a b : List TokD) (d : Int), scanL (a ++ b) d = scanK (scanL a d) b
 | [], b, d => rfl
 | t :: r, b, d => by
  rw [List.cons_append]
  unfold scanL
  split
  ·exact scanL_app r b (d + 1)
  ·split
   ·split
    ·rfl
    ·exact scanL_app r b (d - 1)
   ·split
    ·rfl
    ·exact scanL_app r b d
theorem opnS_iff (s : List UInt8) : opnS s = true ↔ (s = [40] ∨ s = [91] ∨ s = [123]) := by simp [opnS, or_assoc]
theorem clsS_iff (s : List UInt8) : clsS s = true ↔ (s = [41] ∨ s = [93] ∨ s = [125]) := by simp [clsS, or_assoc]
theorem drop_tok {T : List TokD} {i : Nat} {t : TokD} (h : T[i]? = some t) : T.drop i = t :: T.drop (i + 1) := by
 obtain ⟨hk, he⟩ := List.getElem?_eq_some_iff.1 h
 rw [List.drop_eq_getElem_cons hk, he]
def toldB (x : Bool ⊕ Int) : Bool := match x with
 | .inl b => b
 | .inr _ => false
theorem ivlF_scan (T : List TokD) : ∀ (f i : Nat) (d : Int), T.length - i ≤ f → ivlF T f i d = toldB (scanL (T.drop i) d)
 | 0, i, d, h => by
  rw [List.drop_of_length_le (by omega)]
  rfl
 | f + 1, i, d, h => by
  cases ht : T[i]? with
  | none =>
   rw [List.drop_of_length_le (List.getElem?_eq_none_iff.1 ht)]
   unfold ivlF
   rw [ht]
   rfl
  | some t =>
   have hi := (List.getElem?_eq_some_iff.1 ht).1
   rw [drop_tok ht]
   unfold ivlF scanL
   rw [ht]
   simp only
   have e1 := ivlF_scan T f (i + 1) (d + 1) (by omega)
   have e2 := ivlF_scan T f (i + 1) (d - 1) (by omega)
   have e3 := ivlF_scan T f (i + 1) d (by omega)
   unfold opn cls dots
   by_cases h6 : t.kind = 6
   ·rw [if_pos h6, decide_eq_true h6, Bool.true_and, Bool.true_and, Bool.true_and]
    by_cases ho : opnS t.text.toList = true
    ·rw [if_pos ((opnS_iff _).1 ho), if_pos ho]; exact e1
    ·rw [if_neg (fun x => ho ((opnS_iff _).2 x)), if_neg ho]
     by_cases hc : clsS t.text.toList = true
     ·rw [if_pos ((clsS_iff _).1 hc), if_pos hc]
      split
      ·rfl
      ·exact e2
     ·rw [if_neg (fun x => hc ((clsS_iff _).2 x)), if_neg hc]
      by_cases hd : t.text.toList = [46, 46]
      ·rw [if_pos hd, hd]
       by_cases h1 : d = 1
       ·rw [if_pos h1, if_pos (by simp [h1])]; rfl
       ·rw [if_neg h1, if_neg (by simp [h1])]; exact e3
      ·rw [if_neg hd, if_neg (by simp [hd])]; exact e3
   ·rw [if_neg h6, decide_eq_false h6]
    simp only [Bool.false_and, Bool.false_eq_true, if_false]
    exact e3
theorem ivl_scan (T : List TokD) (i : Nat) : ivl T i = toldB (scanL (T.drop i) 0) := ivlF_scan T _ i 0 (Nat.le_refl _)

/-- The tokens from i to j. -/
def seg (T : List TokD) (i j : Nat) : List TokD := (T.drop i).take (j - i)
section
variable {T : List TokD} {i j k : Nat} {t : TokD}
theorem seg_app (h1 : i ≤ j) (h2 : j ≤ k) : seg T i k = seg T i j ++ seg T j k := by
 unfold seg
 rw [show k - i = (j - i) + (k - j) by omega, List.take_add, List.drop_drop, show i + (j - i) = j by omega]
theorem seg_one (h : T[i]? = some t) : seg T i (i + 1) = [t] := by
 unfold seg
 rw [drop_tok h, show i + 1 - i = 1 by omega]
 rfl
theorem seg_nil : seg T i i = [] := by
 unfold seg
 rw [Nat.sub_self, List.take_zero]
def Bal (T : List TokD) (i j : Nat) : Prop := i ≤ j ∧ ∀ d : Int, 1 ≤ d → (d = 1 ∧ scanL (seg T i j) d = .inl true) ∨ scanL (seg T i j) d = .inr d
def BalC (T : List TokD) (i j : Nat) : Prop := i ≤ j ∧ ∀ d : Int, 1 ≤ d → (d = 1 ∧ scanL (seg T i j) d = .inl true) ∨ scanL (seg T i j) d = if d - 1 = 0 then .inl false else .inr (d - 1)
def Dec (T : List TokD) (i j : Nat) : Prop := ∃ b, scanL (seg T i j) 0 = .inl b
theorem Bal.nil : Bal T i i := ⟨Nat.le_refl _, fun d _ => .inr (by rw [seg_nil]; rfl)⟩
theorem Bal.trans (h1 : Bal T i j) (h2 : Bal T j k) : Bal T i k := by
 refine ⟨Nat.le_trans h1.1 h2.1, fun d hd => ?_⟩
 rw [seg_app h1.1 h2.1, scanL_app]
 rcases h1.2 d hd with ⟨e0, e⟩ | e
 ·rw [e]; exact .inl ⟨e0, rfl⟩
 ·rw [e]; exact h2.2 d hd
theorem Bal.transC (h1 : Bal T i j) (h2 : BalC T j k) : BalC T i k := by
 refine ⟨Nat.le_trans h1.1 h2.1, fun d hd => ?_⟩
 rw [seg_app h1.1 h2.1, scanL_app]
 rcases h1.2 d hd with ⟨e0, e⟩ | e
 ·rw [e]; exact .inl ⟨e0, rfl⟩
 ·rw [e]; exact h2.2 d hd
theorem scan_one (t : TokD) (d : Int) : scanL [t] d = if opn t then .inr (d + 1) else if cls t then (if d - 1 = 0 then .inl false else .inr (d - 1)) else if dots t && decide (d = 1) then .inl true else .inr d := rfl
theorem Bal.tok (h : T[i]? = some t) (h1 : opn t = false) (h2 : cls t = false) : Bal T i (i + 1) := by
 refine ⟨Nat.le_succ _, fun d hd => ?_⟩
 rw [seg_one h, scan_one, h1, h2]
 simp only [Bool.false_eq_true, if_false]
 split
 ·rename_i h
  rw [Bool.and_eq_true, decide_eq_true_eq] at h
  exact .inl ⟨h.2, rfl⟩
 ·exact .inr rfl
theorem cls_opn (h : cls t = true) : opn t = false := by
 unfold cls at h
 unfold opn
 rw [Bool.and_eq_true] at h
 have := (clsS_iff _).1 h.2
 rcases this with e | e | e <;> rw [e] <;> simp [opnS]
theorem BalC.tok (h : T[i]? = some t) (h2 : cls t = true) : BalC T i (i + 1) := by
 refine ⟨Nat.le_succ _, fun d hd => ?_⟩
 rw [seg_one h, scan_one, cls_opn h2, h2]
 exact .inr rfl
theorem Bal.br (h : T[i]? = some t) (h1 : opn t = true) (h2 : BalC T (i + 1) j) : Bal T i j := by
 refine ⟨by have := h2.1; omega, fun d hd => ?_⟩
 rw [seg_app (Nat.le_succ i) h2.1, seg_one h, scanL_app, scan_one, h1]
 show (d = 1 ∧ scanL (seg T (i + 1) j) (d + 1) = _) ∨ scanL (seg T (i + 1) j) (d + 1) = _
 rcases h2.2 (d + 1) (by omega) with ⟨e0, e⟩ | e
 ·omega
 ·refine .inr ?_
  rw [e, if_neg (by omega), show d + 1 - 1 = d by omega]
theorem Dec.br (h : T[i]? = some t) (h1 : opn t = true) (h2 : BalC T (i + 1) j) : Dec T i j := by
 unfold Dec
 rw [seg_app (Nat.le_succ i) h2.1, seg_one h, scanL_app, scan_one, h1]
 show ∃ b, scanL (seg T (i + 1) j) (0 + 1) = _
 rcases h2.2 (0 + 1) (by omega) with ⟨e0, e⟩ | e
 ·exact ⟨_, e⟩
 ·exact ⟨false, e⟩
theorem Dec.trans (h : Dec T i j) (h1 : i ≤ j) (h2 : j ≤ k) : Dec T i k := by
 obtain ⟨b, e⟩ := h
 refine ⟨b, ?_⟩
 rw [seg_app h1 h2, scanL_app, e]
 rfl
theorem isT_tok {s : List UInt8} (h : isT T i s = true) (hs : s ≠ []) : ∃ t, T[i]? = some t ∧ 5 ≤ t.kind ∧ t.text.toList = s := by
 unfold isT sgT at h
 cases ht : T[i]? with
 | none =>
  rw [ht, beq_iff_eq, ByteArray.toList_eq] at h
  exact absurd h.symm hs
 | some t =>
  rw [ht] at h
  simp only at h
  split at h
  ·rename_i h5
   exact ⟨t, rfl, h5, beq_iff_eq.1 h⟩
  ·rw [beq_iff_eq, ByteArray.toList_eq] at h
   exact absurd h.symm hs
theorem isT_ne {s s' : List UInt8} (h : isT T i s = true) (h' : isT T i s' = true) : s = s' := by
 unfold isT at h h'
 rw [← beq_iff_eq.1 h, ← beq_iff_eq.1 h']
theorem Bal.word {s : List UInt8} (h : isT T i s = true) (hs : s ≠ [] ∧ opnS s = false ∧ clsS s = false) : Bal T i (i + 1) := by
 obtain ⟨t, ht, -, e⟩ := isT_tok h hs.1
 exact .tok ht (by unfold opn; rw [e, hs.2.1, Bool.and_false]) (by unfold cls; rw [e, hs.2.2, Bool.and_false])
theorem br_kind (hK : KndOk T) {s : List UInt8} (ht : T[i]? = some t) (h5 : 5 ≤ t.kind) (e : t.text.toList = s) (hs : wordB s = false) : t.kind = 6 := by
 obtain ⟨-, h6, hw⟩ := hK t (List.mem_of_getElem? ht)
 by_cases h : t.kind = 5
 ·have := hw h
  rw [e, hs] at this
  cases this
 ·omega
theorem word_br {s : List UInt8} (h : opnS s = true ∨ clsS s = true) : wordB s = false := by
 rw [opnS_iff, clsS_iff] at h
 rcases h with (rfl | rfl | rfl) | (rfl | rfl | rfl) <;> decide
theorem isT_opn (hK : KndOk T) {s : List UInt8} (h : isT T i s = true) (hs : opnS s = true) : ∃ t, T[i]? = some t ∧ opn t = true := by
 obtain ⟨t, ht, h5, e⟩ := isT_tok h (by intro e; rw [e] at hs; cases hs)
 exact ⟨t, ht, by unfold opn; rw [br_kind hK ht h5 e (word_br (.inl hs)), e, hs]; rfl⟩
theorem isT_cls (hK : KndOk T) {s : List UInt8} (h : isT T i s = true) (hs : clsS s = true) : ∃ t, T[i]? = some t ∧ cls t = true := by
 obtain ⟨t, ht, h5, e⟩ := isT_tok h (by intro e; rw [e] at hs; cases hs)
 exact ⟨t, ht, by unfold cls; rw [br_kind hK ht h5 e (word_br (.inr hs)), e, hs]; rfl⟩
theorem rel_nb {s : List UInt8} (h : relL s ≠ 0) : s ≠ [] ∧ opnS s = false ∧ clsS s = false := by
 unfold relL at h
 by_cases h1 : (s == [61]) = true
 ·rw [beq_iff_eq.1 h1]; decide
 by_cases h2 : (s == [33, 61]) = true
 ·rw [beq_iff_eq.1 h2]; decide
 by_cases h3 : (s == [60]) = true
 ·rw [beq_iff_eq.1 h3]; decide
 by_cases h4 : (s == [60, 61]) = true
 ·rw [beq_iff_eq.1 h4]; decide
 by_cases h5 : (s == [62]) = true
 ·rw [beq_iff_eq.1 h5]; decide
 by_cases h6 : (s == [62, 61]) = true
 ·rw [beq_iff_eq.1 h6]; decide
 rw [if_neg h1, if_neg h2, if_neg h3, if_neg h4, if_neg h5, if_neg h6] at h
 exact absurd rfl h
theorem isT_self : isT T i (sgT T i).toList = true := beq_self_eq_true _
theorem Bal.rel (h : relT T i ≠ 0) : Bal T i (i + 1) := .word isT_self (rel_nb h)
theorem Bal.knd (h : T[i]? = some t) (hk : t.kind ≠ 6) : Bal T i (i + 1) := .tok h (by unfold opn; rw [decide_eq_false hk]; rfl) (by unfold cls; rw [decide_eq_false hk]; rfl)
theorem bind_inv {r : PR} {k : List NodeD → Nat → Nat → PR} {l : List NodeD} {n j : Nat} (h : r.bind k = .ok l n j) : ∃ a m p, r = .ok a m p ∧ k a m p = .ok l n j := by
 cases r with
 | out => cases h
 | no => cases h
 | ok a m p => exact ⟨a, m, p, rfl, h⟩
end
def NT.cl : NT → Bool
 | .list _ | .listL _ _ _ | .ctx | .ctxL _ _ => true
 | _ => false
def NT.cOk : NT → Prop
 | .list e | .listL e _ _ => e = 41 ∨ e = 93
 | _ => True
/-- Rules that begin with a thing by itself. -/
def NT.st : NT → Bool
 | .expr | .or | .and | .cmp | .sum | .prod | .sgn | .sing | .test => true
 | _ => false
def isO (T : List TokD) (i : Nat) : Bool := isT T i [91] || isT T i [40]
structure GB (T : List TokD) (N : NT) (i j : Nat) : Prop where
 cl : N.cl = true → BalC T i j
 op : N.cl = false → Bal T i j
 dec : N.st = true → isO T i = true → Dec T i j
theorem isO_not {T : List TokD} {i : Nat} {s : List UInt8} (h : isT T i s = true) (hs : opnS s = false) : isO T i = false := by
 cases ho : isO T i with
 | false => rfl
 | true =>
  unfold isO at ho
  rw [Bool.or_eq_true] at ho
  rcases ho with ho | ho <;> (have := isT_ne h ho; subst this; cases hs)
theorem isO_knd {T : List TokD} {i : Nat} {t : TokD} (h : T[i]? = some t) (hk : t.kind < 5) : isO T i = false := by
 unfold isO isT sgT
 rw [h]
 simp only
 rw [if_neg (by omega), ByteArray.toList_eq]
 rfl
section
variable {T : List TokD} {i j : Nat} {N : NT}
theorem GB.bal (hb : Bal T i j) (hc : N.cl = false) (hd : N.st = true → isO T i = true → Dec T i j) : GB T N i j := ⟨fun h => (by rw [hc] at h; cases h), fun _ => hb, hd⟩
theorem GB.balN (hb : Bal T i j) (hc : N.cl = false) (hd : isO T i = false) : GB T N i j := .bal hb hc (fun _ h => by rw [hd] at h; cases h)
theorem GB.balS (hb : Bal T i j) (hc : N.cl = false) (hd : N.st = false) : GB T N i j := .bal hb hc (fun h => by rw [hd] at h; cases h)
theorem GB.balC (hb : BalC T i j) (hc : N.cl = true) (hd : N.st = false) : GB T N i j := ⟨fun _ => hb, fun h => (by rw [hc] at h; cases h), fun h => by rw [hd] at h; cases h⟩
end
set_option maxHeartbeats 1000000 in
theorem G_bal {T : List TokD} (hK : KndOk T) : ∀ (f : Nat) (N : NT) (i : Nat) (l : List NodeD) (n j : Nat), N.cOk → N ≠ .unary → G T f N i = .ok l n j → GB T N i j := by
 intro f
 induction f with
 | zero => intro N i l n j _ _ h; cases h
 | succ f ih =>
  intro N i l n j hN hu h
  have ih' : ∀ {N : NT} {i : Nat} {l : List NodeD} {n j : Nat}, G T f N i = .ok l n j → N.cOk → N ≠ .unary → GB T N i j := fun h a b => ih _ _ _ _ _ a b h
  cases N with
  | expr =>
   simp only [G] at h
   split at h
   ·rename_i h1
    obtain ⟨a, _, p, ha, h⟩ := bind_inv h
    split at h
    ·rename_i h2
     obtain ⟨b, _, q, hb, h⟩ := bind_inv h
     split at h
     ·rename_i h3
      obtain ⟨c, _, r, hc, h⟩ := bind_inv h
      cases h
      exact .balN ((((((Bal.word h1 (by decide)).trans ((ih' ha trivial (by simp)).op rfl)).trans (Bal.word h2 (by decide))).trans ((ih' hb trivial (by simp)).op rfl)).trans (Bal.word h3 (by decide))).trans ((ih' hc trivial (by simp)).op rfl)) rfl (isO_not h1 rfl)
     ·cases h
    ·cases h
   ·have := ih' h trivial (by simp)
    exact .bal (this.op rfl) rfl (fun _ => this.dec rfl)
  | or =>
   simp only [G] at h
   obtain ⟨a, _, p, ha, h⟩ := bind_inv h
   have A := ih' ha trivial (by simp)
   have B := ih' h trivial (by simp)
   exact .bal ((A.op rfl).trans (B.op rfl)) rfl (fun _ ho => (A.dec rfl ho).trans (A.op rfl).1 (B.op rfl).1)
  | and =>
   simp only [G] at h
   obtain ⟨a, _, p, ha, h⟩ := bind_inv h
   have A := ih' ha trivial (by simp)
   have B := ih' h trivial (by simp)
   exact .bal ((A.op rfl).trans (B.op rfl)) rfl (fun _ ho => (A.dec rfl ho).trans (A.op rfl).1 (B.op rfl).1)
  | sum =>
   simp only [G] at h
   obtain ⟨a, _, p, ha, h⟩ := bind_inv h
   have A := ih' ha trivial (by simp)
   have B := ih' h trivial (by simp)
   exact .bal ((A.op rfl).trans (B.op rfl)) rfl (fun _ ho => (A.dec rfl ho).trans (A.op rfl).1 (B.op rfl).1)
  | prod =>
   simp only [G] at h
   obtain ⟨a, _, p, ha, h⟩ := bind_inv h
   have A := ih' ha trivial (by simp)
   have B := ih' h trivial (by simp)
   exact .bal ((A.op rfl).trans (B.op rfl)) rfl (fun _ ho => (A.dec rfl ho).trans (A.op rfl).1 (B.op rfl).1)
  | orL a =>
   simp only [G] at h
   split at h
   ·rename_i h1
    obtain ⟨b, _, p, hb, h⟩ := bind_inv h
    exact .balS (((Bal.word h1 (by decide)).trans ((ih' hb trivial (by simp)).op rfl)).trans ((ih' h trivial (by simp)).op rfl)) rfl rfl
   ·cases h; exact .balS .nil rfl rfl
  | andL a =>
   simp only [G] at h
   split at h
   ·rename_i h1
    obtain ⟨b, _, p, hb, h⟩ := bind_inv h
    exact .balS (((Bal.word h1 (by decide)).trans ((ih' hb trivial (by simp)).op rfl)).trans ((ih' h trivial (by simp)).op rfl)) rfl rfl
   ·cases h; exact .balS .nil rfl rfl
  | sumL a =>
   simp only [G] at h
   split at h
   ·rename_i h1
    obtain ⟨b, _, p, hb, h⟩ := bind_inv h
    exact .balS (((Bal.word h1 (by decide)).trans ((ih' hb trivial (by simp)).op rfl)).trans ((ih' h trivial (by simp)).op rfl)) rfl rfl
   ·split at h
    ·rename_i h1
     obtain ⟨b, _, p, hb, h⟩ := bind_inv h
     exact .balS (((Bal.word h1 (by decide)).trans ((ih' hb trivial (by simp)).op rfl)).trans ((ih' h trivial (by simp)).op rfl)) rfl rfl
    ·cases h; exact .balS .nil rfl rfl
  | prodL a =>
   simp only [G] at h
   split at h
   ·rename_i h1
    obtain ⟨b, _, p, hb, h⟩ := bind_inv h
    exact .balS (((Bal.word h1 (by decide)).trans ((ih' hb trivial (by simp)).op rfl)).trans ((ih' h trivial (by simp)).op rfl)) rfl rfl
   ·split at h
    ·rename_i h1
     obtain ⟨b, _, p, hb, h⟩ := bind_inv h
     exact .balS (((Bal.word h1 (by decide)).trans ((ih' hb trivial (by simp)).op rfl)).trans ((ih' h trivial (by simp)).op rfl)) rfl rfl
    ·cases h; exact .balS .nil rfl rfl
  | cmp =>
   simp only [G] at h
   obtain ⟨a, _, p, ha, h⟩ := bind_inv h
   have A := ih' ha trivial (by simp)
   have AB := A.op rfl
   have key : ∀ q, Bal T p q → GB T .cmp i q := fun q hq => .bal (AB.trans hq) rfl (fun _ ho => (A.dec rfl ho).trans AB.1 hq.1)
   split at h
   ·rename_i h1
    obtain ⟨b, _, q, hb, h⟩ := bind_inv h
    cases h
    exact key _ ((Bal.rel h1).trans ((ih' hb trivial (by simp)).op rfl))
   ·split at h
    ·rename_i h1
     obtain ⟨b, _, q, hb, h⟩ := bind_inv h
     split at h
     ·rename_i h2
      obtain ⟨c, _, r, hc, h⟩ := bind_inv h
      cases h
      exact key _ ((((Bal.word h1 (by decide)).trans ((ih' hb trivial (by simp)).op rfl)).trans (Bal.word h2 (by decide))).trans ((ih' hc trivial (by simp)).op rfl))
     ·cases h
    ·split at h
     ·rename_i h1
      obtain ⟨b, _, q, hb, h⟩ := bind_inv h
      cases h
      exact key _ ((Bal.word h1 (by decide)).trans ((ih' hb trivial (by simp)).op rfl))
     ·cases h
      exact key _ .nil
  | sgn =>
   simp only [G] at h
   split at h
   ·rename_i h1
    obtain ⟨b, _, p, hb, h⟩ := bind_inv h
    cases h
    exact .balN ((Bal.word h1 (by decide)).trans ((ih' hb trivial (by simp)).op rfl)) rfl (isO_not h1 rfl)
   ·obtain ⟨a, _, p, ha, h⟩ := bind_inv h
    have A := ih' ha trivial (by simp)
    have B := ih' h trivial (by simp)
    exact .bal ((A.op rfl).trans (B.op rfl)) rfl (fun _ ho => (A.dec rfl ho).trans (A.op rfl).1 (B.op rfl).1)
  | pathL a =>
   simp only [G] at h
   split at h
   ·rename_i h1
    split at h
    ·rename_i t ht
     split at h
     ·rename_i h4
      exact .balS (((Bal.word h1 (by decide)).trans (Bal.knd ht (by omega))).trans ((ih' h trivial (by simp)).op rfl)) rfl rfl
     ·cases h
    ·cases h
   ·cases h; exact .balS .nil rfl rfl
  | sing =>
   simp only [G] at h
   split at h
   ·cases h
   ·rename_i t ht
    have one : ∀ {s : List UInt8}, isT T i s = true → (s ≠ [] ∧ opnS s = false ∧ clsS s = false) → GB T .sing i (i + 1) := fun h1 h2 => .balN (Bal.word h1 h2) rfl (isO_not h1 h2.2.1)
    have knd : t.kind < 5 → GB T .sing i (i + 1) := fun hk => .balN (Bal.knd ht (by omega)) rfl (isO_knd ht hk)
    have br : ∀ {s : List UInt8} {q : Nat}, isT T i s = true → opnS s = true → BalC T (i + 1) q → GB T .sing i q := fun h1 h2 hq => by
     obtain ⟨u, hu, ho⟩ := isT_opn hK h1 h2
     exact .bal (.br hu ho hq) rfl (fun _ _ => .br hu ho hq)
    split at h
    ·cases h; exact knd (by omega)
    ·split at h
     ·cases h; exact knd (by omega)
     ·split at h
      ·cases h; exact knd (by omega)
      ·split at h
       ·rename_i h4
        split at h
        ·rename_i h1
         obtain ⟨a, m, p, ha, h⟩ := bind_inv h
         split at h
         ·cases h
         ·cases h
          have A := (ih' ha (.inl rfl) (by simp)).cl rfl
          obtain ⟨u, hu, ho⟩ := isT_opn hK h1 rfl
          exact .balN ((Bal.knd ht (by omega)).trans (.br hu ho A)) rfl (isO_knd ht (by omega))
        ·cases h; exact knd (by omega)
       ·split at h
        ·rename_i h1; cases h; exact one h1 (by decide)
        ·split at h
         ·rename_i h1; cases h; exact one h1 (by decide)
         ·split at h
          ·rename_i h1; cases h; exact one h1 (by decide)
          ·split at h
           ·rename_i h1
            obtain ⟨a, m, p, ha, h⟩ := bind_inv h
            split at h
            ·rename_i h2
             cases h
             obtain ⟨u, hu, hc⟩ := isT_cls hK h2 rfl
             exact br h1 rfl (((ih' ha trivial (by simp)).op rfl).transC (.tok hu hc))
            ·cases h
           ·split at h
            ·rename_i h1
             obtain ⟨a, m, p, ha, h⟩ := bind_inv h
             cases h
             exact br h1 rfl ((ih' ha (.inr rfl) (by simp)).cl rfl)
            ·split at h
             ·rename_i h1
              obtain ⟨a, m, p, ha, h⟩ := bind_inv h
              cases h
              exact br h1 rfl ((ih' ha trivial (by simp)).cl rfl)
             ·cases h
  | list e =>
   simp only [G] at h
   have hb : clsS [e] = true := by rcases hN with rfl | rfl <;> rfl
   split at h
   ·rename_i h1
    cases h
    obtain ⟨u, hu, hc⟩ := isT_cls hK h1 hb
    exact .balC (.tok hu hc) rfl rfl
   ·exact .balC ((ih' h hN (by simp)).cl rfl) rfl rfl
  | listL e a m =>
   simp only [G] at h
   have hb : clsS [e] = true := by rcases hN with rfl | rfl <;> rfl
   obtain ⟨b, _, p, hb', h⟩ := bind_inv h
   have B := (ih' hb' trivial (by simp)).op rfl
   split at h
   ·rename_i h1
    cases h
    obtain ⟨u, hu, hc⟩ := isT_cls hK h1 hb
    exact .balC (B.transC (.tok hu hc)) rfl rfl
   ·split at h
    ·rename_i h1
     exact .balC (B.transC ((Bal.word h1 (by decide)).transC ((ih' h hN (by simp)).cl rfl))) rfl rfl
    ·cases h
  | ctx =>
   simp only [G] at h
   split at h
   ·rename_i h1
    cases h
    obtain ⟨u, hu, hc⟩ := isT_cls hK h1 rfl
    exact .balC (.tok hu hc) rfl rfl
   ·exact .balC ((ih' h trivial (by simp)).cl rfl) rfl rfl
  | ctxL a ns =>
   simp only [G] at h
   split at h
   ·cases h
   ·rename_i t ht
    split at h
    ·rename_i h4
     split at h
     ·cases h
     ·split at h
      ·rename_i h1
       obtain ⟨b, _, p, hb', h⟩ := bind_inv h
       have B := (((Bal.knd ht (by omega)).trans (Bal.word h1 (by decide))).trans ((ih' hb' trivial (by simp)).op rfl))
       split at h
       ·rename_i h2
        cases h
        obtain ⟨u, hu, hc⟩ := isT_cls hK h2 rfl
        exact .balC (B.transC (.tok hu hc)) rfl rfl
       ·split at h
        ·rename_i h2
         exact .balC (B.transC ((Bal.word h2 (by decide)).transC ((ih' h trivial (by simp)).cl rfl))) rfl rfl
        ·cases h
      ·cases h
    ·cases h
  | grp =>
   simp only [G] at h
   split at h
   ·rename_i h1
    obtain ⟨a, m, p, ha, h⟩ := bind_inv h
    split at h
    ·rename_i h2
     cases h
     obtain ⟨u, hu, ho⟩ := isT_opn hK h1 rfl
     obtain ⟨v, hv, hc⟩ := isT_cls hK h2 rfl
     exact .balS (.br hu ho (((ih' ha trivial (by simp)).op rfl).transC (.tok hv hc))) rfl rfl
    ·cases h
   ·cases h
  | tests =>
   simp only [G] at h
   obtain ⟨a, _, p, ha, h⟩ := bind_inv h
   exact .balS (((ih' ha trivial (by simp)).op rfl).trans ((ih' h trivial (by simp)).op rfl)) rfl rfl
  | testsL a m =>
   simp only [G] at h
   split at h
   ·rename_i h1
    obtain ⟨b, _, p, hb, h⟩ := bind_inv h
    exact .balS (((Bal.word h1 (by decide)).trans ((ih' hb trivial (by simp)).op rfl)).trans ((ih' h trivial (by simp)).op rfl)) rfl rfl
   ·cases h; exact .balS .nil rfl rfl
  | test =>
   simp only [G] at h
   split at h
   ·rename_i h1
    obtain ⟨b, _, p, hb, h⟩ := bind_inv h
    cases h
    have hr : relT T i ≠ 0 := by omega
    exact .balN ((Bal.rel hr).trans ((ih' hb trivial (by simp)).op rfl)) rfl (isO_not isT_self (rel_nb hr).2.1)
   ·split at h
    ·rename_i h1
     obtain ⟨b, _, p, hb, h⟩ := bind_inv h
     split at h
     ·rename_i h2
      obtain ⟨c, _, q, hc, h⟩ := bind_inv h
      split at h
      ·rename_i h3
       cases h
       have ho : ∃ t, T[i]? = some t ∧ opn t = true := by
        rw [Bool.and_eq_true, Bool.or_eq_true] at h1
        rcases h1.1 with h | h
        ·exact isT_opn hK h rfl
        ·exact isT_opn hK h rfl
       have hk : ∃ t, T[q]? = some t ∧ cls t = true := by
        rw [Bool.or_eq_true] at h3
        rcases h3 with h | h
        ·exact isT_cls hK h rfl
        ·exact isT_cls hK h rfl
       obtain ⟨u, hu, ho⟩ := ho
       obtain ⟨v, hv, hc'⟩ := hk
       have hin := (((((ih' hb trivial (by simp)).op rfl).trans (Bal.word h2 (by decide))).trans ((ih' hc trivial (by simp)).op rfl)).transC (.tok hv hc'))
       exact .bal (.br hu ho hin) rfl (fun _ _ => .br hu ho hin)
      ·cases h
     ·cases h
    ·obtain ⟨b, _, p, hb, h⟩ := bind_inv h
     cases h
     have B := ih' hb trivial (by simp)
     exact .bal (B.op rfl) rfl (fun _ => B.dec rfl)
  | unary => exact absurd rfl hu
end Go.Proofs.YtkackccmhghphaaGreatDoor
