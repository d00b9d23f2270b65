/- The tokens of a text are in bounds; what the reader of expressions answers, in plain Lean. -/
import Derived.Test.YtkackccmhghphaaGreatDoorLexChain
import Derived.Test.YtkackccmhghphaaGreatDoorGramA
import Derived.Test.YtkackccmhghphaaGreatDoorPlainA
namespace Go.Proofs.YtkackccmhghphaaGreatDoor
open Go.RowKit
set_option linter.unusedVariables false

theorem lexG_all (s : ByteArray) (P : TokD → Prop) (hP : ∀ i c, s.data.toList[i]? = some c → (oneF s i).2.2 ≠ 5 → P (oneF s i).1) : ∀ (f i : Nat) (acc : List TokD) (o r : Bool) (ts : List TokD) (o' r' : Bool), (∀ t ∈ acc, P t) → lexG s f i acc o r = some (ts, o', r') → ∀ t ∈ ts, P t
 | 0, i, acc, o, r, ts, o', r', ha, h => by
  unfold lexG at h
  cases h
  exact ha
 | f + 1, i, acc, o, r, ts, o', r', ha, h => by
  unfold lexG at h
  cases hc : s.data.toList[i]? with
  | none =>
   rw [hc] at h
   cases h
   exact ha
  | some c =>
   rw [hc] at h
   simp only at h
   split at h
   ·exact lexG_all s P hP f (i + 1) acc o r ts o' r' ha h
   ·split at h
    ·cases h
    ·rename_i h5
     refine lexG_all s P hP f _ _ _ _ ts o' r' (fun t ht => ?_) h
     rcases List.mem_append.1 ht with ht | ht
     ·exact ha t ht
     ·rw [List.mem_singleton.1 ht]; exact hP i c hc h5
theorem lexF_all (s : ByteArray) (P : TokD → Prop) (hP : s.size ≤ 1000 → ∀ i c, s.data.toList[i]? = some c → (oneF s i).2.2 ≠ 5 → P (oneF s i).1) : ∀ t ∈ (lexF s).1, P t := by
 unfold lexF
 split
 ·intro t ht; cases ht
 ·rename_i h1000
  split
  ·intro t ht; cases ht
  ·cases hg : lexG s (s.size + 1) 0 [] false false with
   | none => intro t ht; cases ht
   | some x =>
    obtain ⟨ts, o, r⟩ := x
    simp only
    split
    ·intro t ht; cases ht
    ·split
     ·intro t ht; cases ht
     ·exact lexG_all s P (hP (by omega)) _ _ _ _ _ _ _ _ (fun t ht => by cases ht) hg
theorem dval_ltE : ∀ (l : List UInt8) (a k : Nat), (∀ b ∈ l, dg b = true) → a < 10 ^ k → l.foldl (fun a b => a * 10 + (b.toNat - 48)) a < 10 ^ (k + l.length)
 | [], a, k, _, h => h
 | b :: l, a, k, hl, h => by
  have hb := (Cal.digB_iff b).1 (hl b (List.mem_cons_self ..))
  have := dval_ltE l (a * 10 + (b.toNat - 48)) (k + 1) (fun x hx => hl x (List.mem_cons_of_mem _ hx)) (by rw [Nat.pow_succ]; omega)
  rw [List.foldl_cons, List.length_cons, show k + (l.length + 1) = k + 1 + l.length by omega]
  exact this
theorem trimL_subE (l : List UInt8) (c b : UInt8) (h : b ∈ Lib.trimLeftB l c) : b ∈ l := by
 unfold Lib.trimLeftB at h
 exact (List.dropWhile_suffix _).subset h
theorem trimR_subE (l : List UInt8) (c b : UInt8) (h : b ∈ Lib.trimRightB l c) : b ∈ l := by
 unfold Lib.trimRightB at h
 have h2 : b ∈ List.dropWhile (fun x => x == c) l.reverse := by simpa using h
 simpa using (List.dropWhile_suffix _).subset h2
theorem decT_lt {ds fs : List UInt8} (hd : ∀ b ∈ ds, dg b = true) (hf : ∀ b ∈ fs, dg b = true) : (decT ds fs).1.1 < 340282366920938463463374607431768211456 := by
 unfold decT
 split
 ·show (0 : Nat) < _; decide
 ·split
  ·show (0 : Nat) < _; decide
  ·split
   ·show (0 : Nat) < _; decide
   ·rename_i h3
    have h4 : (Lib.trimLeftB (ds ++ Lib.trimRightB fs 48) 48).length ≤ 34 := by have := not_or.1 h3; omega
    have h5 := dval_ltE (Lib.trimLeftB (ds ++ Lib.trimRightB fs 48) 48) 0 0 (fun b hb => by
     rcases List.mem_append.1 (trimL_subE _ _ b hb) with h | h
     ·exact hd b h
     ·exact hf b (trimR_subE _ _ b h)) (by decide)
    rw [Nat.zero_add] at h5
    exact Nat.lt_of_lt_of_le h5 (Nat.le_trans (Nat.pow_le_pow_right (by decide) h4) (by decide))
theorem unqL_len : ∀ (f : Nat) (l r : List UInt8), unqL f l = some r → r.length ≤ l.length
 | 0, l, r, h => by
  unfold unqL at h
  revert h
  cases l <;> intro h <;> simp_all
 | f + 1, [], r, h => by
  unfold unqL at h
  simp_all
 | f + 1, c :: l, r, h => by
  unfold unqL at h
  simp only at h
  split at h
  ·cases h
  ·split at h
   ·cases l with
    | nil => cases h
    | cons d l' =>
     simp only at h
     cases hd : escD d with
     | none => rw [hd] at h; cases h
     | some b =>
      rw [hd] at h
      simp only [Option.map_eq_some_iff] at h
      obtain ⟨r', h1, rfl⟩ := h
      have := unqL_len f l' r' h1
      simp only [List.length_cons]
      omega
   ·simp only [Option.map_eq_some_iff] at h
    obtain ⟨r', h1, rfl⟩ := h
    have := unqL_len f l r' h1
    simp only [List.length_cons]
    omega
theorem unqR_len (s : ByteArray) : (unqR s).1.size ≤ s.size := by
 unfold unqR
 split
 ·cases hq : qform s.data.toList with
  | none => exact Nat.zero_le _
  | some l =>
   cases hu : unq l with
   | none =>
    show (match unq l with | some r => ((⟨r.toArray⟩ : ByteArray), (0 : Int)) | none => (⟨#[]⟩, 5)).1.size ≤ s.size
    rw [hu]
    exact Nat.zero_le _
   | some r =>
    show (match unq l with | some r => ((⟨r.toArray⟩ : ByteArray), (0 : Int)) | none => (⟨#[]⟩, 5)).1.size ≤ s.size
    rw [hu]
    have h1 := unqL_len _ _ _ hu
    unfold qform at hq
    split at hq
    ·cases hq
     have h2 : ((s.data.toList.drop 1).take (s.data.toList.length - 2)).length ≤ s.data.toList.length := by rw [List.length_take, List.length_drop]; omega
     have h3 : s.data.toList.length = s.size := by simp
     show r.length ≤ s.size
     omega
    ·cases hq
 ·exact Nat.zero_le _
theorem textF_len {s : ByteArray} {i k : Nat} {t : ByteArray} (h : textF s i = some (t, k)) : t.size ≤ s.size := by
 unfold textF at h
 split at h
 ·split at h
  ·cases h
  ·rename_i k' hk
   split at h
   ·cases h
    exact Nat.le_trans (unqR_len _) (by rw [ByteArray.size_extract]; omega)
   ·cases h
 ·cases h
theorem oneF_tk {s : ByteArray} (hs : s.size ≤ 1000) {i : Nat} {c : UInt8} (hc : s.data.toList[i]? = some c) : TkOk (oneF s i).1 := by
 unfold oneF
 rw [hc]
 simp only
 have z : ∀ (k : Int) (t : ByteArray) (d : Int), t.size ≤ 1000 → TkOk ⟨k, t, 0, 0, d, i⟩ := fun k t d h => ⟨by show (0 : Nat) < _; decide, h⟩
 split
 ·rename_i hd
  obtain ⟨-, -, -, h4, h5, -⟩ := num_parts hc hd
  exact ⟨decT_lt h4 h5, by show (0 : Nat) ≤ _; decide⟩
 ·split
  ·cases hx : textF s i with
   | none => exact z _ _ _ (by show (0 : Nat) ≤ _; decide)
   | some x => exact z _ _ _ (Nat.le_trans (textF_len hx) hs)
  ·split
   ·cases hx : textF s (i + 1) with
    | none => exact z _ _ _ (by show (0 : Nat) ≤ _; decide)
    | some x => exact z _ _ _ (by show (0 : Nat) ≤ _; decide)
   ·split
    ·split
     ·exact z _ _ _ (by show (0 : Nat) ≤ _; decide)
     ·exact z _ _ _ (by rw [ByteArray.size_extract]; omega)
    ·split
     ·exact z _ _ _ (by show (0 : Nat) ≤ _; decide)
     ·exact z _ _ _ (by rw [ByteArray.size_extract]; omega)
/-- The tokens of a text are in bounds. -/
theorem lexF_tks (s : ByteArray) : TksOk (lexF s).1 := ⟨lexF_small s, lexF_all s TkOk (fun hs i c hc _ => oneF_tk hs hc)⟩
/-- The kinds of tokens, as far as the readers part on them. -/
def KndOk (T : List TokD) : Prop := ∀ t ∈ T, 1 ≤ t.kind ∧ t.kind ≤ 6 ∧ (t.kind = 5 → wordB t.text.toList = true)
theorem lexF_knd (s : ByteArray) : KndOk (lexF s).1 := lexF_all s (fun t => 1 ≤ t.kind ∧ t.kind ≤ 6 ∧ (t.kind = 5 → wordB t.text.toList = true)) (fun hs i c hc h5 => by
 obtain ⟨-, -, h1, h2, -, h3⟩ := oneF_ok hc h5
 exact ⟨h1, h2, h3⟩)

def topN (tests : Bool) : NT := if tests then .unary else .expr
def topG (T : List TokD) (tests : Bool) : PR := G T (T.length * 16 + 12) (topN tests) 0
theorem topG_out (T : List TokD) (tests : Bool) : topG T tests ≠ .out := by
 intro h
 have h1 := G_good (T := T) (T.length * 16 + 12) (topN tests) 0 (Nat.zero_le _) (fun _ => rfl)
 unfold topG at h
 rw [h] at h1
 refine h1 ?_
 unfold need topN
 cases tests <;> simp [NT.rank] <;> omega
/-- What a text's tokens are read as. -/
def topF (T : List TokD) (tests : Bool) : List NodeD × Int := match topG T tests with
 | .ok l _ j => if j = T.length then if checkC l tests = 0 then (l, 0) else ([], checkC l tests) else ([], 5)
 | _ => ([], 5)
def parseF (s : ByteArray) (tests : Bool) : List NodeD × Int := if (lexF s).2 = 0 then topF (lexF s).1 tests else ([], (lexF s).2)
theorem NodeOk.wf {x : NodeD} (h : NodeOk x) : x.wf := ⟨Nat.lt_of_lt_of_le h.hi (by decide), Nat.lt_of_lt_of_le h.lo (by decide), Nat.le_trans h.text (by decide), by have := h.kids; omega⟩
theorem topG_ok {T : List TokD} (hT : TksOk T) {tests : Bool} {l : List NodeD} {n j : Nat} (h : topG T tests = .ok l n j) : j ≤ T.length ∧ l.length ≤ T.length + 2 ∧ NodesOk l := by
 have h1 := G_good (T := T) (T.length * 16 + 12) (topN tests) 0 (Nat.zero_le _) (fun _ => rfl)
 unfold topG at h
 rw [h] at h1
 have h2 : GS T (topN tests) 0 l n j := h1
 have h3 := h2.len
 have h4 := h2.to_
 refine ⟨h4, ?_, h2.ok hT ?_ ?_⟩
 ·unfold topN at h3
  cases tests <;> simp [NT.acc, NT.slk] at h3 <;> omega
 ·unfold topN; cases tests <;> exact Nat.le_refl _
 ·unfold topN; cases tests <;> exact NodesOk.nil
theorem parseF_ok (s : ByteArray) (tests : Bool) : (parseF s tests).1.length ≤ 1002 ∧ NodesOk (parseF s tests).1 := by
 have hT := lexF_tks s
 have h0 : ([] : List NodeD).length ≤ 1002 ∧ NodesOk [] := ⟨by decide, .nil⟩
 unfold parseF
 split
 ·unfold topF
  cases h : topG (lexF s).1 tests with
  | out => exact h0
  | no => exact h0
  | ok l n j =>
   have := topG_ok hT h
   simp only
   split
   ·split
    ·exact ⟨by have := hT.len; show l.length ≤ 1002; omega, this.2.2⟩
    ·exact h0
   ·exact h0
 ·exact h0
end Go.Proofs.YtkackccmhghphaaGreatDoor
