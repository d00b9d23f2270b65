/- Characters of a text, over lists of bytes: the decoder's steps, what they come to, where each character begins. No program's walk. -/
import Derived.Lib.MapLaws
import Derived.Lib.ValidLaws
import Derived.Lib.RuneCount
import Derived.Laws.Cover4
import Derived.Shelf.GgClosure.StringsIndexFunc
import Derived.Test.YtamimkekjcjcjaaDoorCharsText
namespace Go.Proofs.YtamimkekjcjcjaaDoor
set_option linter.unusedVariables false
open Go.Lib
set_option maxRecDepth 100000

/-- A step of the decoder that no text has. -/
def badD (d : Nat × Nat) : Bool := (d.1 == 65533 && d.2 == 1) || !charB d.1
/-- The characters of a text, by so many steps; none: it is no text. -/
def charsF : Nat → List UInt8 → Option (List Nat)
  | 0, _ => some []
  | f + 1, l => if l = [] then some [] else if badD (decodeL l) = true then none else (charsF f (l.drop (decodeL l).2)).map ((decodeL l).1 :: ·)
def chars (l : List UInt8) : Option (List Nat) := charsF l.length l
/-- A character's bytes. -/
def encL (c : Nat) : List UInt8 := (Utf8.encode (c : Int)).data.toList

theorem charsF_more : ∀ (f g : Nat) (l : List UInt8), l.length ≤ f → l.length ≤ g → charsF f l = charsF g l
  | 0, g, l, hf, _ => by
    have : l = [] := List.eq_nil_of_length_eq_zero (by omega)
    subst this
    cases g <;> simp [charsF]
  | f + 1, 0, l, _, hg => by
    have : l = [] := List.eq_nil_of_length_eq_zero (by omega)
    subst this
    simp [charsF]
  | f + 1, g + 1, l, hf, hg => by
    unfold charsF
    by_cases h : l = []
    · simp [h]
    · have hw := decodeL_width l
      have hl : 0 < l.length := List.length_pos_iff.2 h
      rw [charsF_more f g _ (by simp; omega) (by simp; omega)]

theorem chars_nil : chars [] = some [] := rfl
theorem chars_step {l : List UInt8} (h : l ≠ []) : chars l = if badD (decodeL l) = true then none else (chars (l.drop (decodeL l).2)).map ((decodeL l).1 :: ·) := by
  have hw := decodeL_width l
  have hl : 0 < l.length := List.length_pos_iff.2 h
  unfold chars
  obtain ⟨n, hn⟩ : ∃ n, l.length = n + 1 := ⟨l.length - 1, by omega⟩
  rw [hn]
  show (if l = [] then some [] else _) = _
  rw [if_neg h, charsF_more n (l.drop (decodeL l).2).length _ (by simp; omega) (Nat.le_refl _)]

/-- A rune that was decoded from valid bytes encodes to just those. -/
theorem enc_dec {l : List UInt8} (h : l ≠ []) (hb : badD (decodeL l) = false) : encL (decodeL l).1 = l.take (decodeL l).2 ∧ (decodeL l).2 ≤ l.length := by
  unfold badD at hb
  rw [Bool.or_eq_false_iff] at hb
  have hv : ¬ ((decodeL l).1 = 65533 ∧ (decodeL l).2 = 1) := by
    intro ⟨h1, h2⟩
    have := hb.1
    rw [h1, h2] at this
    cases this
  have hl : 0 < l.length := List.length_pos_iff.2 h
  refine ⟨?_, decodeL_le l h⟩
  clear hb
  rw [decodeL_N] at hv ⊢
  have k0 := (l.getD 0 0).toNat_lt
  have k1 := (l.getD 1 0).toNat_lt
  have k2 := (l.getD 2 0).toNat_lt
  have k3 := (l.getD 3 0).toNat_lt
  have bt : ∀ (z : Nat) (x : UInt8), z = x.toNat → UInt8.ofNat z = x := fun z x h => by subst h; simp
  unfold encL Utf8.encode
  rcases decodeN_shape l.length (l.getD 0 0).toNat (l.getD 1 0).toNat (l.getD 2 0).toNat (l.getD 3 0).toNat with ⟨c, e⟩ | ⟨c1, c2, c3, cv, e⟩ | ⟨c1, c2, c3, c4, cv, cs, e⟩ | ⟨c1, c2, c3, c4, c5, cv, cw, e⟩ | e
  · rw [e]
    have hval : Utf8.valid (((l.getD 0 0).toNat : Nat) : Int) = true := by rw [validRune_eq]; exact decide_eq_true (by omega)
    simp only [hval, if_true, Int.toNat_natCast]
    rw [if_pos (by omega), takeA l hl]
    simp
  · rw [e]
    have hval : Utf8.valid (((l.getD 0 0).toNat % 32 * 64 + (l.getD 1 0).toNat % 64 : Nat) : Int) = true := by rw [validRune_eq]; exact decide_eq_true (by omega)
    simp only [hval, if_true, Int.toNat_natCast]
    rw [if_neg (by omega), if_pos (by omega), takeB l (by omega)]
    simp only
    rw [bt _ (l.getD 0 0) (by omega), bt _ (l.getD 1 0) (by omega)]
  · rw [e]
    have hval : Utf8.valid (((l.getD 0 0).toNat % 16 * 4096 + (l.getD 1 0).toNat % 64 * 64 + (l.getD 2 0).toNat % 64 : Nat) : Int) = true := by rw [validRune_eq]; exact decide_eq_true (by omega)
    simp only [hval, if_true, Int.toNat_natCast]
    rw [if_neg (by omega), if_neg (by omega), if_pos (by omega), takeC l (by omega)]
    simp only
    rw [bt _ (l.getD 0 0) (by omega), bt _ (l.getD 1 0) (by omega), bt _ (l.getD 2 0) (by omega)]
  · rw [e]
    have hval : Utf8.valid (((l.getD 0 0).toNat % 8 * 262144 + (l.getD 1 0).toNat % 64 * 4096 + (l.getD 2 0).toNat % 64 * 64 + (l.getD 3 0).toNat % 64 : Nat) : Int) = true := by rw [validRune_eq]; exact decide_eq_true (by omega)
    simp only [hval, if_true, Int.toNat_natCast]
    rw [if_neg (by omega), if_neg (by omega), if_neg (by omega), takeD l (by omega)]
    simp only
    rw [bt _ (l.getD 0 0) (by omega), bt _ (l.getD 1 0) (by omega), bt _ (l.getD 2 0) (by omega), bt _ (l.getD 3 0) (by omega)]
  · exact absurd (by rw [e]; exact ⟨rfl, rfl⟩) hv

/-- A text is its characters' bytes. -/
theorem chars_bytes : ∀ (n : Nat) (l : List UInt8) (cs : List Nat), l.length ≤ n → chars l = some cs → l = cs.flatMap encL ∧ ∀ c ∈ cs, charB c = true
  | n, l, cs, hn, h => by
    by_cases hne : l = []
    · subst hne
      rw [chars_nil] at h
      cases h
      exact ⟨rfl, fun _ h => by cases h⟩
    · rw [chars_step hne] at h
      have hw := decodeL_width l
      have hl : 0 < l.length := List.length_pos_iff.2 hne
      cases n with
      | zero => omega
      | succ n =>
        cases hb : badD (decodeL l) with
        | true => rw [hb] at h; simp at h
        | false =>
          rw [hb] at h
          cases hc : chars (l.drop (decodeL l).2) with
          | none => rw [hc] at h; simp at h
          | some r =>
            rw [hc] at h
            simp only [Bool.false_eq_true, if_false, Option.map_some, Option.some.injEq] at h
            subst h
            obtain ⟨h1, h2⟩ := chars_bytes n _ r (by simp; omega) hc
            obtain ⟨h3, h4⟩ := enc_dec hne hb
            constructor
            · rw [List.flatMap_cons, h3, ← h1, List.take_append_drop]
            · intro c hcm
              rcases List.mem_cons.1 hcm with rfl | hcm
              · unfold badD at hb
                rw [Bool.or_eq_false_iff] at hb
                simpa using hb.2
              · exact h2 c hcm

theorem charB_lt {c : Nat} (h : charB c = true) : (c < 55296 ∨ 57344 ≤ c) ∧ c ≤ 1114111 := by
  have := of_decide_eq_true h
  omega

theorem encL_cases (c : Nat) (h : (c < 55296 ∨ 57344 ≤ c) ∧ c ≤ 1114111) :
    (c < 128 ∧ encL c = [UInt8.ofNat c]) ∨ (128 ≤ c ∧ c < 2048 ∧ encL c = [UInt8.ofNat (192 + c / 64), UInt8.ofNat (128 + c % 64)]) ∨
    (2048 ≤ c ∧ c < 65536 ∧ encL c = [UInt8.ofNat (224 + c / 4096), UInt8.ofNat (128 + c / 64 % 64), UInt8.ofNat (128 + c % 64)]) ∨
    (65536 ≤ c ∧ encL c = [UInt8.ofNat (240 + c / 262144), UInt8.ofNat (128 + c / 4096 % 64), UInt8.ofNat (128 + c / 64 % 64), UInt8.ofNat (128 + c % 64)]) := by
  have hval : Utf8.valid (c : Int) = true := by rw [validRune_eq]; exact decide_eq_true (by omega)
  unfold encL Utf8.encode
  simp only [hval, if_true, Int.toNat_natCast]
  by_cases h1 : c < 128
  · left; exact ⟨h1, by rw [if_pos h1]⟩
  · by_cases h2 : c < 2048
    · right; left; exact ⟨by omega, h2, by rw [if_neg h1, if_pos h2]⟩
    · by_cases h3 : c < 65536
      · right; right; left; exact ⟨by omega, h3, by rw [if_neg h1, if_neg h2, if_pos h3]⟩
      · right; right; right; exact ⟨by omega, by rw [if_neg h1, if_neg h2, if_neg h3]⟩

theorem byte_nat {n : Nat} (h : n < 256) : (UInt8.ofNat n).toNat = n := by
  rw [UInt8.toNat_ofNat']
  exact Nat.mod_eq_of_lt h

/-- What a character's bytes are decoded to. -/
theorem dec_enc {c : Nat} (h : (c < 55296 ∨ 57344 ≤ c) ∧ c ≤ 1114111) (r : List UInt8) : decodeL (encL c ++ r) = (c, (encL c).length) := by
  rw [decodeL_N]
  rcases encL_cases c h with ⟨h1, e⟩ | ⟨h1, h2, e⟩ | ⟨h1, h2, e⟩ | ⟨h1, e⟩
  · rw [e]
    simp only [List.cons_append, List.nil_append, List.getD_cons_zero, List.length_cons]
    rw [byte_nat (by omega)]
    unfold decodeN
    rw [if_pos h1]
    rfl
  · rw [e]
    simp only [List.cons_append, List.nil_append, List.getD_cons_zero, List.getD_cons_succ, List.length_cons, List.length_nil]
    rw [byte_nat (by omega), byte_nat (by omega)]
    unfold decodeN
    rw [if_neg (by omega), if_pos (by omega), if_pos (by omega)]
    refine Prod.ext ?_ rfl
    show _ = c
    omega
  · rw [e]
    simp only [List.cons_append, List.nil_append, List.getD_cons_zero, List.getD_cons_succ, List.length_cons, List.length_nil]
    rw [byte_nat (by omega), byte_nat (by omega), byte_nat (by omega)]
    unfold decodeN
    rw [if_neg (by omega), if_neg (by omega), if_pos (by omega), if_pos (by omega)]
    refine Prod.ext ?_ rfl
    show _ = c
    omega
  · rw [e]
    simp only [List.cons_append, List.nil_append, List.getD_cons_zero, List.getD_cons_succ, List.length_cons, List.length_nil]
    rw [byte_nat (by omega), byte_nat (by omega), byte_nat (by omega), byte_nat (by omega)]
    unfold decodeN
    rw [if_neg (by omega), if_neg (by omega), if_neg (by omega), if_pos (by omega), if_pos (by omega)]
    refine Prod.ext ?_ rfl
    show _ = c
    omega

theorem encL_len {c : Nat} (h : (c < 55296 ∨ 57344 ≤ c) ∧ c ≤ 1114111) : 1 ≤ (encL c).length ∧ (encL c).length ≤ 4 := by
  rcases encL_cases c h with ⟨h1, e⟩ | ⟨h1, h2, e⟩ | ⟨h1, h2, e⟩ | ⟨h1, e⟩ <;> rw [e] <;> simp

theorem enc_good {c : Nat} (h : charB c = true) (r : List UInt8) : badD (decodeL (encL c ++ r)) = false := by
  rw [dec_enc (charB_lt h)]
  unfold badD
  simp only [h, Bool.not_true, Bool.or_false]
  by_cases hc : c = 65533
  · subst hc; rfl
  · simp [hc]

/-- What is made of characters is a text, with just these. -/
theorem chars_of : ∀ (cs : List Nat), (∀ c ∈ cs, charB c = true) → chars (cs.flatMap encL) = some cs
  | [], _ => rfl
  | c :: cs, h => by
    have hc := h c (by simp)
    have hl := encL_len (charB_lt hc)
    have hne : (c :: cs).flatMap encL ≠ [] := by
      rw [List.flatMap_cons]
      intro e
      have := congrArg List.length e
      rw [List.length_append, List.length_nil] at this
      omega
    rw [chars_step hne, List.flatMap_cons, enc_good hc]
    rw [dec_enc (charB_lt hc)]
    simp only [Bool.false_eq_true, if_false]
    rw [List.drop_left' rfl, chars_of cs (fun c hc => h c (by simp [hc]))]
    rfl

theorem text_from (s : ByteArray) : ∀ (f pos : Nat), s.size - pos ≤ f → (charsF f (s.data.toList.drop pos)).isSome = (validGoD f (s.data.toList.drop pos) && decide (idxFuncFrom (fun x => !charB x) true s f pos < 0))
  | 0, pos, h => rfl
  | f + 1, pos, h => by
    have hw := decodeL_width (s.data.toList.drop pos)
    unfold charsF validGoD idxFuncFrom
    by_cases hp : pos < s.size
    · have hne : s.data.toList.drop pos ≠ [] := by
        intro e
        have := congrArg List.length e
        rw [List.length_drop, List.length_nil, Array.length_toList] at this
        have : s.data.size = s.size := rfl
        omega
      rw [if_neg hne, if_neg hne, if_pos hp, ← decodeL_drop]
      cases hb : badD (decodeL (s.data.toList.drop pos)) with
      | true =>
        unfold badD at hb
        rw [Bool.or_eq_true] at hb
        simp only [if_true, Option.isSome_none]
        rcases hb with hb | hb
        · rw [Bool.and_eq_true, beq_iff_eq, beq_iff_eq] at hb
          rw [if_pos hb]
          rfl
        · rw [if_pos hb]
          have : decide ((pos : Int) < 0) = false := decide_eq_false (by omega)
          rw [this, Bool.and_false]
      | false =>
        have hb' := hb
        unfold badD at hb
        rw [Bool.or_eq_false_iff] at hb
        have hv : ¬ ((decodeL (s.data.toList.drop pos)).1 = 65533 ∧ (decodeL (s.data.toList.drop pos)).2 = 1) := by
          intro ⟨h1, h2⟩
          have := hb.1
          rw [h1, h2] at this
          cases this
        rw [if_neg hv, hb.2]
        simp only [Bool.false_eq_true, if_false, Option.isSome_map]
        rw [List.drop_drop]
        exact text_from s f _ (by omega)
    · have he : s.data.toList.drop pos = [] := List.drop_of_length_le (by rw [Array.length_toList]; have : s.data.size = s.size := rfl; omega)
      rw [he, if_neg hp]
      rfl

/-- A text: what has characters. -/
theorem textB_chars (s : ByteArray) : textB s = (chars s.data.toList).isSome := by
  have := text_from s s.size 0 (by omega)
  rw [List.drop_zero] at this
  unfold textB chars validD idxFunc
  have hsz : s.data.toList.length = s.size := by rw [Array.length_toList]; rfl
  rw [hsz, this]

theorem runes_from (s : ByteArray) : ∀ (f pos : Nat) (acc : Array Value) (cs : List Nat), s.size - pos ≤ f → charsF f (s.data.toList.drop pos) = some cs →
    Conv.runesFrom s f pos acc = acc ++ (cs.map fun c : Nat => Value.int .i32 (c : Int)).toArray ∧ runeCountFrom s f pos = cs.length
  | 0, pos, acc, cs, h, hc => by
    cases hc
    simp [Conv.runesFrom, runeCountFrom]
  | f + 1, pos, acc, cs, h, hc => by
    have hw := decodeL_width (s.data.toList.drop pos)
    unfold charsF at hc
    unfold Conv.runesFrom runeCountFrom
    by_cases hp : pos < s.size
    · have hne : s.data.toList.drop pos ≠ [] := by
        intro e
        have := congrArg List.length e
        rw [List.length_drop, List.length_nil, Array.length_toList] at this
        have : s.data.size = s.size := rfl
        omega
      rw [if_neg hne] at hc
      rw [if_pos hp, if_pos hp]
      cases hb : badD (decodeL (s.data.toList.drop pos)) with
      | true => rw [hb] at hc; simp at hc
      | false =>
        rw [hb] at hc
        simp only [Bool.false_eq_true, if_false, Option.map_eq_some_iff] at hc
        obtain ⟨r, hr, rfl⟩ := hc
        rw [List.drop_drop] at hr
        rw [decodeL_drop] at *
        have ih := runes_from s f (pos + (Utf8.decode s pos).2) (acc.push (.int .i32 ((Utf8.decode s pos).1 : Int))) r (by omega) hr
        constructor
        · show Conv.runesFrom s f _ (acc.push (.int .i32 (Int.ofNat (Utf8.decode s pos).1))) = _
          refine ih.1.trans ?_
          apply Array.ext'
          simp
        · rw [ih.2, List.length_cons]
          omega
    · have he : s.data.toList.drop pos = [] := List.drop_of_length_le (by rw [Array.length_toList]; have : s.data.size = s.size := rfl; omega)
      rw [he] at hc
      simp only [if_true, Option.some.injEq] at hc
      subst hc
      rw [if_neg hp, if_neg hp]
      simp

theorem runes_all {s : ByteArray} {cs : List Nat} (h : chars s.data.toList = some cs) : Conv.runesFrom s s.size 0 #[] = (cs.map fun c : Nat => Value.int .i32 (c : Int)).toArray ∧ runeCount s = cs.length := by
  unfold chars at h
  have hsz : s.data.toList.length = s.size := by rw [Array.length_toList]; rfl
  rw [hsz] at h
  have := runes_from s s.size 0 #[] cs (by omega) (by rw [List.drop_zero]; exact h)
  unfold runeCount
  simpa using this

theorem runesBytes_of : ∀ (cs : List Nat) (acc : ByteArray), ((cs.map fun c : Nat => (c : Int)).foldl (fun r n => r ++ Utf8.encode n) acc).data.toList = acc.data.toList ++ cs.flatMap encL
  | [], acc => by simp
  | c :: cs, acc => by
    rw [List.map_cons, List.foldl_cons, runesBytes_of cs, List.flatMap_cons, ByteArray.data_append, Array.toList_append, List.append_assoc]
    rfl
/-- A row of characters as a string. -/
theorem runesBytes_enc (cs : List Nat) : runesBytes (cs.map fun c : Nat => (c : Int)) = ⟨(cs.flatMap encL).toArray⟩ := by
  have h := runesBytes_of cs ByteArray.empty
  have e : (ByteArray.empty).data.toList = [] := rfl
  rw [e, List.nil_append] at h
  unfold runesBytes
  generalize List.foldl _ _ _ = b at h ⊢
  rw [← h]

/-- Where the k-th character begins. -/
def offC (cs : List Nat) (k : Nat) : Nat := ((cs.take k).flatMap encL).length
theorem offC_zero (cs : List Nat) : offC cs 0 = 0 := rfl
theorem offC_all (cs : List Nat) {k : Nat} (h : cs.length ≤ k) : offC cs k = (cs.flatMap encL).length := by
  unfold offC
  rw [List.take_of_length_le h]
theorem offC_le (cs : List Nat) (k : Nat) : offC cs k ≤ (cs.flatMap encL).length := by
  unfold offC
  conv => rhs; rw [← List.take_append_drop k cs]
  rw [List.flatMap_append, List.length_append]
  omega
theorem offC_mono (cs : List Nat) {i k : Nat} (h : i ≤ k) : offC cs i ≤ offC cs k := by
  unfold offC
  have : cs.take i = (cs.take k).take i := by rw [List.take_take, Nat.min_eq_left h]
  rw [this]
  conv => rhs; rw [← List.take_append_drop i (cs.take k)]
  rw [List.flatMap_append, List.length_append]
  omega
/-- A part, by places. -/
theorem offC_part (cs : List Nat) {i k : Nat} (h : i ≤ k) : ((cs.flatMap encL).drop (offC cs i)).take (offC cs k - offC cs i) = ((cs.drop i).take (k - i)).flatMap encL := by
  have e1 : cs.flatMap encL = (cs.take i).flatMap encL ++ (((cs.drop i).take (k - i)).flatMap encL ++ (cs.drop k).flatMap encL) := by
    rw [← List.flatMap_append, ← List.flatMap_append]
    congr 1
    have : cs.drop k = (cs.drop i).drop (k - i) := by rw [List.drop_drop]; congr 1; omega
    rw [this, List.take_append_drop, List.take_append_drop]
  have e2 : cs.take k = cs.take i ++ (cs.drop i).take (k - i) := by
    have : k = i + (k - i) := by omega
    conv => lhs; rw [this]
    rw [List.take_add]
  have e3 : offC cs k = offC cs i + (((cs.drop i).take (k - i)).flatMap encL).length := by
    unfold offC
    rw [e2, List.flatMap_append, List.length_append]
  rw [e3, e1]
  rw [List.drop_left' (by rfl), Nat.add_sub_cancel_left, List.take_left' rfl]
end Go.Proofs.YtamimkekjcjcjaaDoor
