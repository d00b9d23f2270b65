/- Quotes over lists of bytes: what Quote lays, what Unquote reads, and that it reads what was laid. No program in sight. The walks over Quote, of the package and of the reference. -/
import Derived.Test.YtanncakdlflopaaGreatDoorReplA
import Derived.Test.YtanncakdlflopaaGreatDoorCharsA
import Derived.Test.YtanncakdlflopaaGreatDoorSepA
import Derived.Test.YtanncakdlflopaaGreatDoorReplLong
namespace Go.Proofs.YtanncakdlflopaaGreatDoor
set_option linter.unusedVariables false
set_option maxRecDepth 100000

/-- The pairs of Quote. -/
def quoL : List (UInt8 × List UInt8) := [(34, [92, 34]), (92, [92, 92]), (10, [92, 110]), (13, [92, 114]), (9, [92, 116])]
/-- A text in quotes. -/
def quotedL (l : List UInt8) : List UInt8 := 34 :: (replL quoL l ++ [34])
/-- What a byte behind a backslash means. -/
def escD (c : UInt8) : Option UInt8 := if c = 34 ∨ c = 92 then some c else if c = 110 then some 10 else if c = 114 then some 13 else if c = 116 then some 9 else none
/-- Does a byte end the text between quotes? -/
def stopB (c : UInt8) : Bool := c == 34 || c == 9 || c == 10 || c == 13
/-- The text that stands between quotes; none: it isn't of the form. -/
def unqL : Nat → List UInt8 → Option (List UInt8)
  | 0, _ => some []
  | f + 1, l => match l with
    | [] => some []
    | c :: r => if stopB c then none else if c = 92 then (match r with
        | [] => none
        | d :: r' => match escD d with
          | none => none
          | some b => (unqL f r').map (b :: ·))
      else (unqL f r).map (c :: ·)
def unq (l : List UInt8) : Option (List UInt8) := unqL l.length l
theorem unqL_more : ∀ (f g : Nat) (l : List UInt8), l.length ≤ f → l.length ≤ g → unqL f l = unqL g l
  | 0, 0, _, _, _ => rfl
  | 0, g + 1, l, hf, _ => by
    have : l = [] := List.eq_nil_of_length_eq_zero (by omega)
    subst this; rfl
  | f + 1, 0, l, _, hg => by
    have : l = [] := List.eq_nil_of_length_eq_zero (by omega)
    subst this; rfl
  | f + 1, g + 1, [], _, _ => rfl
  | f + 1, g + 1, c :: r, hf, hg => by
    have h1 : r.length ≤ f := by simpa using hf
    have h2 : r.length ≤ g := by simpa using hg
    unfold unqL
    simp only
    rw [unqL_more f g r h1 h2]
    cases r with
    | nil => rfl
    | cons d r' =>
      have h3 : r'.length ≤ f := by simp at h1; omega
      have h4 : r'.length ≤ g := by simp at h2; omega
      simp only
      rw [unqL_more f g r' h3 h4]
theorem unq_nil : unq [] = some [] := rfl
theorem unq_stop {c : UInt8} {r : List UInt8} (h : stopB c = true) : unq (c :: r) = none := by
  show (if stopB c = true then none else _) = none
  rw [if_pos h]
theorem unq_plain {c : UInt8} {r : List UInt8} (h : stopB c = false) (h2 : c ≠ 92) : unq (c :: r) = (unq r).map (c :: ·) := by
  show (if stopB c = true then none else if c = 92 then _ else (unqL r.length r).map (c :: ·)) = _
  rw [if_neg (by rw [h]; decide), if_neg h2]
  rfl
theorem unq_end : unq [92] = none := rfl
theorem unq_esc_none {d : UInt8} {r : List UInt8} (h : escD d = none) : unq (92 :: d :: r) = none := by
  show (match escD d with | none => none | some b => (unqL (r.length + 1) r).map (b :: ·)) = none
  rw [h]
theorem unq_esc {d b : UInt8} {r : List UInt8} (h : escD d = some b) : unq (92 :: d :: r) = (unq r).map (b :: ·) := by
  show (match escD d with | none => none | some b => (unqL (r.length + 1) r).map (b :: ·)) = _
  rw [h]
  show (unqL (r.length + 1) r).map (b :: ·) = _
  rw [unqL_more (r.length + 1) r.length r (by omega) (Nat.le_refl _)]
  rfl

theorem replQ_cases (c : UInt8) : (c = 34 ∧ replC quoL c = [92, 34]) ∨ (c = 92 ∧ replC quoL c = [92, 92]) ∨ (c = 10 ∧ replC quoL c = [92, 110]) ∨ (c = 13 ∧ replC quoL c = [92, 114]) ∨ (c = 9 ∧ replC quoL c = [92, 116]) ∨
    (stopB c = false ∧ c ≠ 92 ∧ replC quoL c = [c]) := by
  by_cases h1 : c = 34
  · subst h1; exact .inl ⟨rfl, rfl⟩
  by_cases h2 : c = 92
  · subst h2; exact .inr (.inl ⟨rfl, rfl⟩)
  by_cases h3 : c = 10
  · subst h3; exact .inr (.inr (.inl ⟨rfl, rfl⟩))
  by_cases h4 : c = 13
  · subst h4; exact .inr (.inr (.inr (.inl ⟨rfl, rfl⟩)))
  by_cases h5 : c = 9
  · subst h5; exact .inr (.inr (.inr (.inr (.inl ⟨rfl, rfl⟩))))
  refine .inr (.inr (.inr (.inr (.inr ⟨by unfold stopB; simp [h1, h3, h4, h5], h2, ?_⟩))))
  unfold replC pairOf quoL
  have n1 : ¬ 34 = c.toNat := fun e => h1 (UInt8.toNat_inj.1 (by rw [← e]; rfl))
  have n2 : ¬ 92 = c.toNat := fun e => h2 (UInt8.toNat_inj.1 (by rw [← e]; rfl))
  have n3 : ¬ 10 = c.toNat := fun e => h3 (UInt8.toNat_inj.1 (by rw [← e]; rfl))
  have n4 : ¬ 13 = c.toNat := fun e => h4 (UInt8.toNat_inj.1 (by rw [← e]; rfl))
  have n5 : ¬ 9 = c.toNat := fun e => h5 (UInt8.toNat_inj.1 (by rw [← e]; rfl))
  simp [n1, n2, n3, n4, n5]

/-- What was quoted is read back. -/
theorem unq_back : ∀ (l : List UInt8), unq (replL quoL l) = some l
  | [] => rfl
  | c :: l => by
    have e : replL quoL (c :: l) = replC quoL c ++ replL quoL l := by unfold replL; rw [List.flatMap_cons]
    rw [e]
    rcases replQ_cases c with ⟨rfl, h⟩ | ⟨rfl, h⟩ | ⟨rfl, h⟩ | ⟨rfl, h⟩ | ⟨rfl, h⟩ | ⟨h1, h2, h⟩ <;> rw [h]
    · show unq (92 :: 34 :: replL quoL l) = _
      rw [unq_esc (b := 34) rfl, unq_back l]; rfl
    · show unq (92 :: 92 :: replL quoL l) = _
      rw [unq_esc (b := 92) rfl, unq_back l]; rfl
    · show unq (92 :: 110 :: replL quoL l) = _
      rw [unq_esc (b := 10) rfl, unq_back l]; rfl
    · show unq (92 :: 114 :: replL quoL l) = _
      rw [unq_esc (b := 13) rfl, unq_back l]; rfl
    · show unq (92 :: 116 :: replL quoL l) = _
      rw [unq_esc (b := 9) rfl, unq_back l]; rfl
    · show unq (c :: replL quoL l) = _
      rw [unq_plain h1 h2, unq_back l]; rfl

/-- A character in quotes, as characters. -/
def qcL (c : Nat) : List Nat := if c = 34 then [92, 34] else if c = 92 then [92, 92] else if c = 10 then [92, 110] else if c = 13 then [92, 114] else if c = 9 then [92, 116] else [c]
theorem replL_high {l : List UInt8} (h : ∀ b ∈ l, 128 ≤ b.toNat) : replL quoL l = l := by
  induction l with
  | nil => rfl
  | cons b r ih =>
    have e : replL quoL (b :: r) = replC quoL b ++ replL quoL r := by unfold replL; rw [List.flatMap_cons]
    rw [e, ih (fun x hx => h x (by simp [hx]))]
    have hb := h b (by simp)
    rcases replQ_cases b with ⟨rfl, _⟩ | ⟨rfl, _⟩ | ⟨rfl, _⟩ | ⟨rfl, _⟩ | ⟨rfl, _⟩ | ⟨_, _, h⟩
    · exact absurd hb (by decide)
    · exact absurd hb (by decide)
    · exact absurd hb (by decide)
    · exact absurd hb (by decide)
    · exact absurd hb (by decide)
    · rw [h]; rfl
theorem encL_ascii {c : Nat} (h : c < 128) : encL c = [UInt8.ofNat c] := by
  rcases encL_cases c (by omega) with ⟨_, e⟩ | ⟨h1, _⟩ | ⟨h1, _⟩ | ⟨h1, _⟩
  · exact e
  · omega
  · omega
  · omega
theorem encL_high {c : Nat} (h : (c < 55296 ∨ 57344 ≤ c) ∧ c ≤ 1114111) (hc : 128 ≤ c) : ∀ b ∈ encL c, 128 ≤ b.toNat := by
  rcases encL_cases c h with ⟨h1, e⟩ | ⟨h1, h2, e⟩ | ⟨h1, h2, e⟩ | ⟨h1, e⟩
  · omega
  · rw [e]; intro b hb
    simp only [List.mem_cons, List.not_mem_nil, or_false] at hb
    rcases hb with rfl | rfl <;> rw [byte_nat (by omega)] <;> omega
  · rw [e]; intro b hb
    simp only [List.mem_cons, List.not_mem_nil, or_false] at hb
    rcases hb with rfl | rfl | rfl <;> rw [byte_nat (by omega)] <;> omega
  · rw [e]; intro b hb
    simp only [List.mem_cons, List.not_mem_nil, or_false] at hb
    rcases hb with rfl | rfl | rfl | rfl <;> rw [byte_nat (by omega)] <;> omega
theorem repl_enc {c : Nat} (h : charB c = true) : replL quoL (encL c) = (qcL c).flatMap encL := by
  by_cases hc : c < 128
  · rw [encL_ascii hc]
    have e : replL quoL [UInt8.ofNat c] = replC quoL (UInt8.ofNat c) := by unfold replL; simp
    rw [e]
    have hn : (UInt8.ofNat c).toNat = c := byte_nat (by omega)
    rcases replQ_cases (UInt8.ofNat c) with ⟨h1, h2⟩ | ⟨h1, h2⟩ | ⟨h1, h2⟩ | ⟨h1, h2⟩ | ⟨h1, h2⟩ | ⟨h1, h3, h2⟩
    · obtain rfl : c = 34 := by rw [← hn, h1]; rfl
      rw [h2]; decide +kernel
    · obtain rfl : c = 92 := by rw [← hn, h1]; rfl
      rw [h2]; decide +kernel
    · obtain rfl : c = 10 := by rw [← hn, h1]; rfl
      rw [h2]; decide +kernel
    · obtain rfl : c = 13 := by rw [← hn, h1]; rfl
      rw [h2]; decide +kernel
    · obtain rfl : c = 9 := by rw [← hn, h1]; rfl
      rw [h2]; decide +kernel
    · rw [h2]
      have a1 : c ≠ 34 := fun e => by subst e; exact absurd h1 (by decide)
      have a2 : c ≠ 92 := fun e => by subst e; exact absurd rfl h3
      have a3 : c ≠ 10 := fun e => by subst e; exact absurd h1 (by decide)
      have a4 : c ≠ 13 := fun e => by subst e; exact absurd h1 (by decide)
      have a5 : c ≠ 9 := fun e => by subst e; exact absurd h1 (by decide)
      unfold qcL
      rw [if_neg a1, if_neg a2, if_neg a3, if_neg a4, if_neg a5]
      simp [encL_ascii hc]
  · rw [replL_high (encL_high (charB_lt h) (by omega))]
    unfold qcL
    rw [if_neg (by omega), if_neg (by omega), if_neg (by omega), if_neg (by omega), if_neg (by omega)]
    simp
theorem qcL_char {c : Nat} (h : charB c = true) : ∀ d ∈ qcL c, charB d = true := by
  unfold qcL
  split
  · intro d hd; simp at hd; rcases hd with rfl | rfl <;> decide
  split
  · intro d hd; simp at hd; subst hd; decide
  split
  · intro d hd; simp at hd; rcases hd with rfl | rfl <;> decide
  split
  · intro d hd; simp at hd; rcases hd with rfl | rfl <;> decide
  split
  · intro d hd; simp at hd; rcases hd with rfl | rfl <;> decide
  · intro d hd; simp at hd; subst hd; exact h
/-- A text in quotes is a text. -/
theorem quoted_chars {cs : List Nat} (h : ∀ c ∈ cs, charB c = true) : chars (quotedL (cs.flatMap encL)) = some (34 :: (cs.flatMap qcL ++ [34])) := by
  have e : replL quoL (cs.flatMap encL) = (cs.flatMap qcL).flatMap encL := by
    induction cs with
    | nil => rfl
    | cons c cs ih =>
      rw [List.flatMap_cons, replL_app, repl_enc (h c (by simp)), ih (fun d hd => h d (by simp [hd])), List.flatMap_cons, List.flatMap_append]
  have e2 : quotedL (cs.flatMap encL) = (34 :: (cs.flatMap qcL ++ [34])).flatMap encL := by
    unfold quotedL
    rw [e, List.flatMap_cons, List.flatMap_append]
    have e34 : encL 34 = [34] := encL_ascii (by omega)
    rw [e34]
    simp [e34]
  rw [e2]
  apply chars_of
  intro d hd
  rcases List.mem_cons.1 hd with rfl | hd
  · decide
  · rcases List.mem_append.1 hd with hd | hd
    · obtain ⟨c, hc, hdc⟩ := List.mem_flatMap.1 hd
      exact qcL_char (h c hc) d hdc
    · simp at hd; subst hd; decide
end Go.Proofs.YtanncakdlflopaaGreatDoor

namespace Go.Proofs.YtanncakdlflopaaGreatDoor
open Go.RowKit
set_option linter.unusedVariables false
set_option maxRecDepth 100000

set_option maxHeartbeats 2000000 in
/-- (*Replacer).Replace, its first call. -/
theorem replace_any (b g cap n : Nat) (d2 : Value) (l : List (UInt8 × List UInt8)) (s : ByteArray) (w : World) (n1 : 2 * l.length ≤ n) (n2 : n ≤ 2 * l.length) (hl : 2 ≤ l.length) (h8 : l.length ≤ 100) (hgb : g ≠ b)
    (hb : w.heap[b]? = some (.cells #[.int .u32 0, .int .i32 0, d2, .nilIface, .slice (some ⟨g, 0, none⟩) n cap] 163 (0, 0)))
    (ho : ∀ (j : Nat) (u : Value), (pairL l)[j]? = some u → w.cell? ⟨g, j, none⟩ = some u) (h1 : oneB l = false) (hk : keysOk l)
    (hs : s.size ≤ 1099511627776) (hm : ∀ x ∈ l, x.2.length ≤ 100) (hp1 : ∀ x ∈ l, 1 ≤ x.2.length) :
    Calls Tryz.prog 88 #[.pointer (some ⟨b, 0, none⟩), .string s] w fun e w' => e = .returned (.string ⟨(replL l s.data.toList).toArray⟩) ∧ Below b w w' := by
  have HD := Lib.hid (do_any b g cap n d2 l w n1 n2 hl h8 hgb hb ho h1 hk)
  have hmf : ∀ (fn : Fn) (first cap : Array Value) (w : World), (Instr.makeFunc fn first cap).run Tryz.prog w = .ok (.func fn first cap) w := fun _ _ _ _ => rfl
  have hbl := block_lt hb
  have HM := Lib.hid hm
  have HK := Lib.hid hk
  have HP1 := Lib.hid hp1
  clear hb ho h1 hk hm hp1
  go_enter Tryz.func88, Tryz.ntmps88
  go_wp2_with fail
  refine HD.out.mono ?_
  rintro e w1 ⟨R, rfl, hrep, hbel, hbR⟩
  have c3 : w1.cell? ⟨b, 3, none⟩ = some (.iface 191 (.pointer (some ⟨R, 0, none⟩))) := by rw [cell_of_row _ _ _ _ _ _ hbR]; rfl
  have HR := Lib.hid hrep
  have HBel := Lib.hid hbel
  clear hrep hbel hbR
  have hmeth := method_of
  go_wp2_with fail
  refine (run_any w.heap.size R l s _ HR.out HK.out hs h8 HM.out HP1.out).mono ?_
  rintro e w2 ⟨rfl, hb2⟩
  go_wp2
  go_ret
  exact ⟨rfl, HBel.out.trans (hb2.mono (by have := HBel.out.size; omega))⟩

theorem quo_keys : keysOk quoL := by
  intro i j x y hij hx hy
  have hj : j < 5 := (List.getElem?_eq_some_iff.1 hy).1
  have hc : (i = 0 ∧ j = 1) ∨ (i = 0 ∧ j = 2) ∨ (i = 0 ∧ j = 3) ∨ (i = 0 ∧ j = 4) ∨ (i = 1 ∧ j = 2) ∨ (i = 1 ∧ j = 3) ∨ (i = 1 ∧ j = 4) ∨ (i = 2 ∧ j = 3) ∨ (i = 2 ∧ j = 4) ∨ (i = 3 ∧ j = 4) := by omega
  rcases hc with ⟨rfl, rfl⟩ | ⟨rfl, rfl⟩ | ⟨rfl, rfl⟩ | ⟨rfl, rfl⟩ | ⟨rfl, rfl⟩ | ⟨rfl, rfl⟩ | ⟨rfl, rfl⟩ | ⟨rfl, rfl⟩ | ⟨rfl, rfl⟩ | ⟨rfl, rfl⟩ <;> (simp [quoL] at hx hy; subst hx hy; decide)
theorem quo_len (l : List UInt8) : (replL quoL l).length ≤ 2 * l.length := replL_len (m := 2) (by omega) (by intro x hx; simp [quoL] at hx; rcases hx with rfl | rfl | rfl | rfl | rfl <;> simp) l

/-- What Quote answers. -/
def quoteV (s : ByteArray) : Value := match chars s.data.toList with
  | some _ => .tuple #[.string ⟨(quotedL s.data.toList).toArray⟩, .int .i64 0]
  | none => .tuple #[.string ⟨#[]⟩, .int .i64 2]
theorem quoteV_some {s : ByteArray} {cs : List Nat} (h : chars s.data.toList = some cs) : quoteV s = .tuple #[.string ⟨(quotedL s.data.toList).toArray⟩, .int .i64 0] := by unfold quoteV; rw [h]
theorem quoteV_none {s : ByteArray} (h : chars s.data.toList = none) : quoteV s = .tuple #[.string ⟨#[]⟩, .int .i64 2] := by unfold quoteV; rw [h]

end Go.Proofs.YtanncakdlflopaaGreatDoor
