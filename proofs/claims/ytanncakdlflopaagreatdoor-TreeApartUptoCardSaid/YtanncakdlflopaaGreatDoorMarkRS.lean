/- mark.Read on any document. (short) The reference of mark: Blank, blanks, begins, name, find. (short) Pieces that are spelled by the grammar are what the document says. No program in sight. -/
import Derived.Test.YtanncakdlflopaaGreatDoorMarkQ
import Derived.OwnWalk
import Derived.Test.YtanncakdlflopaaGreatDoorMarkPlain
import Derived.Test.YtanncakdlflopaaGreatDoorEscWalkA
namespace Go.Proofs.YtanncakdlflopaaGreatDoor
open Go.RowKit
set_option linter.unusedVariables false
set_option linter.unusedSimpArgs false
set_option maxRecDepth 100000

/-- What mark.Read answers. -/
def MPost (r : Option (List EvD) × Int) (w0 : World) (S : ByteArray) (e : Ending) (w' : World) : Prop :=
 match r with
 |(none, c) => ∃ j : Nat, j ≤ S.size ∧ (c == 0) = false ∧ e = .returned (.tuple #[.slice none 0 0, .int .i64 j, .int .i64 c]) ∧ Below w0.heap.size w0 w'
 |(some l, _) => ∃ (ms : List EvM) (p : Option Addr) (c : Nat), outD ms = l ∧ ms.length ≤ S.size ∧ e = .returned (.tuple #[.slice p ms.length c, .int .i64 0, .int .i64 0]) ∧ Mem w0 w' (.row p c 57 4 ms.length (outC ms) :: outR ms)
set_option maxHeartbeats 8000000 in
theorem mRead_any (S : ByteArray) (W : World) (r : Option (List EvD) × Int) (hr : markF S = r) (hT : U8 W) (hE : ErrsAt W) (hX : MaxAt W) (hs : S.size ≤ 1048576) :
  Calls Tryz.prog 22 #[.string S] W (MPost r W S) := by
 have HM := Lib.hid (Mem.start W)
 have HT := Lib.hid hT
 have HE := Lib.hid hE
 have HX := Lib.hid hX
 have HR := Lib.hid hr
 clear hT hE hX hr
 by_cases h3 : 300000 < S.size
 ·have d1 : decide ((300000 : Int) < (S.size : Int)) = true := decide_eq_true (by omega)
  have hrn : r = (none, 6) := by rw [← HR.out]; unfold markF; rw [if_pos h3]
  have HS := Lib.hid h3
  subst hrn
  clear h3 HR
  go_enter Tryz.func22, Tryz.ntmps22
  go_wp2_with fail
  go_ret3
  exact ⟨300000, by have := HS.out; omega, rfl, rfl, HM.out.below⟩
 have d1 : decide ((300000 : Int) < (S.size : Int)) = false := decide_eq_false (by omega)
 have HV := Lib.hid (fun W h => valid_any S W (by omega) h)
 cases hv : textB S with
 | false =>
  have hrn : r = (none, 2) := by rw [← HR.out]; unfold markF; rw [if_neg h3, if_pos hv]
  subst hrn
  rw [hv] at HV
  clear h3 HR hv
  go_enter Tryz.func22, Tryz.ntmps22
  go_wp2_with (first | (go_at_call 41; (with_reducible refine cB HM (HV.out _ (HT.out.below HM.out.below)) ?_); clear HM; intro W1 HM))
  go_ret3
  exact ⟨0, by omega, rfl, rfl, HM.out.below⟩
 | true =>
  obtain ⟨q, hq⟩ : ∃ q, bodyF S = q := ⟨_, rfl⟩
  have HRd := Lib.hid (fun W2 R h => mread_any W W2 R S q hq HT.out HE.out HX.out hs h)
  have hr2 := HR.out
  unfold markF at hr2
  rw [if_neg h3, if_neg (by rw [hv]; decide), hq] at hr2
  rw [hv] at HV
  clear HR hv hq
  go_enter Tryz.func22, Tryz.ntmps22
  go_wp2_with (first | (go_at_call 41; (with_reducible refine cB HM (HV.out _ (HT.out.below HM.out.below)) ?_); clear HM; intro W1 HM) | refine mP ?_ | ((with_reducible refine iat 14 ?_); refine mB ?_; clear HM; intro g14 W1 HM))
  have HR := Lib.hid hr2
  clear hr2
  have hc := HRd.out _ _ HM.out
  clear HRd
  cases q with
  | none =>
   have hrn : r = (none, 5) := by rw [← HR.out]
   subst hrn
   clear HR
   refine hc.mono ?_
   rintro e W2 ⟨ov, j, lg, dp, T, hj, rfl, hM⟩
   clear hc HM
   have HM := Lib.hid hM
   clear hM
   go_wp2_with fail
   refine wp_region_mem (by kernel_rfl) (by kernel_rfl) HM.out ?_; intro hNE; (repeat (any_goals (first | ((with_reducible refine qgd ?_); (with_reducible refine skip_q ?_ ?_ ?_); (exact rfl); (rotate_left; (exact (hNE.elim fun p => ⟨p.W, p, rfl⟩)))) | refine mQ ?_ | go_big_quiet_step (fail) | quiet_step (fail)))); clear hNE; refine wpQuiet_nil ?_; intro W1 HM1; replace HM := Lib.hid HM1; clear HM1
   go_wp2_with fail
   go_ret3
   exact ⟨j, hj, rfl, rfl, HM.out.below⟩
  | some l =>
   refine hc.mono ?_
   rintro e W2 ⟨rfl, ms, p, c, hl, hms, hM⟩
   clear hc HM
   have HM := Lib.hid hM
   have HL := Lib.hid hl
   clear hM hl
   have hr2 := HR.out
   clear HR
   dsimp only at hr2
   obtain ⟨lg, hlg⟩ : ∃ b, longB l = b := ⟨_, rfl⟩
   obtain ⟨dp, hdp⟩ : ∃ b, dupB l = b := ⟨_, rfl⟩
   rw [hlg, hdp] at HM hr2
   clear hlg hdp
   cases lg with
   | true =>
    rw [if_pos rfl] at hr2
    subst hr2
    go_wp2_with (first | refine mP ?_ | (refine mB ?_; clear HM; intro g1 W1 HM))
    go_ret3
    exact ⟨S.size, by omega, rfl, rfl, HM.out.below⟩
   | false =>
    rw [if_neg (by decide)] at hr2
    cases dp with
    | true =>
     rw [if_pos rfl] at hr2
     subst hr2
     go_wp2_with (first | refine mP ?_ | (refine mB ?_; clear HM; intro g1 W1 HM))
     go_ret3
     exact ⟨S.size, by omega, rfl, rfl, HM.out.below⟩
    | false =>
     rw [if_neg (by decide)] at hr2
     subst hr2
     go_wp2_with (first | refine mP ?_ | (refine mB ?_; clear HM; intro g1 W1 HM))
     go_ret3
     exact ⟨ms, p, c, HL.out, hms, rfl, HM.out.sub (.cons _ (.refl _))⟩
end Go.Proofs.YtanncakdlflopaaGreatDoor

namespace Go.Proofs.YtanncakdlflopaaGreatDoor
open Go.RowKit
set_option linter.unusedVariables false
set_option linter.unusedSimpArgs false
set_option maxRecDepth 100000

end Go.Proofs.YtanncakdlflopaaGreatDoor

namespace Go.Proofs.YtanncakdlflopaaGreatDoor
open Go.RowKit
set_option linter.unusedVariables false
set_option linter.unusedSimpArgs false
set_option maxRecDepth 100000

/-- A piece: its kind, name, value, text. -/
structure PartD where
 k : Int
 n : ByteArray
 v : ByteArray
 t : ByteArray
theorem drop_app {T a X : List UInt8} {i : Nat} (h : T.drop i = a ++ X) : T.drop (i + a.length) = X := by
 rw [← List.drop_drop, h, List.drop_left]
theorem drop_one {T X : List UInt8} {b : UInt8} {i : Nat} (h : T.drop i = b :: X) : T.drop (i + 1) = X := drop_app (a := [b]) h
theorem drop_lt {T X : List UInt8} {b : UInt8} {i : Nat} (h : T.drop i = b :: X) : i < T.length := by
 have := congrArg List.length h
 rw [List.length_drop, List.length_cons] at this
 omega
theorem atP_of {t X : List UInt8} {S : ByteArray} {i : Nat} (h : S.data.toList.drop i = t ++ X) : atP t S i = true := by
 unfold atP Lib.hasPrefix; rw [h]; exact List.isPrefixOf_iff_prefix.2 (List.prefix_append t X)
theorem atP_no {c b : UInt8} {t X : List UInt8} {S : ByteArray} {i : Nat} (h : S.data.toList.drop i = b :: X) (hb : c ≠ b) : atP (c :: t) S i = false := by
 unfold atP Lib.hasPrefix; rw [h, List.isPrefixOf, beq_eq_false_iff_ne.2 hb]; rfl
theorem atP_no2 {c d b : UInt8} {t X : List UInt8} {S : ByteArray} {i : Nat} (h : S.data.toList.drop i = c :: b :: X) (hb : d ≠ b) : atP (c :: d :: t) S i = false := by
 unfold atP Lib.hasPrefix; rw [h, List.isPrefixOf, List.isPrefixOf, beq_eq_false_iff_ne.2 hb]; simp
theorem spE_of {p : UInt8 → Bool} {T a X : List UInt8} {i : Nat} (h : T.drop i = a ++ X) (ha : ∀ b ∈ a, p b = true) (hX : ∀ b ∈ X.head?, p b = false) : spE p T i = i + a.length := by
 unfold spE
 rw [h]
 clear h
 congr 2
 induction a with
 | nil =>
  cases X with
  | nil => rfl
  | cons x r => rw [List.nil_append, List.takeWhile_cons, if_neg (by rw [hX x rfl]; decide)]
 | cons b a ih => rw [List.cons_append, List.takeWhile_cons, if_pos (ha b (by simp)), ih (fun c hc => ha c (by simp [hc]))]
theorem ext_of {S : ByteArray} {a X : List UInt8} {i : Nat} (h : S.data.toList.drop i = a ++ X) : S.extract i (i + a.length) = ⟨a.toArray⟩ := by
 apply ByteArray.ext
 apply Array.toList_inj.1
 rw [ByteArray.data_extract, Array.toList_extract, List.extract_eq_take_drop, h]
 simp
theorem fnd_of {c : UInt8} {t X : List UInt8} : ∀ {a : List UInt8}, c ∉ a → fndL (c :: t) (a ++ (c :: t) ++ X) = some a.length
 | [], _ => by
  rw [List.nil_append, List.cons_append, fndL_cons, if_pos]
  ·rfl
  ·rw [← List.cons_append]; exact List.isPrefixOf_iff_prefix.2 (List.prefix_append _ X)
 | b :: a, h => by
  rw [List.cons_append, List.cons_append, fndL_cons, if_neg, fnd_of (fun hc => h (by simp [hc]))]
  ·rfl
  ·rw [List.isPrefixOf, beq_eq_false_iff_ne.2 (fun e => h (by simp [e]))]; simp

theorem insN {b : UInt8} (h : insU b = true) : b ≠ 60 ∧ b ≠ 62 ∧ b ≠ 47 ∧ b ≠ 61 ∧ b ≠ 33 ∧ b ≠ 63 ∧ blkB b = false ∧ b.toNat < 128 ∧ charB b.toNat = true := by
 have h1 : ∀ n : Fin 256, insU (UInt8.ofNat n.val) = true → UInt8.ofNat n.val ≠ 60 ∧ UInt8.ofNat n.val ≠ 62 ∧ UInt8.ofNat n.val ≠ 47 ∧ UInt8.ofNat n.val ≠ 61 ∧ UInt8.ofNat n.val ≠ 33 ∧ UInt8.ofNat n.val ≠ 63 ∧ blkB (UInt8.ofNat n.val) = false ∧ (UInt8.ofNat n.val).toNat < 128 ∧ charB (UInt8.ofNat n.val).toNat = true := by decide +kernel
 have := h1 ⟨b.toNat, b.toNat_lt⟩
 simp only [UInt8.ofNat_toNat] at this
 exact this h
theorem blkN {b : UInt8} (h : blkB b = true) : insU b = false ∧ b ≠ 45 ∧ b.toNat < 128 ∧ charB b.toNat = true := by
 have h1 : ∀ n : Fin 256, blkB (UInt8.ofNat n.val) = true → insU (UInt8.ofNat n.val) = false ∧ UInt8.ofNat n.val ≠ 45 ∧ (UInt8.ofNat n.val).toNat < 128 ∧ charB (UInt8.ofNat n.val).toNat = true := by decide +kernel
 have := h1 ⟨b.toNat, b.toNat_lt⟩
 simp only [UInt8.ofNat_toNat] at this
 exact this h
theorem escN (b : UInt8) : 34 ∉ escC true b ∧ (39 ∈ escC true b → b = 39) ∧ (60 : UInt8) ∉ escC false b := by
 have h1 : ∀ n : Fin 256, 34 ∉ escC true (UInt8.ofNat n.val) ∧ (39 ∈ escC true (UInt8.ofNat n.val) → UInt8.ofNat n.val = 39) ∧ (60 : UInt8) ∉ escC false (UInt8.ofNat n.val) := by decide +kernel
 have := h1 ⟨b.toNat, b.toNat_lt⟩
 simpa only [UInt8.ofNat_toNat] using this
theorem name_has {n : ByteArray} (h : nameM n = true) : (∃ x r, n.data.toList = x :: r) ∧ ∀ b ∈ n.data.toList, insU b = true := by
 unfold nameM at h
 simp only [Bool.and_eq_true, Bool.not_eq_true', decide_eq_true_eq, List.all_eq_true] at h
 obtain ⟨⟨⟨h1, _⟩, _⟩, h4⟩ := h
 refine ⟨?_, h4⟩
 rw [Lib.toList_data] at h1
 cases hq : n.data.toList with
 | nil => rw [hq] at h1; cases h1
 | cons x r => exact ⟨x, r, rfl⟩

/-- A text of characters. -/
def Txt (l : List UInt8) : Prop := ∃ cs : List Nat, l = cs.flatMap encL ∧ ∀ c ∈ cs, charB c = true
theorem Txt.app {a b : List UInt8} (h1 : Txt a) (h2 : Txt b) : Txt (a ++ b) := by
 obtain ⟨x, rfl, hx⟩ := h1
 obtain ⟨y, rfl, hy⟩ := h2
 exact ⟨x ++ y, by rw [List.flatMap_append], by intro c hc; rcases List.mem_append.1 hc with h | h; exact hx c h; exact hy c h⟩
theorem Txt.ascii : ∀ {l : List UInt8}, (∀ b ∈ l, b.toNat < 128 ∧ charB b.toNat = true) → Txt l
 | [], _ => ⟨[], rfl, by simp⟩
 | b :: l, h => by
  have h1 := h b (by simp)
  have h2 : Txt l := Txt.ascii (fun c hc => h c (by simp [hc]))
  refine Txt.app (a := [b]) ⟨[b.toNat], ?_, by simpa using h1.2⟩ h2
  rw [List.flatMap_cons, encL_ascii h1.1]; simp
theorem Txt.cons {b : UInt8} {l : List UInt8} (hb : b.toNat < 128 ∧ charB b.toNat = true) (h : Txt l) : Txt (b :: l) := Txt.app (a := [b]) (Txt.ascii (by intro c hc; simp at hc; rw [hc]; exact hb)) h
theorem Txt.esc {a : Bool} {s : ByteArray} (h : (chars s.data.toList).isSome = true) : Txt (escT a s.data.toList) := by
 obtain ⟨cs, hc⟩ := Option.isSome_iff_exists.1 h
 obtain ⟨h1, h2, _⟩ := chars_parts hc
 obtain ⟨ds, hd⟩ := escT_text a h1 h2
 obtain ⟨h3, h4⟩ := chars_bytes _ _ ds (Nat.le_refl _) hd
 exact ⟨ds, h3, h4⟩
theorem Txt.ok {S : ByteArray} (h : Txt S.data.toList) : textB S = true := by
 obtain ⟨cs, h1, h2⟩ := h
 rw [textB_chars, h1, chars_of _ h2]; rfl
theorem unesc_esc {a : Bool} {s : ByteArray} (h : (chars s.data.toList).isSome = true) : unescO a ⟨(escT a s.data.toList).toArray⟩ = some s := by
 obtain ⟨cs, hc⟩ := Option.isSome_iff_exists.1 h
 obtain ⟨h1, h2, _⟩ := chars_parts hc
 obtain ⟨ds, hd⟩ := escT_text a h1 h2
 unfold unescO
 rw [show (⟨(escT a s.data.toList).toArray⟩ : ByteArray).data.toList = escT a s.data.toList from List.toList_toArray, hd]
 show (unes (plainL a (escT a s.data.toList))).map _ = _
 rw [esc_back]; rfl

section
variable {S : ByteArray} {B : List UInt8} {q : UInt8}
theorem name_at {n : ByteArray} {X : List UInt8} {i : Nat} (hn : nameM n = true) (h : S.data.toList.drop i = n.data.toList ++ X) (hX : ∀ b ∈ X.head?, insU b = false) : insE S i = i + n.data.toList.length ∧ S.extract i (insE S i) = n := by
 have e := spE_of h (name_has hn).2 hX
 refine ⟨e, ?_⟩
 show S.extract i (spE insU S.data.toList i) = n
 rw [e, ext_of h]
theorem blk_at {X : List UInt8} {i : Nat} (hB : ∀ b ∈ B, blkB b = true) (h : S.data.toList.drop i = B ++ X) (hX : ∀ b ∈ X.head?, blkB b = false) : blkE S i = i + B.length := spE_of h hB hX
theorem blank_head {x : UInt8} {X : List UInt8} (hB : ∀ b ∈ B, blkB b = true) (hx : insU x = false) : ∀ b ∈ (B ++ x :: X).head?, insU b = false := by
 cases B with
 | nil => intro b hb; cases hb; exact hx
 | cons c B => intro b hb; cases hb; exact (blkN (hB c (by simp))).1
theorem end_spelled {n : ByteArray} {X : List UInt8} {i : Nat} (hn : nameM n = true) (hB : ∀ b ∈ B, blkB b = true) (h : S.data.toList.drop i = 60 :: 47 :: (n.data.toList ++ (B ++ 62 :: X))) : pieceF S i = some ([evClose n], i + (n.data.toList.length + B.length + 3)) := by
 unfold pieceF
 rw [if_neg (by rw [atP_no2 h (by decide)]; decide), if_pos (atP_of (X := n.data.toList ++ (B ++ 62 :: X)) h)]
 have h2 : S.data.toList.drop (i + 2) = n.data.toList ++ (B ++ 62 :: X) := drop_app (a := [60, 47]) h
 obtain ⟨e1, e2⟩ := name_at hn h2 (blank_head hB (by decide +kernel))
 unfold endF
 rw [e2, if_neg (by rw [hn]; decide)]
 have h3 := drop_app h2
 rw [← e1] at h3
 rw [blk_at hB h3 (by intro b hb; cases hb; rfl)]
 have h4 := drop_app h3
 rw [if_pos (atP_of (t := [62]) h4)]
 simp only [Option.map_some, Option.some.injEq, Prod.mk.injEq, true_and]
 omega
end

end Go.Proofs.YtanncakdlflopaaGreatDoor
