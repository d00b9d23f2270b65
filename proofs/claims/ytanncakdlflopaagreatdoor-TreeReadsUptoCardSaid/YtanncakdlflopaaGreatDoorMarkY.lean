/- The reference of mark: prolog, piece. (short) -/
import Derived.Test.YtanncakdlflopaaGreatDoorMarkX
import Derived.Test.YtanncakdlflopaaGreatDoorMarkP
namespace Go.Proofs.YtanncakdlflopaaGreatDoor
open Go.RowKit
set_option linter.unusedVariables false
set_option linter.unusedSimpArgs false
set_option maxRecDepth 100000

/-- A place or -1. -/
def proI : Option Nat → Int
  | none => -1
  | some n => n
theorem fnd_past {c : UInt8} {t X : List UInt8} : ∀ {a : List UInt8}, c ∉ a → fndL (c :: t) (a ++ X) = (fndL (c :: t) X).map (· + a.length)
  | [], _ => by simp
  | b :: a, h => by
    rw [List.cons_append, fndL_cons, if_neg, fnd_past (fun hc => h (by simp [hc]))]
    · cases fndL (c :: t) X with
      | none => rfl
      | some n => simp only [Option.map_some, List.length_cons, Nat.add_assoc]
    · rw [List.isPrefixOf, beq_eq_false_iff_ne.2 (fun e => h (by simp [e]))]; simp
theorem tw_split (p : UInt8 → Bool) : ∀ l : List UInt8, l = l.takeWhile p ++ l.drop (l.takeWhile p).length
  | [] => rfl
  | b :: l => by
    rw [List.takeWhile_cons]
    split
    · rw [List.length_cons, List.drop_succ_cons, List.cons_append, ← tw_split p l]
    · rfl
/-- Behind blanks the first place is the first place. -/
theorem fnd_blanks {S : ByteArray} {i : Nat} {c : UInt8} {t : List UInt8} (hc : blkB c = false) : fndL (c :: t) (S.data.toList.drop i) = (fndL (c :: t) (S.data.toList.drop (blkE S i))).map (· + (blkE S i - i)) := by
  have h1 := tw_split blkB (S.data.toList.drop i)
  rw [List.drop_drop] at h1
  have h3 : blkE S i - i = ((S.data.toList.drop i).takeWhile blkB).length := by show i + _ - i = _; omega
  rw [h3]
  conv => lhs; rw [h1]
  rw [fnd_past]
  · rfl
  · intro hm
    have := List.all_eq_true.1 (List.all_takeWhile (p := blkB) (l := S.data.toList.drop i)) c hm
    rw [hc] at this
    cases this
theorem pro_get {S : ByteArray} {r : Option Nat} (hr : prologF S = r) (h : atP [60, 63, 120, 109, 108] S 0 = true) (h6 : S.size < 6) : r = none := by
  unfold prologF at hr
  rw [if_neg (by rw [h]; decide), if_pos] at hr
  · exact hr.symm
  · have h5 : S.size = 5 := by have := atP_le (Nat.zero_le _) h; simp at this; omega
    exact spE_end (by rw [size_list, h5]; omega)
theorem pro_not {S : ByteArray} {r : Option Nat} {b : UInt8} (hr : prologF S = r) (h : atP [60, 63, 120, 109, 108] S 0 = true) (hb : S.data.toList[5]? = some b) (hk : blkB b = false) : r = none := by
  unfold prologF at hr
  rw [if_neg (by rw [h]; decide), if_pos (spE_no hb hk)] at hr
  exact hr.symm
theorem pro_find {S : ByteArray} {r : Option Nat} {b : UInt8} (hr : prologF S = r) (h : atP [60, 63, 120, 109, 108] S 0 = true) (hb : S.data.toList[5]? = some b) (hk : blkB b = true) : r = (fndL [63, 62] (S.data.toList.drop 6)).map (· + 8) := by
  have h5 : 6 ≤ S.size := by have := (List.getElem?_eq_some_iff.1 hb).1; rw [size_list] at this; omega
  have he : blkE S 5 = blkE S 6 := (spE_yes hb hk).symm
  have hle := blkE_le h5
  unfold prologF at hr
  rw [if_neg (by rw [h]; decide), if_neg (by rw [he]; omega), he] at hr
  rw [fnd_blanks (i := 6) (by decide), ← hr]
  cases fndL [63, 62] (S.data.toList.drop (blkE S 6)) with
  | none => rfl
  | some n =>
    simp only [Option.map_some, Option.some.injEq]
    omega
theorem two_z (q r : UInt8) : (⟨#[q, r]⟩ : ByteArray).size ≤ 16 ∧ (⟨#[q, r]⟩ : ByteArray).data.toList ≠ [] := ⟨by show 2 ≤ 16; decide, by simp⟩

set_option maxHeartbeats 8000000 in
theorem rprolog_any (S : ByteArray) (W : World) (r : Option Nat) (hr : prologF S = r) (hs : S.size ≤ 1048576) :
    Calls Tryz.prog 37 #[.string S] W fun e w' => e = .returned (.int .i64 (proI r)) ∧ W = w' := by
  cases h0 : atP [60, 63, 120, 109, 108] S 0 with
  | false =>
    have hr2 : r = some 0 := by unfold prologF at hr; rw [if_pos h0] at hr; exact hr.symm
    subst hr2
    have HB := Lib.hid (fun W => rbegins_at (t := ⟨#[60, 63, 120, 109, 108]⟩) (i := 0) h0 (Nat.zero_le _) hs (by decide) W)
    clear hr h0
    go_enter Tryz.func37, Tryz.ntmps37
    go_wp2_with fail
    refine (HB.out _).mono ?_
    rintro e W2 ⟨rfl, rfl⟩
    go_wp2_with fail
    go_ret
    exact ⟨rfl, rfl⟩
  | true =>
    have HB := Lib.hid (fun W => rbegins_at (t := ⟨#[60, 63, 120, 109, 108]⟩) (i := 0) h0 (Nat.zero_le _) hs (by decide) W)
    by_cases h6 : S.size < 6
    · have d1 : decide ((S.size : Int) < 6) = true := decide_eq_true (by omega)
      have HR := Lib.hid (pro_get hr h0 h6)
      clear hr h0 h6
      go_enter Tryz.func37, Tryz.ntmps37
      go_wp2_with fail
      refine (HB.out _).mono ?_
      rintro e W2 ⟨rfl, rfl⟩
      go_wp2_with (first | ((with_reducible refine skip_op ?_ ?_); exact rfl))
      go_ret
      exact ⟨by rw [HR.out]; rfl, rfl⟩
    · have d1 : decide ((S.size : Int) < 6) = false := decide_eq_false (by omega)
      have hat := at_byte3 (s := S) (k := 5) (by omega)
      have HAt := Lib.hid hat
      have HBk := Lib.hid (fun W => rblank_any S[5] W)
      generalize S[5] = b at *
      cases hb : blkB b with
      | false =>
        rw [hb] at HBk
        have HR := Lib.hid (pro_not hr h0 hat hb)
        clear hr h0 h6 hat hb
        go_enter Tryz.func37, Tryz.ntmps37
        go_wp2_with fail
        refine (HB.out _).mono ?_
        rintro e W2 ⟨rfl, rfl⟩
        go_wp2_with (first | ((with_reducible refine iat 12 ?_); (refine six (i := 5) rfl rfl rfl HAt.out ?_)) | (go_at_call 53; with_reducible refine cQ (HBk.out _) ?_))
        go_ret
        exact ⟨by rw [HR.out]; rfl, rfl⟩
      | true =>
        rw [hb] at HBk
        have hR := pro_find hr h0 hat hb
        have h66 : 6 ≤ S.size := by omega
        clear hr h0 h6 hat hb
        cases hf : fndL [63, 62] (S.data.toList.drop 6) with
        | none =>
          rw [hf] at hR
          have HR := Lib.hid hR
          have hfr : fndR ⟨#[63, 62]⟩ S 6 = -1 := by unfold fndR; rw [hf]
          have HF := Lib.hid (fun W => rfind_at (t := ⟨#[63, 62]⟩) (i := 6) hfr h66 hs (two_z 63 62).1 (two_z 63 62).2 W)
          clear hR hf hfr
          go_enter Tryz.func37, Tryz.ntmps37
          go_wp2_with fail
          refine (HB.out _).mono ?_
          rintro e W2 ⟨rfl, rfl⟩
          go_wp2_with (first | ((with_reducible refine iat 12 ?_); (refine six (i := 5) rfl rfl rfl HAt.out ?_)) | (go_at_call 53; with_reducible refine cQ (HBk.out _) ?_))
          refine (HF.out _).mono ?_
          rintro e W2 ⟨rfl, rfl⟩
          go_wp2_with fail
          go_ret
          exact ⟨by rw [HR.out]; rfl, rfl⟩
        | some n =>
          rw [hf] at hR
          have HR := Lib.hid hR
          have hfr : fndR ⟨#[63, 62]⟩ S 6 = ((6 + n : Nat) : Int) := by unfold fndR; rw [hf]
          obtain ⟨m, hm⟩ : ∃ m, 6 + n = m := ⟨_, rfl⟩
          rw [hm] at hfr
          have HF := Lib.hid (fun W => rfind_at (t := ⟨#[63, 62]⟩) (i := 6) hfr h66 hs (two_z 63 62).1 (two_z 63 62).2 W)
          have hle := fndL_le (by simp) hf
          rw [List.length_drop, size_list] at hle
          have hm2 : m ≤ S.size := by omega
          have q1 : decide ((m : Int) < 0) = false := decide_eq_false (by omega)
          have hm3 : n + 8 = m + 2 := by omega
          clear hR hf hfr hle
          go_enter Tryz.func37, Tryz.ntmps37
          go_wp2_with fail
          refine (HB.out _).mono ?_
          rintro e W2 ⟨rfl, rfl⟩
          go_wp2_with (first | ((with_reducible refine iat 12 ?_); (refine six (i := 5) rfl rfl rfl HAt.out ?_)) | (go_at_call 53; with_reducible refine cQ (HBk.out _) ?_))
          refine (HF.out _).mono ?_
          rintro e W2 ⟨rfl, rfl⟩
          go_wp2_with fail
          go_ret
          exact ⟨by rw [HR.out]; simp only [Option.map_some, hm3]; rfl, rfl⟩

theorem at_three {S : ByteArray} {e : Nat} (h : atP [45, 45] S e = true) : atP [45, 45, 62] S e = atP [62] S (e + 2) := by
  obtain ⟨X, hX⟩ := List.isPrefixOf_iff_prefix.1 (show [45, 45].isPrefixOf (S.data.toList.drop e) = true from h)
  have h2 : S.data.toList.drop (e + 2) = X := drop_app (a := [45, 45]) hX.symm
  unfold atP Lib.hasPrefix
  rw [h2, ← hX]
  cases X with
  | nil => rfl
  | cons x r => simp [List.isPrefixOf]
theorem ev_drop1 {w0 W : World} {g : Nat} {L : List Res} {d : EvD} (h0 : d.l = []) (h : Mem w0 W (.box g 57 [.int .i64 d.k, .string d.n, .slice none 0 0, .string d.t] :: L)) :
    Mem w0 W (.row (some ⟨g, 0, none⟩) 1 57 4 [evM d].length (outC [evM d]) :: outR [evM d]) := by
  obtain ⟨k, n, l, t⟩ := d
  dsimp only at h0
  subst h0
  exact ev_row0 h

set_option maxHeartbeats 8000000 in
theorem rpiece_any (S : ByteArray) (i : Nat) (W : World) (r : Option (List EvD × Nat)) (hr : pieceF S i = r) (hi : i ≤ S.size) (hs : S.size ≤ 1048576) :
    Calls Tryz.prog 38 #[.string S, .int .i64 i] W (EVPost r W) := by
  have HM := Lib.hid (Mem.start W)
  cases hA : atP [60, 33, 45, 45] S i with
  | true =>
    rw [piece_note hA] at hr
    have l4 : i + 4 ≤ S.size := atP_le hi hA
    have HBa := Lib.hid (fun W => rbegins_at (t := ⟨#[60, 33, 45, 45]⟩) hA hi hs (by decide) W)
    clear hA
    cases hf : fndL [45, 45] (S.data.toList.drop (i + 4)) with
    | none =>
      rw [note_none hf] at hr
      have HR := Lib.hid hr
      have hfr : fndR ⟨#[45, 45]⟩ S (i + 4) = -1 := by unfold fndR; rw [hf]
      have HF := Lib.hid (fun W => rfind_at (t := ⟨#[45, 45]⟩) (i := i + 4) hfr l4 hs (two_z 45 45).1 (two_z 45 45).2 W)
      clear hr hf hfr
      as_aux_lemma =>
      go_enter Tryz.func38, Tryz.ntmps38
      go_wp2_with fail
      refine (HBa.out _).mono ?_
      rintro e W2 ⟨rfl, rfl⟩
      go_wp2_with fail
      refine (HF.out _).mono ?_
      rintro e W2 ⟨rfl, rfl⟩
      go_wp2_with (first | ((with_reducible refine skip_op ?_ ?_); exact rfl) | (refine mL ?_; clear HM; intro g1 W1 HM))
      go_ret2
      exact ev_none HR.out HM.out.below
    | some n =>
      have hle := fndL_le (by simp) hf
      rw [List.length_drop, size_list] at hle
      simp only [List.length_cons, List.length_nil] at hle
      have hat2 : atP [45, 45] S (i + 4 + n) = true := by
        have := fndL_at (by simp) hf
        rw [List.drop_drop] at this
        exact this
      obtain ⟨m, hm⟩ : ∃ m, i + 4 + n = m := ⟨_, rfl⟩
      have hfr : fndR ⟨#[45, 45]⟩ S (i + 4) = (m : Int) := by unfold fndR; rw [hf, ← hm]
      have HF := Lib.hid (fun W => rfind_at (t := ⟨#[45, 45]⟩) (i := i + 4) hfr l4 hs (two_z 45 45).1 (two_z 45 45).2 W)
      have hm2 : m ≤ S.size := by omega
      have q1 : decide ((m : Int) < 0) = false := decide_eq_false (by omega)
      rw [hm] at hat2
      have h3 := at_three hat2
      cases h62 : atP [62] S (m + 2) with
      | false =>
        rw [note_no hf (by rw [hm]; exact h62)] at hr
        rw [h62] at h3
        have HR := Lib.hid hr
        have HB3 := Lib.hid (fun W => rbegins_at (t := ⟨#[45, 45, 62]⟩) h3 hm2 hs (by decide) W)
        clear hr hf hfr hle hat2 h3 h62
        as_aux_lemma =>
        go_enter Tryz.func38, Tryz.ntmps38
        go_wp2_with fail
        refine (HBa.out _).mono ?_
        rintro e W2 ⟨rfl, rfl⟩
        go_wp2_with fail
        refine (HF.out _).mono ?_
        rintro e W2 ⟨rfl, rfl⟩
        go_wp2_with (first | ((with_reducible refine skip_op ?_ ?_); exact rfl) | (refine mL ?_; clear HM; intro g1 W1 HM))
        refine (HB3.out _).mono ?_
        rintro e W2 ⟨rfl, rfl⟩
        go_wp2_with (first | ((with_reducible refine skip_op ?_ ?_); exact rfl) | (refine mL ?_; clear HM; intro g1 W1 HM))
        go_ret2
        exact ev_none HR.out HM.out.below
      | true =>
        rw [note_some hf (by rw [hm]; exact h62), hm] at hr
        rw [h62] at h3
        have HR := Lib.hid hr
        have HB3 := Lib.hid (fun W => rbegins_at (t := ⟨#[45, 45, 62]⟩) h3 hm2 hs (by decide) W)
        clear hr hf hfr hle hat2 h3 h62
        as_aux_lemma =>
        go_enter Tryz.func38, Tryz.ntmps38
        go_wp2_with fail
        refine (HBa.out _).mono ?_
        rintro e W2 ⟨rfl, rfl⟩
        go_wp2_with fail
        refine (HF.out _).mono ?_
        rintro e W2 ⟨rfl, rfl⟩
        go_wp2_with (first | ((with_reducible refine skip_op ?_ ?_); exact rfl) | (refine mL ?_; clear HM; intro g1 W1 HM))
        refine (HB3.out _).mono ?_
        rintro e W2 ⟨rfl, rfl⟩
        go_wp2_with (first | ((with_reducible refine skip_op ?_ ?_); exact rfl) | (refine mL ?_; clear HM; intro g1 W1 HM))
        go_ret2
        exact ev_some HR.out [] rfl rfl (by simp) (nil_rows HM.out)
  | false =>
  have HBa := Lib.hid (fun W => rbegins_at (t := ⟨#[60, 33, 45, 45]⟩) hA hi hs (by decide) W)
  cases hB : atP [60, 47] S i with
  | true =>
    rw [piece_end hA hB] at hr
    have l2 : i + 2 ≤ S.size := atP_le hi hB
    have HBb := Lib.hid (fun W => rbegins_at (t := ⟨#[60, 47]⟩) hB hi hs (by decide) W)
    clear hA hB
    unfold endF at hr
    obtain ⟨k0, hk0⟩ : ∃ k, insE S (i + 2) = k := ⟨_, rfl⟩
    have e1 := insE_le l2
    rw [hk0] at hr e1
    obtain ⟨l0, l1⟩ := e1
    obtain ⟨N, hN⟩ : ∃ N, S.extract (i + 2) k0 = N := ⟨_, rfl⟩
    have hnr : nameR S (i + 2) = if nameM N then (k0 : Int) else -1 := by unfold nameR; rw [hk0, hN]
    rw [hN] at hr
    have HN := Lib.hid hN
    clear hk0 hN
    cases hnm : nameM N with
    | false =>
      rw [if_pos hnm] at hr
      rw [hnm] at hnr
      have hnr2 : nameR S (i + 2) = -1 := hnr
      have HR := Lib.hid (show none = r from hr)
      have HNm := Lib.hid (fun W => rname_is (i := i + 2) hnr2 l2 hs W)
      clear hr hnm hnr hnr2
      as_aux_lemma =>
      go_enter Tryz.func38, Tryz.ntmps38
      go_wp2_with fail
      refine (HBa.out _).mono ?_
      rintro e W2 ⟨rfl, rfl⟩
      go_wp2_with fail
      refine (HBb.out _).mono ?_
      rintro e W2 ⟨rfl, rfl⟩
      go_wp2_with fail
      refine (HNm.out _).mono ?_
      rintro e W2 ⟨rfl, rfl⟩
      go_wp2_with fail
      go_ret2
      exact ev_none HR.out HM.out.below
    | true =>
      rw [if_neg (by rw [hnm]; decide)] at hr
      rw [hnm] at hnr
      have hnr2 : nameR S (i + 2) = (k0 : Int) := hnr
      have HNm := Lib.hid (fun W => rname_is (i := i + 2) hnr2 l2 hs W)
      have q1 : decide ((k0 : Int) < 0) = false := decide_eq_false (by omega)
      obtain ⟨a, ha⟩ : ∃ a, blkE S k0 = a := ⟨_, rfl⟩
      obtain ⟨l3, l4⟩ := blkE_le l1
      rw [ha] at l3 l4 hr
      have HBl := Lib.hid (fun W => rblanks_at ha l1 hs W)
      clear hnm hnr hnr2 ha
      cases h62 : atP [62] S a with
      | false =>
        rw [if_neg (by rw [h62]; decide)] at hr
        have HR := Lib.hid (show none = r from hr)
        have HB3 := Lib.hid (fun W => rbegins_at (t := ⟨#[62]⟩) h62 l4 hs (by decide) W)
        clear hr h62
        as_aux_lemma =>
        go_enter Tryz.func38, Tryz.ntmps38
        go_wp2_with fail
        refine (HBa.out _).mono ?_
        rintro e W2 ⟨rfl, rfl⟩
        go_wp2_with fail
        refine (HBb.out _).mono ?_
        rintro e W2 ⟨rfl, rfl⟩
        go_wp2_with fail
        refine (HNm.out _).mono ?_
        rintro e W2 ⟨rfl, rfl⟩
        go_wp2_with fail
        refine (HBl.out _).mono ?_
        rintro e W2 ⟨rfl, rfl⟩
        go_wp2_with fail
        refine (HB3.out _).mono ?_
        rintro e W2 ⟨rfl, rfl⟩
        go_wp2_with fail
        go_ret2
        exact ev_none HR.out HM.out.below
      | true =>
        rw [if_pos h62] at hr
        have HR := Lib.hid (show some ([evClose N], a + 1) = r from hr)
        have HB3 := Lib.hid (fun W => rbegins_at (t := ⟨#[62]⟩) h62 l4 hs (by decide) W)
        clear hr h62
        as_aux_lemma =>
        go_enter Tryz.func38, Tryz.ntmps38
        go_wp2_with fail
        refine (HBa.out _).mono ?_
        rintro e W2 ⟨rfl, rfl⟩
        go_wp2_with fail
        refine (HBb.out _).mono ?_
        rintro e W2 ⟨rfl, rfl⟩
        go_wp2_with fail
        refine (HNm.out _).mono ?_
        rintro e W2 ⟨rfl, rfl⟩
        go_wp2_with fail
        refine (HBl.out _).mono ?_
        rintro e W2 ⟨rfl, rfl⟩
        go_wp2_with fail
        refine (HB3.out _).mono ?_
        rintro e W2 ⟨rfl, rfl⟩
        go_wp2_with (first | ((with_reducible refine iat 51 ?_); (refine ssls rfl rfl (i := i + 2) (by simp) rfl (j := k0) rfl l0 l1 ?_; rw [HN.out])) | ((with_reducible refine skip_op ?_ ?_); exact rfl) | (refine mL ?_; clear HM; intro g1 W1 HM))
        go_ret2
        exact ev_some HR.out [evM (evClose N)] rfl rfl (by simp) (ev_drop1 (d := evClose N) rfl HM.out)
  | false =>
  have HBb := Lib.hid (fun W => rbegins_at (t := ⟨#[60, 47]⟩) hB hi hs (by decide) W)
  cases hC : atP [60] S i with
  | true =>
    have l2 : i + 1 ≤ S.size := atP_le hi hC
    have hr2 : openF S (i + 1) = r := by
      unfold pieceF at hr
      rw [if_neg (by rw [hA]; decide), if_neg (by rw [hB]; decide), if_pos hC] at hr
      exact hr
    have HBc := Lib.hid (fun W => rbegins_at (t := ⟨#[60]⟩) hC hi hs (by decide) W)
    have HO := Lib.hid (fun W => ropen_any S (i + 1) W r hr2 l2 hs)
    clear hA hB hC hr hr2
    cases r with
    | none =>
      as_aux_lemma =>
      go_enter Tryz.func38, Tryz.ntmps38
      go_wp2_with fail
      refine (HBa.out _).mono ?_
      rintro e W2 ⟨rfl, rfl⟩
      go_wp2_with fail
      refine (HBb.out _).mono ?_
      rintro e W2 ⟨rfl, rfl⟩
      go_wp2_with fail
      refine (HBc.out _).mono ?_
      rintro e W2 ⟨rfl, rfl⟩
      go_wp2_with fail
      refine (HO.out _).mono ?_
      rintro e W2 ⟨rfl, hb⟩
      have HB2 := Lib.hid hb
      clear hb
      go_wp2_with fail
      go_ret2
      exact ev_none rfl HB2.out
    | some lj =>
      obtain ⟨l, j⟩ := lj
      as_aux_lemma =>
      go_enter Tryz.func38, Tryz.ntmps38
      go_wp2_with fail
      refine (HBa.out _).mono ?_
      rintro e W2 ⟨rfl, rfl⟩
      go_wp2_with fail
      refine (HBb.out _).mono ?_
      rintro e W2 ⟨rfl, rfl⟩
      go_wp2_with fail
      refine (HBc.out _).mono ?_
      rintro e W2 ⟨rfl, rfl⟩
      go_wp2_with fail
      refine (HO.out _).mono ?_
      rintro e W2 ⟨ms, p, c, hd, hl, rfl, hM⟩
      have HM2 := Lib.hid hM
      have HD := Lib.hid hd
      clear hM hd
      go_wp2_with fail
      go_ret2
      exact ev_some rfl ms rfl HD.out hl HM2.out
  | false =>
    rw [piece_data hA hB hC] at hr
    have HBc := Lib.hid (fun W => rbegins_at (t := ⟨#[60]⟩) hC hi hs (by decide) W)
    clear hA hB hC
    unfold dataF at hr
    obtain ⟨k, hk⟩ : ∃ k, spE notLt S.data.toList i = k := ⟨_, rfl⟩
    have e1 := spE_le (p := notLt) (l := S.data.toList) (i := i) (by rw [size_list]; exact hi)
    rw [size_list, hk] at e1
    obtain ⟨l0, l1⟩ := e1
    rw [hk] at hr
    obtain ⟨X, hX⟩ : ∃ X, S.extract i k = X := ⟨_, rfl⟩
    have hXs : X.size ≤ 1073741824 := by rw [← hX, ByteArray.size_extract]; omega
    rw [hX] at hr
    have HX := Lib.hid hX
    have HR := Lib.hid hr
    have HK := Lib.hid hk
    clear hr hX hk
    go_enter Tryz.func38, Tryz.ntmps38
    go_wp2_with fail
    refine (HBa.out _).mono ?_
    rintro e W2 ⟨rfl, rfl⟩
    go_wp2_with fail
    refine (HBb.out _).mono ?_
    rintro e W2 ⟨rfl, rfl⟩
    go_wp2_with fail
    refine (HBc.out _).mono ?_
    rintro e W2 ⟨rfl, rfl⟩
    go_wp2_with fail
    go_loopw [9] (fun iv wr => ∃ j : Nat, iv = .int .i64 j ∧ i ≤ j ∧ j ≤ S.size ∧ Hid (spE notLt S.data.toList j = k) ∧ Hid (Mem W wr [])) (fun iv _ => S.size - (intOf iv).toNat)
    case atStart => exact ⟨i, rfl, by omega, hi, HK, HM⟩
    case round =>
      clear HM HK
      obtain ⟨j, rfl, hij, hj, HK, HM⟩ := hrel
      by_cases hlt : j < S.size
      · have HAt := Lib.hid (at_byte3 hlt)
        have d1 : decide ((j : Int) < (S.size : Int)) = true := decide_eq_true (by omega)
        have hy := spE_yes (p := notLt) HAt.out
        have hn := spE_no (p := notLt) HAt.out
        generalize S[j] = b at *
        cases hb : (b == 60) with
        | false =>
          have b1 : ((b.toNat : Int) == 60) = false := (u8_eq b 60).trans hb
          have HK2 := Lib.hid ((hy (by unfold notLt; simpa using hb)).trans HK.out)
          clear hy hn hb
          as_aux_lemma =>
          go_wp2_with (first | ((with_reducible refine iat 74 ?_); (refine six rfl rfl rfl HAt.out ?_)))
          go_roundw
          case rel => exact ⟨j + 1, by go_num, by omega, by omega, HK2, HM⟩
          case measure => simp [intOf]; omega
        | true =>
          have b1 : ((b.toNat : Int) == 60) = true := (u8_eq b 60).trans hb
          have hjk : j = k := (hn (by unfold notLt; simpa using hb)).symm.trans HK.out
          subst hjk
          clear hy hn hb HK
          go_wp2_with (first | ((with_reducible refine iat 74 ?_); (refine six rfl rfl rfl HAt.out ?_)) | ((with_reducible refine iat 83 ?_); (refine ssls rfl rfl (i := i) rfl rfl (j := j) rfl l0 l1 ?_; rw [HX.out])))
          refine (runescape_any X false _ hXs).mono ?_
          rintro e W2 ⟨rfl, hb⟩
          have HM1 := Lib.hid (HM.out.next hb)
          clear HM hb
          (try clear W1)
          have HM := HM1
          clear HM1
          have hr := HR.out
          clear HR
          cases ho : unescO false X with
          | none =>
            rw [ho] at hr
            have HR := Lib.hid (show none = r from hr)
            obtain ⟨c, hc0, hc⟩ := unescO_none ho
            rw [hc]
            have q0 : (c != 0) = true := by simpa using hc0
            clear hc ho hc0 hr
            as_aux_lemma =>
            go_wp2_with (first | ((with_reducible refine skip_op ?_ ?_); exact rfl) | (refine mL ?_; clear HM; intro g1 W1 HM))
            go_ret2
            exact ev_none HR.out HM.out.below
          | some v =>
            rw [ho] at hr
            have HR := Lib.hid (show some ([evData v], j) = r from hr)
            rw [unescO_some ho]
            clear ho hr
            as_aux_lemma =>
            go_wp2_with (first | ((with_reducible refine skip_op ?_ ?_); exact rfl) | (refine mL ?_; clear HM; intro g1 W1 HM))
            go_ret2
            exact ev_some HR.out [evM (evData v)] rfl rfl (by simp) (ev_drop1 (d := evData v) rfl HM.out)
      · have d1 : decide ((j : Int) < (S.size : Int)) = false := decide_eq_false (by omega)
        have hjk : j = k := (spE_end (p := notLt) (by rw [size_list]; omega)).symm.trans HK.out
        subst hjk
        clear HK
        go_wp2_with (first | ((with_reducible refine skip_op ?_ ?_); exact rfl) | (refine mL ?_; clear HM; intro g1 W1 HM) | ((with_reducible refine iat 83 ?_); (refine ssls rfl rfl (i := i) rfl rfl (j := j) rfl l0 l1 ?_; rw [HX.out])))
        refine (runescape_any X false _ hXs).mono ?_
        rintro e W2 ⟨rfl, hb⟩
        have HM1 := Lib.hid (HM.out.next hb)
        clear HM hb
        (try clear W1)
        have HM := HM1
        clear HM1
        have hr := HR.out
        clear HR
        cases ho : unescO false X with
        | none =>
          rw [ho] at hr
          have HR := Lib.hid (show none = r from hr)
          obtain ⟨c, hc0, hc⟩ := unescO_none ho
          rw [hc]
          have q0 : (c != 0) = true := by simpa using hc0
          clear hc ho hc0 hr
          as_aux_lemma =>
          go_wp2_with (first | ((with_reducible refine skip_op ?_ ?_); exact rfl) | (refine mL ?_; clear HM; intro g1 W1 HM))
          go_ret2
          exact ev_none HR.out HM.out.below
        | some v =>
          rw [ho] at hr
          have HR := Lib.hid (show some ([evData v], j) = r from hr)
          rw [unescO_some ho]
          clear ho hr
          as_aux_lemma =>
          go_wp2_with (first | ((with_reducible refine skip_op ?_ ?_); exact rfl) | (refine mL ?_; clear HM; intro g1 W1 HM))
          go_ret2
          exact ev_some HR.out [evM (evData v)] rfl rfl (by simp) (ev_drop1 (d := evData v) rfl HM.out)
end Go.Proofs.YtanncakdlflopaaGreatDoor
