/- mark's read, on any document. (short) -/
import Derived.Test.YtanncakdlflopaaGreatDoorMarkP
namespace Go.Proofs.YtanncakdlflopaaGreatDoor
open Go.RowKit
set_option linter.unusedVariables false
set_option linter.unusedSimpArgs false
set_option maxRecDepth 100000

theorem frame129 {a : Act} {R O : Nat} (hs : a.tmps.size = 129) (hd : a.defers = []) (h0 : a.tmps.toList.getD 0 undef = .pointer (some ⟨R, 0, none⟩)) (h3 : a.tmps.toList.getD 3 undef = .pointer (some ⟨O, 0, none⟩)) :
  ∃ v : Nat → Value, a = ⟨#[.pointer (some ⟨R, 0, none⟩), v 1, v 2, .pointer (some ⟨O, 0, none⟩), v 4, v 5, v 6, v 7, v 8, v 9, v 10, v 11, v 12, v 13, v 14, v 15, v 16, v 17, v 18, v 19, v 20, v 21, v 22, v 23, v 24, v 25, v 26, v 27, v 28, v 29, v 30, v 31, v 32, v 33, v 34, v 35, v 36, v 37, v 38, v 39, v 40, v 41, v 42, v 43, v 44, v 45, v 46, v 47, v 48, v 49, v 50, v 51, v 52, v 53, v 54, v 55, v 56, v 57, v 58, v 59, v 60, v 61, v 62, v 63, v 64, v 65, v 66, v 67, v 68, v 69, v 70, v 71, v 72, v 73, v 74, v 75, v 76, v 77, v 78, v 79, v 80, v 81, v 82, v 83, v 84, v 85, v 86, v 87, v 88, v 89, v 90, v 91, v 92, v 93, v 94, v 95, v 96, v 97, v 98, v 99, v 100, v 101, v 102, v 103, v 104, v 105, v 106, v 107, v 108, v 109, v 110, v 111, v 112, v 113, v 114, v 115, v 116, v 117, v 118, v 119, v 120, v 121, v 122, v 123, v 124, v 125, v 126, v 127, v 128], []⟩ := by
 obtain ⟨v, hv, e⟩ := frame_v hs hd
 refine ⟨v, ?_⟩
 rw [← h0, ← h3, ← hv 0, ← hv 3]
 exact e
set_option maxHeartbeats 64000000 in
theorem mread_any (w0 W : World) (R : Nat) (S : ByteArray) (r : Option (List EvD)) (hr : bodyF S = r) (hT : U8 w0) (hE : ErrsAt w0) (hX : MaxAt w0) (hs : S.size ≤ 1048576) (h : Mem w0 W [.box R 85 [.string S, .int .i64 0, .slice none 0 0, .bool false, .bool false]]) :
  Calls Tryz.prog 42 #[.pointer (some ⟨R, 0, none⟩)] W (RPost r w0 R S) := by
 have HM := Lib.hid h
 have HT := Lib.hid hT
 have HE := Lib.hid hE
 have HX := Lib.hid hX
 have HB := Lib.hid hr
 clear h hT hE hX hr
 go_enter Tryz.func42, Tryz.ntmps42
 go_wp2_with fail
 refine wp_labels2 (fun _ _ _ _ _ hh => hh) 4 (fun l m a w => ∃ O, LabI w0 R O S r l m a w) ?_ (S.size + 1) ?_
 ·clear HM HB
  rintro l m a w ⟨O, ⟨hsz, hdf, h0, h3⟩, hP⟩
  obtain ⟨v, rfl⟩ := frame129 hsz hdf h0 h3
  clear hsz hdf h0 h3
  rcases hP with ⟨rfl, i, f, ms, p, c, o1, o2, o3, o4, rfl, hi, hf, hms, hdoc, hM⟩ | ⟨rfl, k, f, g, acc, N, q, d, ms, p, c, rfl, hk, hf, hg, hms, hac, hdoc, hM⟩
  ·refine ⟨_, rfl, ?_⟩
   intro Q2 hQ hPan
   have HM := Lib.hid hM
   have HD := Lib.hid hdoc
   clear hM hdoc
   obtain ⟨f, rfl⟩ : ∃ g, f = g + 1 := ⟨f - 1, by omega⟩
   obtain ⟨lg, hlg⟩ : ∃ x, longB (outD ms) = x := ⟨_, rfl⟩
   obtain ⟨dp, hdp⟩ : ∃ x, dupB (outD ms) = x := ⟨_, rfl⟩
   rw [hlg, hdp] at HM
   have HLg := Lib.hid hlg
   have HDp := Lib.hid hdp
   clear hlg hdp
   have HOc := Lib.hid (cs_all (outC_len ms))
   have hoc := Lib.hid (outC_len ms)
   go_wp2_with fail
   by_cases hi2 : i = S.size
   ·subst hi2
    have d1 : ((S.size : Int) == (S.size : Int)) = true := by simp
    refine wp_region_mem (by kernel_rfl) (by kernel_rfl) HM.out ?_; intro hNE; (repeat (any_goals (first | ((with_reducible refine qgd ?_); (with_reducible refine skip_q ?_ ?_ ?_); (exact rfl); (rotate_left; (exact (hNE.elim fun p => ⟨p.W, p, rfl⟩)))) | refine mQ ?_ | go_big_quiet_step (fail) | quiet_step (fail)))); clear hNE; refine wpQuiet_nil ?_; intro W1 HM1; replace HM := Lib.hid HM1; clear HM1
    go_wp2_with fail
    first | refine hQ .ret _ _ (lab_ret ?_) | refine lab_ret ?_
    go_ret
    rw [show r = some (outD ms) from by rw [← HD.out, doc_end]]
    refine ⟨rfl, ms, p, c, rfl, by omega, ?_⟩
    rw [HLg.out, HDp.out]
    exact HM.out.sub (.cons_cons _ (.cons _ (.refl _)))
   have hlt : i < S.size := by omega
   have d1 : ((i : Int) == (S.size : Int)) = false := by simp; omega
   refine wp_region_mem (by kernel_rfl) (by kernel_rfl) HM.out ?_; intro hNE; (repeat (any_goals (first | ((with_reducible refine qgd ?_); (with_reducible refine skip_q ?_ ?_ ?_); (exact rfl); (rotate_left; (exact (hNE.elim fun p => ⟨p.W, p, rfl⟩)))) | refine mQ ?_ | go_big_quiet_step (fail) | quiet_step (fail)))); clear hNE; refine wpQuiet_nil ?_; intro W1 HM1; replace HM := Lib.hid HM1; clear HM1
   go_wp2_with fail
   clear d1
   cases c0 : atP [60, 33, 45, 45] S i with
   | true =>
    have l4 : i + 4 ≤ S.size := atP_le hi c0
    refine (gtakej (i + 4) ⟨#[60, 33, 45, 45]⟩ rfl hi hs c0 HM.out).mono ?_
    rintro e W2 ⟨rfl, hM⟩
    clear HM
    (try clear W1)
    have HM := Lib.hid hM
    clear hM
    go_wp2_with fail
    go_step3
    refine hQ (.goto _) _ _ ?_
    refine lab_go rfl (fun _ _ _ _ _ hh => hh) ?_
    clear hQ hPan
    intro Q3 hQ hPan
    go_wp2_with fail
    cases hu : fndL [45, 45] (S.data.toList.drop (i + 4)) with
    | none =>
     refine ((fun h => muntil_no w0 _ R _ S ⟨#[45, 45]⟩ (i + 4) _ lg dp h HX.out l4 hs hu) HM.out).mono ?_
     rintro e W2 ⟨rfl, hM⟩
     clear HM
     (try clear W1)
     have HM := Lib.hid hM
     clear hM
     skip
     go_wp2_with fail
     first | refine hQ .ret _ _ (lab_ret ?_) | refine lab_ret ?_
     go_ret
     rw [show r = none from by rw [← HD.out]; exact doc_none hlt (by rw [piece_note c0, note_none hu]; rfl)]
     exact ⟨_, i + 4, _, _, _, by omega, rfl, HM.out⟩
    | some n =>
     have l5 := fndL_le (by simp) hu
     rw [List.length_drop, size_list] at l5
     simp only [List.length_cons, List.length_nil] at l5
     have l6 : i + 4 + n + 2 ≤ S.size := by omega
     refine (guntilj (n := n) (i + 4 + n + 2) ⟨#[45, 45]⟩ rfl HX.out l4 hs (by simp) hu HM.out).mono ?_
     rintro e W2 ⟨rfl, hM⟩
     clear HM
     (try clear W1)
     have HM := Lib.hid hM
     clear hM
     go_wp2_with fail
     cases c1 : atP [62] S (i + 4 + n + 2) with
     | false =>
      refine (gnot ⟨#[62]⟩ _ rfl l6 hs c1 HM.out).mono ?_
      rintro e W2 ⟨rfl, hM⟩
      clear HM
      (try clear W1)
      have HM := Lib.hid hM
      clear hM
      skip
      go_wp2_with fail
      first | refine hQ .ret _ _ (lab_ret ?_) | refine lab_ret ?_
      go_ret
      rw [show r = none from by rw [← HD.out]; exact doc_none hlt (by rw [piece_note c0, note_no hu c1]; rfl)]
      exact ⟨_, i + 4 + n + 2, _, _, _, by omega, rfl, HM.out⟩
     | true =>
      have l7 : i + 4 + n + 3 ≤ S.size := atP_le l6 c1
      refine (gtakej (i + 4 + n + 3) ⟨#[62]⟩ rfl l6 hs c1 HM.out).mono ?_
      rintro e W2 ⟨rfl, hM⟩
      clear HM
      (try clear W1)
      have HM := Lib.hid hM
      clear hM
      go_wp2_with fail
      go_step3
      refine hQ (.goto _) _ _ ?_
      refine lab_at (S.size - (i + 4 + n + 3)) (by omega) ⟨O, ⟨rfl, rfl, rfl, rfl⟩, .inl ⟨rfl, i + 4 + n + 3, f, ms, p, c, o1, o2, o3, o4, rfl, by omega, by omega, ?_, ?_, ?_⟩⟩
      ·(try simp only [List.length_append, List.length_cons, List.length_nil]); omega
      ·rw [← HD.out, doc_some hlt (by rw [piece_note c0, note_some hu c1]; rfl), List.append_nil]
      ·rw [HLg.out, HDp.out]; exact HM.out
   | false =>
    refine (gnot ⟨#[60, 33, 45, 45]⟩ _ rfl hi hs c0 HM.out).mono ?_
    rintro e W2 ⟨rfl, hM⟩
    clear HM
    (try clear W1)
    have HM := Lib.hid hM
    clear hM
    go_wp2_with fail
    cases c1 : atP [60, 47] S i with
    | true =>
     have l2 : i + 2 ≤ S.size := atP_le hi c1
     refine (gtakej (i + 2) ⟨#[60, 47]⟩ rfl hi hs c1 HM.out).mono ?_
     rintro e W2 ⟨rfl, hM⟩
     clear HM
     (try clear W1)
     have HM := Lib.hid hM
     clear hM
     go_wp2_with fail
     go_step3
     refine hQ (.goto _) _ _ ?_
     refine lab_go rfl (fun _ _ _ _ _ hh => hh) ?_
     clear hQ hPan
     intro Q3 hQ hPan
     go_wp2_with fail
     have HM1 := Lib.hid (HM.out.perm (List.Perm.cons _ (List.Perm.swap _ _ _)))
     clear HM
     have HM := HM1
     clear HM1
     cases he : endF S (i + 2) with
     | none =>
      refine (mend_any w0 _ R _ S (i + 2) ms.length c p (outC ms) lg dp none (by rw [he]; rfl) hoc.out (by omega) l2 hs HM.out).mono ?_
      rintro e W2 ⟨ov, j, T2, hj, rfl, hM⟩
      clear HM
      (try clear W1)
      have HM := Lib.hid hM
      clear hM
      skip
      go_wp2_with fail
      first | refine hQ .ret _ _ (lab_ret ?_) | refine lab_ret ?_
      go_ret
      rw [show r = none from by rw [← HD.out]; exact doc_none hlt (by rw [piece_end c0 c1, he]; rfl)]
      exact ⟨_, j, _, _, _, by omega, rfl, HM.out⟩
     | some x =>
      obtain ⟨nm, j⟩ := x
      have hp : pieceF S i = some ([evClose nm], j) := by rw [piece_end c0 c1, he]; rfl
      have hj := pieceF_le hlt hp
      refine (mend_any w0 _ R _ S (i + 2) ms.length c p (outC ms) lg dp (some (_, j)) (by rw [he]; rfl) hoc.out (by omega) l2 hs HM.out).mono ?_
      rintro e W2 ⟨rfl, p2, c2, hM⟩
      clear HM
      (try clear W1)
      have HM := Lib.hid hM
      clear hM
      go_wp2_with fail
      go_step3
      refine hQ (.goto _) _ _ ?_
      refine lab_at (S.size - (j)) (by omega) ⟨O, ⟨rfl, rfl, rfl, rfl⟩, .inl ⟨rfl, j, f, (ms ++ [evM (evClose nm)]), p2, c2, o1, o2, o3, o4, rfl, by omega, by omega, ?_, ?_, ?_⟩⟩
      ·(try simp only [List.length_append, List.length_cons, List.length_nil]); omega
      ·rw [← HD.out, doc_some hlt hp, outD_snoc]; rfl
      ·rw [long_ev rfl, dup_ev rfl, HLg.out, HDp.out]; refine Mem.ev_put (d := evClose nm) rfl ?_; rw [List.length_append]; exact HM.out
    | false =>
     refine (gnot ⟨#[60, 47]⟩ _ rfl hi hs c1 HM.out).mono ?_
     rintro e W2 ⟨rfl, hM⟩
     clear HM
     (try clear W1)
     have HM := Lib.hid hM
     clear hM
     go_wp2_with fail
     cases c2 : atP [60] S i with
     | true =>
      have l2 : i + 1 ≤ S.size := atP_le hi c2
      have l3 := (insE_le l2).2
      obtain ⟨k, hk⟩ : ∃ k, insE S (i + 1) = k := ⟨_, rfl⟩
      obtain ⟨N, hN⟩ : ∃ N, S.extract (i + 1) k = N := ⟨_, rfl⟩
      rw [hk] at l3
      refine (gtakej (i + 1) ⟨#[60]⟩ rfl hi hs c2 HM.out).mono ?_
      rintro e W2 ⟨rfl, hM⟩
      clear HM
      (try clear W1)
      have HM := Lib.hid hM
      clear hM
      go_wp2_with fail
      go_step3
      refine hQ (.goto _) _ _ ?_
      refine lab_go rfl (fun _ _ _ _ _ hh => hh) ?_
      clear hQ hPan
      intro Q3 hQ hPan
      go_wp2_with (first | ((with_reducible refine skip_op ?_ ?_); exact rfl) | refine mP ?_ | (refine mS ?_; clear HM; intro W1 HM) | (refine mL ?_; clear HM; intro g1 W1 HM) | (refine hal HM rfl ?_; clear HM; intro g1 W1 HM))
      cases hn : nameM N with
      | false =>
       refine (gword _ rfl l2 hs hk hN hn HM.out).mono ?_
       rintro e W2 ⟨rfl, hM⟩
       clear HM
       (try clear W1)
       have HM := Lib.hid hM
       clear hM
       skip
       go_wp2_with fail
       first | refine hQ .ret _ _ (lab_ret ?_) | refine lab_ret ?_
       go_ret
       rw [show r = none from by rw [← HD.out]; exact doc_none hlt (piece_noname c0 c1 c2 hk hN hn)]
       exact ⟨_, k, _, _, _, by omega, rfl, HM.out⟩
      | true =>
       have l4 := name_some (hN ▸ hn)
       refine (gword _ rfl l2 hs hk hN hn HM.out).mono ?_
       rintro e W2 ⟨rfl, hM⟩
       clear HM
       (try clear W1)
       have HM := Lib.hid hM
       clear hM
       go_wp2_with (first | ((with_reducible refine skip_op ?_ ?_); exact rfl) | refine mP ?_ | (refine mS ?_; clear HM; intro W1 HM) | (refine mL ?_; clear HM; intro g1 W1 HM) | (refine hal HM rfl ?_; clear HM; intro g1 W1 HM))
       go_step3
       refine hQ (.goto _) _ _ ?_
       refine lab_at (S.size - k) (by omega) ⟨O, ⟨rfl, rfl, rfl, rfl⟩, .inr ⟨rfl, k, S.size + 1, f, [], N, none, 0, ms, p, c, rfl, l3, by omega, by omega, by omega, by simp, ?_, ?_⟩⟩
       ·rw [← HD.out, doc_open hlt c0 c1 c2 hk hN hn]
       ·rw [show (longB (outD ms) || decide (16 < ([] : List AtD).length)) = lg by rw [HLg.out]; simp, show (dupB (outD ms) || dupA []) = dp by rw [HDp.out]; simp [dupA]]
        exact (HM.out.row0 44 2).perm ((List.Perm.swap _ _ _).trans (List.Perm.cons _ (List.Perm.swap _ _ _)))
     | false =>
      refine (gnot ⟨#[60]⟩ _ rfl hi hs c2 HM.out).mono ?_
      rintro e W2 ⟨rfl, hM⟩
      clear HM
      (try clear W1)
      have HM := Lib.hid hM
      clear hM
      go_wp2_with fail
      have HM1 := Lib.hid (HM.out.perm (List.Perm.cons _ (List.Perm.swap _ _ _)))
      clear HM
      have HM := HM1
      clear HM1
      obtain ⟨x, hx⟩ : ∃ x, dataF S i = x := ⟨_, rfl⟩
      have hd := mdata_any w0 _ R _ S i ms.length c p (outC ms) lg dp hoc.out (by omega) HT.out HE.out hi hs HM.out
      rw [hx] at hd
      cases x with
      | none =>
       refine hd.mono ?_
       rintro e W2 ⟨ov, j, T2, hj, rfl, hM⟩
       clear HM hd
       (try clear W1)
       have HM := Lib.hid hM
       clear hM
       go_wp2_with fail
       first | refine hQ .ret _ _ (lab_ret ?_) | refine lab_ret ?_
       go_ret
       rw [show r = none from by rw [← HD.out]; exact doc_none hlt (by rw [piece_data c0 c1 c2, hx]; rfl)]
       exact ⟨_, j, _, _, _, by omega, rfl, HM.out⟩
      | some x =>
       obtain ⟨v2, j⟩ := x
       have hp : pieceF S i = some ([evData v2], j) := by rw [piece_data c0 c1 c2, hx]; rfl
       have hj := pieceF_le hlt hp
       refine hd.mono ?_
       rintro e W2 ⟨rfl, p2, c2, hM⟩
       clear HM hd
       (try clear W1)
       have HM := Lib.hid hM
       clear hM
       go_wp2_with fail
       go_step3
       refine hQ (.goto _) _ _ ?_
       refine lab_at (S.size - j) (by omega) ⟨O, ⟨rfl, rfl, rfl, rfl⟩, .inl ⟨rfl, j, f, (ms ++ [evM (evData v2)]), p2, c2, o1, o2, o3, o4, rfl, by omega, by omega, ?_, ?_, ?_⟩⟩
       ·(try simp only [List.length_append, List.length_cons, List.length_nil]); omega
       ·rw [← HD.out, doc_some hlt hp, outD_snoc]; rfl
       ·rw [long_ev rfl, dup_ev rfl, HLg.out, HDp.out]; refine Mem.ev_put (d := evData v2) rfl ?_; rw [List.length_append]; exact HM.out
  ·refine ⟨_, rfl, ?_⟩
   intro Q2 hQ hPan
   have HM := Lib.hid hM
   have HD := Lib.hid hdoc
   clear hM hdoc
   obtain ⟨f, rfl⟩ : ∃ g, f = g + 1 := ⟨f - 1, by omega⟩
   obtain ⟨lg, hlg⟩ : ∃ x, (longB (outD ms) || decide (16 < acc.length)) = x := ⟨_, rfl⟩
   obtain ⟨dp, hdp⟩ : ∃ x, (dupB (outD ms) || dupA acc) = x := ⟨_, rfl⟩
   rw [hlg, hdp] at HM
   have HLg := Lib.hid hlg
   have HDp := Lib.hid hdp
   clear hlg hdp
   have HOc := Lib.hid (cs_all (outC_len ms))
   obtain ⟨a, ha⟩ : ∃ a, blkE S k = a := ⟨_, rfl⟩
   have ea := blkE_le hk
   rw [ha] at ea
   obtain ⟨ea1, ea2⟩ := ea
   go_wp2_with fail
   by_cases hka : k < a
   ·by_cases has : a < S.size
    ·obtain ⟨b, hb⟩ : ∃ b, S.data.toList[a]? = some b := ⟨_, List.getElem?_eq_getElem (by rw [size_list]; exact has)⟩
     have HBi := Lib.hid hb
     have d2 : decide ((a : Int) < (S.size : Int)) = true := decide_eq_true (by omega)
     have HIn := Lib.hid (fun W => minside_any (b.toNat : Int) W)
     cases hp : insU b with
     | false =>
      have HF := Lib.hid (show atP [62] S a = false → atP [47, 62] S a = false → attrsF S (f + 1) k acc = none from fun h1 h2 => attrs_none ha h1 h2 (attr_no fun b2 hb2 => by rw [hb] at hb2; cases hb2; exact hp))
      unfold insU at hp
      rw [hp] at HIn
      clear hb hp
      refine wp_region_pre [0, 1, 2] [(true, 3), (true, 4), (true, 5), (true, 6), (true, 7), (true, 8), (true, 9), (true, 10), (true, 11), (true, 12), (true, 13), (true, 14), (true, 15), (true, 16), (true, 17), (true, 18), (true, 19), (true, 20), (true, 21), (true, 22), (true, 23), (false, 24), (true, 25)] (by kernel_rfl) (by kernel_rfl) rfl (by kernel_rfl) (fun _ _ _ _ _ h => hPan _ _ _ _ _ h) HM.out ?_
      intro W1 HM1; replace HM := Lib.hid HM1; clear HM1
      simp only [wpPre, List.getElem?_cons_succ, List.getElem?_cons_zero]
      go_wp2_with (first | (go_at_call 64; refine (gblanksv true hk hs ha (by first | exact decide_eq_true (by omega) | exact decide_eq_false (by omega)) HM.out).mono ?_; rintro e W2 ⟨rfl, hM⟩; clear HM; (try clear W1); rename World => W1; have HM := Lib.hid hM; clear hM))
      refine ⟨trivial, ?_⟩
      (try dsimp only)
      go_wp2_with (first | (go_at_call 64; refine (gblanksv true hk hs ha (by first | exact decide_eq_true (by omega) | exact decide_eq_false (by omega)) HM.out).mono ?_; rintro e W2 ⟨rfl, hM⟩; clear HM; (try clear W1); rename World => W1; have HM := Lib.hid hM; clear hM))
      refine ⟨trivial, ?_⟩
      (try dsimp only)
      go_wp2_with (first | (go_at_call 64; refine (gblanksv true hk hs ha (by first | exact decide_eq_true (by omega) | exact decide_eq_false (by omega)) HM.out).mono ?_; rintro e W2 ⟨rfl, hM⟩; clear HM; (try clear W1); rename World => W1; have HM := Lib.hid hM; clear hM))
      refine ⟨trivial, ?_⟩
      (try dsimp only)
      refine pre_end (HM.out.sub (.cons_cons _ (List.nil_sublist _))) ?_
      intro hNE
      have HS0 := Lib.hid (HM.out.sub (.cons_cons _ (List.nil_sublist _)))
      simp only [wpSteps, List.getElem?_cons_succ, List.getElem?_cons_zero]
      (repeat (first | ((with_reducible refine wpQuiet_nil ?_); (try dsimp only)) | ((with_reducible refine qgd ?_); (with_reducible refine skip_q ?_ ?_ ?_); (exact rfl); (rotate_left; (exact (hNE.elim fun p => ⟨p.W, p, rfl⟩)))) | refine mQ ?_ | ((with_reducible refine qload ?_); first | (refine qdb1 HS0.out 0 rfl rfl rfl ?_) | (refine qdbW HS0.out 0 rfl rfl rfl ?_) | (refine qdbS HS0.out 0 rfl rfl rfl ?_; simp only [List.take, List.drop])) | ((with_reducible refine qat 90 ?_); (refine qsix rfl rfl rfl HBi.out ?_)) | go_big_quiet_step (fail) | quiet_step (fail)))
      go_wp2_with (first | ((with_reducible refine igd ?_); (with_reducible refine skip_op ?_ ?_); (exact rfl)) | (go_at_call 69; with_reducible refine cQ (HIn.out _) ?_))
      refine ⟨⟨⟨_, HM.out.sub (by repeat (first | exact List.nil_sublist _ | with_reducible refine List.Sublist.cons_cons _ ?_ | refine List.Sublist.cons _ ?_))⟩, rfl⟩, ?_⟩
      (try dsimp only)
      (repeat (first | ((with_reducible refine wpQuiet_nil ?_); (try dsimp only)) | ((with_reducible refine qgd ?_); (with_reducible refine skip_q ?_ ?_ ?_); (exact rfl); (rotate_left; (exact (hNE.elim fun p => ⟨p.W, p, rfl⟩)))) | refine mQ ?_ | ((with_reducible refine qload ?_); first | (refine qdb1 HS0.out 0 rfl rfl rfl ?_) | (refine qdbW HS0.out 0 rfl rfl rfl ?_) | (refine qdbS HS0.out 0 rfl rfl rfl ?_; simp only [List.take, List.drop])) | ((with_reducible refine qat 90 ?_); (refine qsix rfl rfl rfl HBi.out ?_)) | go_big_quiet_step (fail) | quiet_step (fail)))
      clear HS0 hNE
      go_wp2_with fail
      clear d2
      cases c1 : atP [62] S a with
      | true =>
       have l7 : a + 1 ≤ S.size := atP_le ea2 c1
       obtain ⟨a1, ha1⟩ : ∃ x, a + 1 = x := ⟨_, rfl⟩
       have HA1 := Lib.hid ha1
       rw [ha1] at l7
       clear ha1
       refine (gtakej a1 ⟨#[62]⟩ HA1.out ea2 hs c1 HM.out).mono ?_
       rintro e W2 ⟨rfl, hM⟩
       clear HM
       (try clear W1)
       have HM := Lib.hid hM
       clear hM
       go_wp2_with fail
       refine wp_region_mem3 10 [(0, 0), (0, 1), (0, 2), (0, 3), (0, 4), (0, 5), (2, 6), (2, 7), (1, 8), (1, 9), (3, 10)] (by kernel_rfl) (by kernel_rfl) rfl (by kernel_rfl) (fun _ _ _ _ _ h => hPan _ _ _ _ _ h) HM.out _ (.cons_cons _ (.cons_cons _ (.cons _ (.cons _ (List.nil_sublist _))))) ?_
       intro hNE W1 HM1; replace HM := Lib.hid HM1; clear HM1
       have HS0 := Lib.hid (HM.out.sub (.cons_cons _ (.cons_cons _ (.cons _ (.cons _ (List.nil_sublist _))))))
       simp only [wpSteps3, List.getElem?_cons_succ, List.getElem?_cons_zero]
       (repeat (first | ((with_reducible refine wpQuiet_nil ?_); (try dsimp only)) | refine mQ ?_ | go_big_quiet_step (fail) | quiet_step (fail)))
       go_wp2_with (first | (refine mL ?_; clear HM; intro g1 W1 HM))
       refine ⟨⟨⟨_, HM.out.sub (by repeat (first | exact List.nil_sublist _ | with_reducible refine List.Sublist.cons_cons _ ?_ | refine List.Sublist.cons _ ?_))⟩, rfl⟩, ?_⟩
       (try dsimp only)
       go_wp2_with (first | (refine apb rfl HM.out 4 0 rfl rfl rfl rfl rfl rfl (by omega) (by omega) (by omega) ?_; intro p1 cap1 W1 HM1; replace HM := Lib.hid HM1; clear HM1; simp only [List.set] at HM))
       refine ⟨⟨⟨_, HM.out.sub (by repeat (first | exact List.nil_sublist _ | with_reducible refine List.Sublist.cons_cons _ ?_ | refine List.Sublist.cons _ ?_))⟩, rfl⟩, ?_⟩
       (try dsimp only)
       (repeat (first | ((with_reducible refine wpQuiet_nil ?_); (try dsimp only)) | refine mQ ?_ | go_big_quiet_step (fail) | quiet_step (fail)))
       go_wp2_with (first | (refine mS ?_; clear HM; intro W1 HM))
       refine ⟨trivial, ?_⟩
       (try dsimp only)
       clear HS0 hNE
       go_wp2_with fail
       have HM2 := HM.out
       rw [HOc.out] at HM2
       clear HM
       have HM := Lib.hid (HM2.sub (.cons _ (.refl _)))
       clear HM2
       go_step3
       refine hQ (.goto _) _ _ ?_
       refine lab_at (S.size - (a1)) (by have := HA1.out; omega) ⟨O, ⟨rfl, rfl, rfl, rfl⟩, .inl ⟨rfl, a1, g, (ms ++ [⟨evOpen N acc, q, d⟩]), p1, cap1, .int .i64 1, .string N, .slice q acc.length d, .string ⟨#[]⟩, rfl, by have := HA1.out; omega, by have := HA1.out; omega, ?_, ?_, ?_⟩⟩
       ·(try simp only [List.length_append, List.length_cons, List.length_nil]); have := HA1.out; omega
       ·rw [← HD.out, attrs_gt ha c1, outD_snoc, HA1.out]; rfl
       ·rw [long_op2, dup_op2, HLg.out, HDp.out]; refine Mem.op_put (x := ⟨evOpen N acc, q, d⟩) ?_; rw [List.length_append]; exact HM.out
      | false =>
       refine (gnot ⟨#[62]⟩ _ rfl ea2 hs c1 HM.out).mono ?_
       rintro e W2 ⟨rfl, hM⟩
       clear HM
       (try clear W1)
       have HM := Lib.hid hM
       clear hM
       go_wp2_with fail
       cases c2 : atP [47, 62] S a with
       | true =>
        have l7 : a + 2 ≤ S.size := atP_le ea2 c2
        obtain ⟨a1, ha1⟩ : ∃ x, a + 2 = x := ⟨_, rfl⟩
        have HA1 := Lib.hid ha1
        rw [ha1] at l7
        clear ha1
        refine (gtakej a1 ⟨#[47, 62]⟩ HA1.out ea2 hs c2 HM.out).mono ?_
        rintro e W2 ⟨rfl, hM⟩
        clear HM
        (try clear W1)
        have HM := Lib.hid hM
        clear hM
        go_wp2_with fail
        refine wp_region_mem3 13 [(0, 0), (0, 1), (0, 2), (0, 3), (0, 4), (0, 5), (0, 6), (0, 7), (0, 8), (2, 9), (2, 10), (1, 11), (1, 12), (3, 13)] (by kernel_rfl) (by kernel_rfl) rfl (by kernel_rfl) (fun _ _ _ _ _ h => hPan _ _ _ _ _ h) HM.out _ (.cons_cons _ (.cons_cons _ (.cons _ (.cons _ (List.nil_sublist _))))) ?_
        intro hNE W1 HM1; replace HM := Lib.hid HM1; clear HM1
        have HS0 := Lib.hid (HM.out.sub (.cons_cons _ (.cons_cons _ (.cons _ (.cons _ (List.nil_sublist _))))))
        simp only [wpSteps3, List.getElem?_cons_succ, List.getElem?_cons_zero]
        (repeat (first | ((with_reducible refine wpQuiet_nil ?_); (try dsimp only)) | refine mQ ?_ | go_big_quiet_step (fail) | quiet_step (fail)))
        go_wp2_with (first | (refine bs2E rfl HM.out rfl rfl ?_; intro g1 W1 HM1; replace HM := Lib.hid HM1; clear HM1) | (refine mL ?_; clear HM; intro g1 W1 HM))
        refine ⟨⟨⟨_, HM.out.sub (by repeat (first | exact List.nil_sublist _ | with_reducible refine List.Sublist.cons_cons _ ?_ | refine List.Sublist.cons _ ?_))⟩, rfl⟩, ?_⟩
        (try dsimp only)
        go_wp2_with (first | (refine apb rfl HM.out 4 0 rfl rfl rfl rfl rfl rfl (by omega) (by omega) (by omega) ?_; intro p1 cap1 W1 HM1; replace HM := Lib.hid HM1; clear HM1; simp only [List.set] at HM))
        refine ⟨⟨⟨_, HM.out.sub (by repeat (first | exact List.nil_sublist _ | with_reducible refine List.Sublist.cons_cons _ ?_ | refine List.Sublist.cons _ ?_))⟩, rfl⟩, ?_⟩
        (try dsimp only)
        (repeat (first | ((with_reducible refine wpQuiet_nil ?_); (try dsimp only)) | refine mQ ?_ | go_big_quiet_step (fail) | quiet_step (fail)))
        go_wp2_with (first | (refine mS ?_; clear HM; intro W1 HM))
        refine ⟨trivial, ?_⟩
        (try dsimp only)
        clear HS0 hNE
        go_wp2_with fail
        have HM2 := HM.out
        rw [HOc.out] at HM2
        clear HM
        have HM := Lib.hid (HM2.sub (.cons _ (.refl _)))
        clear HM2
        go_step3
        refine hQ (.goto _) _ _ ?_
        refine lab_at (S.size - (a1)) (by have := HA1.out; omega) ⟨O, ⟨rfl, rfl, rfl, rfl⟩, .inl ⟨rfl, a1, g, (ms ++ [⟨evOpen N acc, q, d⟩] ++ [evM (evClose N)]), p1, cap1, .int .i64 1, .string N, .slice q acc.length d, .string ⟨#[]⟩, rfl, by have := HA1.out; omega, by have := HA1.out; omega, ?_, ?_, ?_⟩⟩
        ·(try simp only [List.length_append, List.length_cons, List.length_nil]); have := HA1.out; omega
        ·rw [← HD.out, attrs_end ha c1 c2, outD_snoc, outD_snoc, List.append_assoc, HA1.out]; rfl
        ·rw [long_ev rfl, dup_ev rfl, long_op2, dup_op2, HLg.out, HDp.out]; refine Mem.op_put2 (x := ⟨evOpen N acc, q, d⟩) (d := evClose N) rfl ?_; rw [List.length_append, List.length_append]; exact HM.out
       | false =>
        refine (gnot ⟨#[47, 62]⟩ _ rfl ea2 hs c2 HM.out).mono ?_
        rintro e W2 ⟨rfl, hM⟩
        clear HM
        (try clear W1)
        have HM := Lib.hid hM
        clear hM
        skip
        go_wp2_with fail
        first | refine hQ .ret _ _ (lab_ret ?_) | refine lab_ret ?_
        go_ret
        rw [show r = none from by rw [← HD.out, HF.out c1 c2]; rfl]
        exact ⟨_, a, _, _, _, by omega, rfl, HM.out⟩
     | true =>
      have c1 : atP [62] S a = false := by
       cases h : atP [62] S a with
       | false => rfl
       | true =>
        have := atP_byte h
        rw [hb] at this
        cases this
        exact absurd hp (by decide)
      have c2 : atP [47, 62] S a = false := by
       cases h : atP [47, 62] S a with
       | false => rfl
       | true =>
        have := atP_byte h
        rw [hb] at this
        cases this
        exact absurd hp (by decide)
      unfold insU at hp
      rw [hp] at HIn
      clear hb hp
      refine wp_region_pre [0, 1, 2] [(true, 3), (true, 4), (true, 5), (true, 6), (true, 7), (true, 8), (true, 9), (true, 10), (true, 11), (true, 12), (true, 13), (true, 14), (true, 15), (true, 16), (true, 17), (true, 18), (true, 19), (true, 20), (true, 21), (true, 22), (true, 23), (false, 24), (true, 25)] (by kernel_rfl) (by kernel_rfl) rfl (by kernel_rfl) (fun _ _ _ _ _ h => hPan _ _ _ _ _ h) HM.out ?_
      intro W1 HM1; replace HM := Lib.hid HM1; clear HM1
      simp only [wpPre, List.getElem?_cons_succ, List.getElem?_cons_zero]
      go_wp2_with (first | (go_at_call 64; refine (gblanksv true hk hs ha (by first | exact decide_eq_true (by omega) | exact decide_eq_false (by omega)) HM.out).mono ?_; rintro e W2 ⟨rfl, hM⟩; clear HM; (try clear W1); rename World => W1; have HM := Lib.hid hM; clear hM))
      refine ⟨trivial, ?_⟩
      (try dsimp only)
      go_wp2_with (first | (go_at_call 64; refine (gblanksv true hk hs ha (by first | exact decide_eq_true (by omega) | exact decide_eq_false (by omega)) HM.out).mono ?_; rintro e W2 ⟨rfl, hM⟩; clear HM; (try clear W1); rename World => W1; have HM := Lib.hid hM; clear hM))
      refine ⟨trivial, ?_⟩
      (try dsimp only)
      go_wp2_with (first | (go_at_call 64; refine (gblanksv true hk hs ha (by first | exact decide_eq_true (by omega) | exact decide_eq_false (by omega)) HM.out).mono ?_; rintro e W2 ⟨rfl, hM⟩; clear HM; (try clear W1); rename World => W1; have HM := Lib.hid hM; clear hM))
      refine ⟨trivial, ?_⟩
      (try dsimp only)
      refine pre_end (HM.out.sub (.cons_cons _ (List.nil_sublist _))) ?_
      intro hNE
      have HS0 := Lib.hid (HM.out.sub (.cons_cons _ (List.nil_sublist _)))
      simp only [wpSteps, List.getElem?_cons_succ, List.getElem?_cons_zero]
      (repeat (first | ((with_reducible refine wpQuiet_nil ?_); (try dsimp only)) | ((with_reducible refine qgd ?_); (with_reducible refine skip_q ?_ ?_ ?_); (exact rfl); (rotate_left; (exact (hNE.elim fun p => ⟨p.W, p, rfl⟩)))) | refine mQ ?_ | ((with_reducible refine qload ?_); first | (refine qdb1 HS0.out 0 rfl rfl rfl ?_) | (refine qdbW HS0.out 0 rfl rfl rfl ?_) | (refine qdbS HS0.out 0 rfl rfl rfl ?_; simp only [List.take, List.drop])) | ((with_reducible refine qat 90 ?_); (refine qsix rfl rfl rfl HBi.out ?_)) | go_big_quiet_step (fail) | quiet_step (fail)))
      go_wp2_with (first | ((with_reducible refine igd ?_); (with_reducible refine skip_op ?_ ?_); (exact rfl)) | (go_at_call 69; with_reducible refine cQ (HIn.out _) ?_))
      refine ⟨⟨⟨_, HM.out.sub (by repeat (first | exact List.nil_sublist _ | with_reducible refine List.Sublist.cons_cons _ ?_ | refine List.Sublist.cons _ ?_))⟩, rfl⟩, ?_⟩
      (try dsimp only)
      (repeat (first | ((with_reducible refine wpQuiet_nil ?_); (try dsimp only)) | ((with_reducible refine qgd ?_); (with_reducible refine skip_q ?_ ?_ ?_); (exact rfl); (rotate_left; (exact (hNE.elim fun p => ⟨p.W, p, rfl⟩)))) | refine mQ ?_ | ((with_reducible refine qload ?_); first | (refine qdb1 HS0.out 0 rfl rfl rfl ?_) | (refine qdbW HS0.out 0 rfl rfl rfl ?_) | (refine qdbS HS0.out 0 rfl rfl rfl ?_; simp only [List.take, List.drop])) | ((with_reducible refine qat 90 ?_); (refine qsix rfl rfl rfl HBi.out ?_)) | go_big_quiet_step (fail) | quiet_step (fail)))
      clear HS0 hNE
      go_wp2_with fail
      clear d2
      go_step3
      refine hQ (.goto _) _ _ ?_
      refine lab_go rfl (fun _ _ _ _ _ hh => hh) ?_
      clear hQ hPan
      intro Q3 hQ hPan
      go_wp2_with fail
      cases hA : attrF S a with
      | none =>
       refine (mattr_any w0 _ R _ S a _ lg dp none hA HT.out HE.out HX.out ea2 hs HM.out).mono ?_
       rintro e W2 ⟨an, av, j, hj, rfl, hM⟩
       clear HM
       (try clear W1)
       have HM := Lib.hid hM
       clear hM
       skip
       go_wp2_with (first | ((with_reducible refine skip_op ?_ ?_); exact rfl) | refine mP ?_ | (refine mS ?_; clear HM; intro W1 HM) | (refine mL ?_; clear HM; intro g1 W1 HM) | (refine hal (dst := some 10) HM rfl ?_; clear HM; intro g10 W1 HM) | (refine hal HM rfl ?_; clear HM; intro g1 W1 HM))
       first | refine hQ .ret _ _ (lab_ret ?_) | refine lab_ret ?_
       go_ret
       rw [show r = none from by rw [← HD.out, attrs_none ha c1 c2 hA]; rfl]
       exact ⟨_, j, _, _, _, by omega, rfl, HM.out.perm (List.Perm.swap _ _ _)⟩
      | some x =>
       obtain ⟨x, j⟩ := x
       have hj := attrF_le ea2 hA
       refine (mattr_any w0 _ R _ S a _ lg dp (some (x, j)) hA HT.out HE.out HX.out ea2 hs HM.out).mono ?_
       rintro e W2 ⟨rfl, hM⟩
       clear HM
       (try clear W1)
       have HM := Lib.hid hM
       clear hM
       go_wp2_with (first | ((with_reducible refine skip_op ?_ ?_); exact rfl) | refine mP ?_ | (refine mS ?_; clear HM; intro W1 HM) | (refine mL ?_; clear HM; intro g1 W1 HM) | (refine hal (dst := some 10) HM rfl ?_; clear HM; intro g10 W1 HM) | (refine hal HM rfl ?_; clear HM; intro g1 W1 HM))
       refine (madd_any w0 _ R O _ S N j _ lg dp q d acc x (by omega) (HM.out.sub (.cons _ (.refl _)))).mono ?_
       rintro e W3 ⟨rfl, q2, d2, hM⟩
       clear HM
       (try clear W1)
       have HM := Lib.hid hM
       clear hM
       go_wp2_with fail
       go_step3
       refine hQ (.goto _) _ _ ?_
       refine lab_at (S.size - j) (by omega) ⟨O, ⟨rfl, rfl, rfl, rfl⟩, .inr ⟨rfl, j, f, g, acc ++ [x], N, q2, d2, ms, p, c, rfl, hj.2, by omega, by omega, by omega, ?_, ?_, ?_⟩⟩
       ·rw [List.length_append]; simp only [List.length_cons, List.length_nil]; omega
       ·rw [← HD.out, attrs_more ha hka c1 c2 hA]
       ·rw [dupA_snoc, ← Bool.or_assoc, HDp.out, long_more2, HLg.out, List.length_append]; exact HM.out
    ·obtain rfl : a = S.size := by omega
     have d2 : decide ((S.size : Int) < (S.size : Int)) = false := by simp
     have HF := Lib.hid (show atP [62] S S.size = false → atP [47, 62] S S.size = false → attrsF S (f + 1) k acc = none from fun h1 h2 => attrs_none ha h1 h2 (attr_no fun b2 hb2 => by rw [List.getElem?_eq_none (by rw [size_list]; exact Nat.le_refl _)] at hb2; cases hb2))
     refine wp_region_pre [0, 1, 2] [(true, 3), (true, 4), (true, 5), (true, 6), (true, 7), (true, 8), (true, 9), (true, 10), (true, 11), (true, 12), (true, 13), (true, 14), (true, 15), (true, 16), (true, 17), (true, 18), (true, 19), (true, 20), (true, 21), (true, 22), (true, 23), (false, 24), (true, 25)] (by kernel_rfl) (by kernel_rfl) rfl (by kernel_rfl) (fun _ _ _ _ _ h => hPan _ _ _ _ _ h) HM.out ?_
     intro W1 HM1; replace HM := Lib.hid HM1; clear HM1
     simp only [wpPre, List.getElem?_cons_succ, List.getElem?_cons_zero]
     go_wp2_with (first | (go_at_call 64; refine (gblanksv true hk hs ha (by first | exact decide_eq_true (by omega) | exact decide_eq_false (by omega)) HM.out).mono ?_; rintro e W2 ⟨rfl, hM⟩; clear HM; (try clear W1); rename World => W1; have HM := Lib.hid hM; clear hM))
     refine ⟨trivial, ?_⟩
     (try dsimp only)
     go_wp2_with (first | (go_at_call 64; refine (gblanksv true hk hs ha (by first | exact decide_eq_true (by omega) | exact decide_eq_false (by omega)) HM.out).mono ?_; rintro e W2 ⟨rfl, hM⟩; clear HM; (try clear W1); rename World => W1; have HM := Lib.hid hM; clear hM))
     refine ⟨trivial, ?_⟩
     (try dsimp only)
     go_wp2_with (first | (go_at_call 64; refine (gblanksv true hk hs ha (by first | exact decide_eq_true (by omega) | exact decide_eq_false (by omega)) HM.out).mono ?_; rintro e W2 ⟨rfl, hM⟩; clear HM; (try clear W1); rename World => W1; have HM := Lib.hid hM; clear hM))
     refine ⟨trivial, ?_⟩
     (try dsimp only)
     refine pre_end (HM.out.sub (.cons_cons _ (List.nil_sublist _))) ?_
     intro hNE
     have HS0 := Lib.hid (HM.out.sub (.cons_cons _ (List.nil_sublist _)))
     simp only [wpSteps, List.getElem?_cons_succ, List.getElem?_cons_zero]
     (repeat (first | ((with_reducible refine wpQuiet_nil ?_); (try dsimp only)) | ((with_reducible refine qgd ?_); (with_reducible refine skip_q ?_ ?_ ?_); (exact rfl); (rotate_left; (exact (hNE.elim fun p => ⟨p.W, p, rfl⟩)))) | refine mQ ?_ | ((with_reducible refine qload ?_); first | (refine qdb1 HS0.out 0 rfl rfl rfl ?_) | (refine qdbW HS0.out 0 rfl rfl rfl ?_) | (refine qdbS HS0.out 0 rfl rfl rfl ?_; simp only [List.take, List.drop])) | go_big_quiet_step (fail) | quiet_step (fail)))
     go_wp2_with (first | ((with_reducible refine igd ?_); (with_reducible refine skip_op ?_ ?_); (exact rfl)) | fail)
     refine ⟨⟨⟨_, HM.out.sub (by repeat (first | exact List.nil_sublist _ | with_reducible refine List.Sublist.cons_cons _ ?_ | refine List.Sublist.cons _ ?_))⟩, rfl⟩, ?_⟩
     (try dsimp only)
     (repeat (first | ((with_reducible refine wpQuiet_nil ?_); (try dsimp only)) | ((with_reducible refine qgd ?_); (with_reducible refine skip_q ?_ ?_ ?_); (exact rfl); (rotate_left; (exact (hNE.elim fun p => ⟨p.W, p, rfl⟩)))) | refine mQ ?_ | ((with_reducible refine qload ?_); first | (refine qdb1 HS0.out 0 rfl rfl rfl ?_) | (refine qdbW HS0.out 0 rfl rfl rfl ?_) | (refine qdbS HS0.out 0 rfl rfl rfl ?_; simp only [List.take, List.drop])) | go_big_quiet_step (fail) | quiet_step (fail)))
     clear HS0 hNE
     go_wp2_with fail
     clear d2
     cases c1 : atP [62] S S.size with
     | true =>
      have l7 : S.size + 1 ≤ S.size := atP_le ea2 c1
      obtain ⟨a1, ha1⟩ : ∃ x, S.size + 1 = x := ⟨_, rfl⟩
      have HA1 := Lib.hid ha1
      rw [ha1] at l7
      clear ha1
      refine (gtakej a1 ⟨#[62]⟩ HA1.out ea2 hs c1 HM.out).mono ?_
      rintro e W2 ⟨rfl, hM⟩
      clear HM
      (try clear W1)
      have HM := Lib.hid hM
      clear hM
      go_wp2_with fail
      refine wp_region_mem3 10 [(0, 0), (0, 1), (0, 2), (0, 3), (0, 4), (0, 5), (2, 6), (2, 7), (1, 8), (1, 9), (3, 10)] (by kernel_rfl) (by kernel_rfl) rfl (by kernel_rfl) (fun _ _ _ _ _ h => hPan _ _ _ _ _ h) HM.out _ (.cons_cons _ (.cons_cons _ (.cons _ (.cons _ (List.nil_sublist _))))) ?_
      intro hNE W1 HM1; replace HM := Lib.hid HM1; clear HM1
      have HS0 := Lib.hid (HM.out.sub (.cons_cons _ (.cons_cons _ (.cons _ (.cons _ (List.nil_sublist _))))))
      simp only [wpSteps3, List.getElem?_cons_succ, List.getElem?_cons_zero]
      (repeat (first | ((with_reducible refine wpQuiet_nil ?_); (try dsimp only)) | refine mQ ?_ | go_big_quiet_step (fail) | quiet_step (fail)))
      go_wp2_with (first | (refine mL ?_; clear HM; intro g1 W1 HM))
      refine ⟨⟨⟨_, HM.out.sub (by repeat (first | exact List.nil_sublist _ | with_reducible refine List.Sublist.cons_cons _ ?_ | refine List.Sublist.cons _ ?_))⟩, rfl⟩, ?_⟩
      (try dsimp only)
      go_wp2_with (first | (refine apb rfl HM.out 4 0 rfl rfl rfl rfl rfl rfl (by omega) (by omega) (by omega) ?_; intro p1 cap1 W1 HM1; replace HM := Lib.hid HM1; clear HM1; simp only [List.set] at HM))
      refine ⟨⟨⟨_, HM.out.sub (by repeat (first | exact List.nil_sublist _ | with_reducible refine List.Sublist.cons_cons _ ?_ | refine List.Sublist.cons _ ?_))⟩, rfl⟩, ?_⟩
      (try dsimp only)
      (repeat (first | ((with_reducible refine wpQuiet_nil ?_); (try dsimp only)) | refine mQ ?_ | go_big_quiet_step (fail) | quiet_step (fail)))
      go_wp2_with (first | (refine mS ?_; clear HM; intro W1 HM))
      refine ⟨trivial, ?_⟩
      (try dsimp only)
      clear HS0 hNE
      go_wp2_with fail
      have HM2 := HM.out
      rw [HOc.out] at HM2
      clear HM
      have HM := Lib.hid (HM2.sub (.cons _ (.refl _)))
      clear HM2
      go_step3
      refine hQ (.goto _) _ _ ?_
      refine lab_at (S.size - (a1)) (by have := HA1.out; omega) ⟨O, ⟨rfl, rfl, rfl, rfl⟩, .inl ⟨rfl, a1, g, (ms ++ [⟨evOpen N acc, q, d⟩]), p1, cap1, .int .i64 1, .string N, .slice q acc.length d, .string ⟨#[]⟩, rfl, by have := HA1.out; omega, by have := HA1.out; omega, ?_, ?_, ?_⟩⟩
      ·(try simp only [List.length_append, List.length_cons, List.length_nil]); have := HA1.out; omega
      ·rw [← HD.out, attrs_gt ha c1, outD_snoc, HA1.out]; rfl
      ·rw [long_op2, dup_op2, HLg.out, HDp.out]; refine Mem.op_put (x := ⟨evOpen N acc, q, d⟩) ?_; rw [List.length_append]; exact HM.out
     | false =>
      refine (gnot ⟨#[62]⟩ _ rfl ea2 hs c1 HM.out).mono ?_
      rintro e W2 ⟨rfl, hM⟩
      clear HM
      (try clear W1)
      have HM := Lib.hid hM
      clear hM
      go_wp2_with fail
      cases c2 : atP [47, 62] S S.size with
      | true =>
       have l7 : S.size + 2 ≤ S.size := atP_le ea2 c2
       obtain ⟨a1, ha1⟩ : ∃ x, S.size + 2 = x := ⟨_, rfl⟩
       have HA1 := Lib.hid ha1
       rw [ha1] at l7
       clear ha1
       refine (gtakej a1 ⟨#[47, 62]⟩ HA1.out ea2 hs c2 HM.out).mono ?_
       rintro e W2 ⟨rfl, hM⟩
       clear HM
       (try clear W1)
       have HM := Lib.hid hM
       clear hM
       go_wp2_with fail
       refine wp_region_mem3 13 [(0, 0), (0, 1), (0, 2), (0, 3), (0, 4), (0, 5), (0, 6), (0, 7), (0, 8), (2, 9), (2, 10), (1, 11), (1, 12), (3, 13)] (by kernel_rfl) (by kernel_rfl) rfl (by kernel_rfl) (fun _ _ _ _ _ h => hPan _ _ _ _ _ h) HM.out _ (.cons_cons _ (.cons_cons _ (.cons _ (.cons _ (List.nil_sublist _))))) ?_
       intro hNE W1 HM1; replace HM := Lib.hid HM1; clear HM1
       have HS0 := Lib.hid (HM.out.sub (.cons_cons _ (.cons_cons _ (.cons _ (.cons _ (List.nil_sublist _))))))
       simp only [wpSteps3, List.getElem?_cons_succ, List.getElem?_cons_zero]
       (repeat (first | ((with_reducible refine wpQuiet_nil ?_); (try dsimp only)) | refine mQ ?_ | go_big_quiet_step (fail) | quiet_step (fail)))
       go_wp2_with (first | (refine bs2E rfl HM.out rfl rfl ?_; intro g1 W1 HM1; replace HM := Lib.hid HM1; clear HM1) | (refine mL ?_; clear HM; intro g1 W1 HM))
       refine ⟨⟨⟨_, HM.out.sub (by repeat (first | exact List.nil_sublist _ | with_reducible refine List.Sublist.cons_cons _ ?_ | refine List.Sublist.cons _ ?_))⟩, rfl⟩, ?_⟩
       (try dsimp only)
       go_wp2_with (first | (refine apb rfl HM.out 4 0 rfl rfl rfl rfl rfl rfl (by omega) (by omega) (by omega) ?_; intro p1 cap1 W1 HM1; replace HM := Lib.hid HM1; clear HM1; simp only [List.set] at HM))
       refine ⟨⟨⟨_, HM.out.sub (by repeat (first | exact List.nil_sublist _ | with_reducible refine List.Sublist.cons_cons _ ?_ | refine List.Sublist.cons _ ?_))⟩, rfl⟩, ?_⟩
       (try dsimp only)
       (repeat (first | ((with_reducible refine wpQuiet_nil ?_); (try dsimp only)) | refine mQ ?_ | go_big_quiet_step (fail) | quiet_step (fail)))
       go_wp2_with (first | (refine mS ?_; clear HM; intro W1 HM))
       refine ⟨trivial, ?_⟩
       (try dsimp only)
       clear HS0 hNE
       go_wp2_with fail
       have HM2 := HM.out
       rw [HOc.out] at HM2
       clear HM
       have HM := Lib.hid (HM2.sub (.cons _ (.refl _)))
       clear HM2
       go_step3
       refine hQ (.goto _) _ _ ?_
       refine lab_at (S.size - (a1)) (by have := HA1.out; omega) ⟨O, ⟨rfl, rfl, rfl, rfl⟩, .inl ⟨rfl, a1, g, (ms ++ [⟨evOpen N acc, q, d⟩] ++ [evM (evClose N)]), p1, cap1, .int .i64 1, .string N, .slice q acc.length d, .string ⟨#[]⟩, rfl, by have := HA1.out; omega, by have := HA1.out; omega, ?_, ?_, ?_⟩⟩
       ·(try simp only [List.length_append, List.length_cons, List.length_nil]); have := HA1.out; omega
       ·rw [← HD.out, attrs_end ha c1 c2, outD_snoc, outD_snoc, List.append_assoc, HA1.out]; rfl
       ·rw [long_ev rfl, dup_ev rfl, long_op2, dup_op2, HLg.out, HDp.out]; refine Mem.op_put2 (x := ⟨evOpen N acc, q, d⟩) (d := evClose N) rfl ?_; rw [List.length_append, List.length_append]; exact HM.out
      | false =>
       refine (gnot ⟨#[47, 62]⟩ _ rfl ea2 hs c2 HM.out).mono ?_
       rintro e W2 ⟨rfl, hM⟩
       clear HM
       (try clear W1)
       have HM := Lib.hid hM
       clear hM
       skip
       go_wp2_with fail
       first | refine hQ .ret _ _ (lab_ret ?_) | refine lab_ret ?_
       go_ret
       rw [show r = none from by rw [← HD.out, HF.out c1 c2]; rfl]
       exact ⟨_, S.size, _, _, _, by omega, rfl, HM.out⟩
   ·obtain rfl : a = k := by omega
    have HF := Lib.hid (show atP [62] S a = false → atP [47, 62] S a = false → attrsF S (f + 1) a acc = none from fun h1 h2 => attrs_stop ha h1 h2)
    refine wp_region_pre [0, 1, 2] [(true, 3), (true, 4), (true, 5), (true, 6), (true, 7), (true, 8), (true, 9), (true, 10), (true, 11), (true, 12), (true, 13), (true, 14), (true, 15), (true, 16), (true, 17), (true, 18), (true, 19), (true, 20), (true, 21), (true, 22), (true, 23), (false, 24), (true, 25)] (by kernel_rfl) (by kernel_rfl) rfl (by kernel_rfl) (fun _ _ _ _ _ h => hPan _ _ _ _ _ h) HM.out ?_
    intro W1 HM1; replace HM := Lib.hid HM1; clear HM1
    simp only [wpPre, List.getElem?_cons_succ, List.getElem?_cons_zero]
    go_wp2_with (first | (go_at_call 64; refine (gblanksv false hk hs ha (by first | exact decide_eq_true (by omega) | exact decide_eq_false (by omega)) HM.out).mono ?_; rintro e W2 ⟨rfl, hM⟩; clear HM; (try clear W1); rename World => W1; have HM := Lib.hid hM; clear hM))
    refine ⟨trivial, ?_⟩
    (try dsimp only)
    go_wp2_with (first | (go_at_call 64; refine (gblanksv false hk hs ha (by first | exact decide_eq_true (by omega) | exact decide_eq_false (by omega)) HM.out).mono ?_; rintro e W2 ⟨rfl, hM⟩; clear HM; (try clear W1); rename World => W1; have HM := Lib.hid hM; clear hM))
    refine ⟨trivial, ?_⟩
    (try dsimp only)
    go_wp2_with (first | (go_at_call 64; refine (gblanksv false hk hs ha (by first | exact decide_eq_true (by omega) | exact decide_eq_false (by omega)) HM.out).mono ?_; rintro e W2 ⟨rfl, hM⟩; clear HM; (try clear W1); rename World => W1; have HM := Lib.hid hM; clear hM))
    refine ⟨trivial, ?_⟩
    (try dsimp only)
    refine pre_end (HM.out.sub (.cons_cons _ (List.nil_sublist _))) ?_
    intro hNE
    have HS0 := Lib.hid (HM.out.sub (.cons_cons _ (List.nil_sublist _)))
    simp only [wpSteps, List.getElem?_cons_succ, List.getElem?_cons_zero]
    (repeat (first | ((with_reducible refine wpQuiet_nil ?_); (try dsimp only)) | ((with_reducible refine qgd ?_); (with_reducible refine skip_q ?_ ?_ ?_); (exact rfl); (rotate_left; (exact (hNE.elim fun p => ⟨p.W, p, rfl⟩)))) | refine mQ ?_ | ((with_reducible refine qload ?_); first | (refine qdb1 HS0.out 0 rfl rfl rfl ?_) | (refine qdbW HS0.out 0 rfl rfl rfl ?_) | (refine qdbS HS0.out 0 rfl rfl rfl ?_; simp only [List.take, List.drop])) | go_big_quiet_step (fail) | quiet_step (fail)))
    go_wp2_with (first | ((with_reducible refine igd ?_); (with_reducible refine skip_op ?_ ?_); (exact rfl)) | fail)
    refine ⟨⟨⟨_, HM.out.sub (by repeat (first | exact List.nil_sublist _ | with_reducible refine List.Sublist.cons_cons _ ?_ | refine List.Sublist.cons _ ?_))⟩, rfl⟩, ?_⟩
    (try dsimp only)
    (repeat (first | ((with_reducible refine wpQuiet_nil ?_); (try dsimp only)) | ((with_reducible refine qgd ?_); (with_reducible refine skip_q ?_ ?_ ?_); (exact rfl); (rotate_left; (exact (hNE.elim fun p => ⟨p.W, p, rfl⟩)))) | refine mQ ?_ | ((with_reducible refine qload ?_); first | (refine qdb1 HS0.out 0 rfl rfl rfl ?_) | (refine qdbW HS0.out 0 rfl rfl rfl ?_) | (refine qdbS HS0.out 0 rfl rfl rfl ?_; simp only [List.take, List.drop])) | go_big_quiet_step (fail) | quiet_step (fail)))
    clear HS0 hNE
    go_wp2_with fail
    cases c1 : atP [62] S a with
    | true =>
     have l7 : a + 1 ≤ S.size := atP_le ea2 c1
     obtain ⟨a1, ha1⟩ : ∃ x, a + 1 = x := ⟨_, rfl⟩
     have HA1 := Lib.hid ha1
     rw [ha1] at l7
     clear ha1
     refine (gtakej a1 ⟨#[62]⟩ HA1.out ea2 hs c1 HM.out).mono ?_
     rintro e W2 ⟨rfl, hM⟩
     clear HM
     (try clear W1)
     have HM := Lib.hid hM
     clear hM
     go_wp2_with fail
     refine wp_region_mem3 10 [(0, 0), (0, 1), (0, 2), (0, 3), (0, 4), (0, 5), (2, 6), (2, 7), (1, 8), (1, 9), (3, 10)] (by kernel_rfl) (by kernel_rfl) rfl (by kernel_rfl) (fun _ _ _ _ _ h => hPan _ _ _ _ _ h) HM.out _ (.cons_cons _ (.cons_cons _ (.cons _ (.cons _ (List.nil_sublist _))))) ?_
     intro hNE W1 HM1; replace HM := Lib.hid HM1; clear HM1
     have HS0 := Lib.hid (HM.out.sub (.cons_cons _ (.cons_cons _ (.cons _ (.cons _ (List.nil_sublist _))))))
     simp only [wpSteps3, List.getElem?_cons_succ, List.getElem?_cons_zero]
     (repeat (first | ((with_reducible refine wpQuiet_nil ?_); (try dsimp only)) | refine mQ ?_ | go_big_quiet_step (fail) | quiet_step (fail)))
     go_wp2_with (first | (refine mL ?_; clear HM; intro g1 W1 HM))
     refine ⟨⟨⟨_, HM.out.sub (by repeat (first | exact List.nil_sublist _ | with_reducible refine List.Sublist.cons_cons _ ?_ | refine List.Sublist.cons _ ?_))⟩, rfl⟩, ?_⟩
     (try dsimp only)
     go_wp2_with (first | (refine apb rfl HM.out 4 0 rfl rfl rfl rfl rfl rfl (by omega) (by omega) (by omega) ?_; intro p1 cap1 W1 HM1; replace HM := Lib.hid HM1; clear HM1; simp only [List.set] at HM))
     refine ⟨⟨⟨_, HM.out.sub (by repeat (first | exact List.nil_sublist _ | with_reducible refine List.Sublist.cons_cons _ ?_ | refine List.Sublist.cons _ ?_))⟩, rfl⟩, ?_⟩
     (try dsimp only)
     (repeat (first | ((with_reducible refine wpQuiet_nil ?_); (try dsimp only)) | refine mQ ?_ | go_big_quiet_step (fail) | quiet_step (fail)))
     go_wp2_with (first | (refine mS ?_; clear HM; intro W1 HM))
     refine ⟨trivial, ?_⟩
     (try dsimp only)
     clear HS0 hNE
     go_wp2_with fail
     have HM2 := HM.out
     rw [HOc.out] at HM2
     clear HM
     have HM := Lib.hid (HM2.sub (.cons _ (.refl _)))
     clear HM2
     go_step3
     refine hQ (.goto _) _ _ ?_
     refine lab_at (S.size - (a1)) (by have := HA1.out; omega) ⟨O, ⟨rfl, rfl, rfl, rfl⟩, .inl ⟨rfl, a1, g, (ms ++ [⟨evOpen N acc, q, d⟩]), p1, cap1, .int .i64 1, .string N, .slice q acc.length d, .string ⟨#[]⟩, rfl, by have := HA1.out; omega, by have := HA1.out; omega, ?_, ?_, ?_⟩⟩
     ·(try simp only [List.length_append, List.length_cons, List.length_nil]); have := HA1.out; omega
     ·rw [← HD.out, attrs_gt ha c1, outD_snoc, HA1.out]; rfl
     ·rw [long_op2, dup_op2, HLg.out, HDp.out]; refine Mem.op_put (x := ⟨evOpen N acc, q, d⟩) ?_; rw [List.length_append]; exact HM.out
    | false =>
     refine (gnot ⟨#[62]⟩ _ rfl ea2 hs c1 HM.out).mono ?_
     rintro e W2 ⟨rfl, hM⟩
     clear HM
     (try clear W1)
     have HM := Lib.hid hM
     clear hM
     go_wp2_with fail
     cases c2 : atP [47, 62] S a with
     | true =>
      have l7 : a + 2 ≤ S.size := atP_le ea2 c2
      obtain ⟨a1, ha1⟩ : ∃ x, a + 2 = x := ⟨_, rfl⟩
      have HA1 := Lib.hid ha1
      rw [ha1] at l7
      clear ha1
      refine (gtakej a1 ⟨#[47, 62]⟩ HA1.out ea2 hs c2 HM.out).mono ?_
      rintro e W2 ⟨rfl, hM⟩
      clear HM
      (try clear W1)
      have HM := Lib.hid hM
      clear hM
      go_wp2_with fail
      refine wp_region_mem3 13 [(0, 0), (0, 1), (0, 2), (0, 3), (0, 4), (0, 5), (0, 6), (0, 7), (0, 8), (2, 9), (2, 10), (1, 11), (1, 12), (3, 13)] (by kernel_rfl) (by kernel_rfl) rfl (by kernel_rfl) (fun _ _ _ _ _ h => hPan _ _ _ _ _ h) HM.out _ (.cons_cons _ (.cons_cons _ (.cons _ (.cons _ (List.nil_sublist _))))) ?_
      intro hNE W1 HM1; replace HM := Lib.hid HM1; clear HM1
      have HS0 := Lib.hid (HM.out.sub (.cons_cons _ (.cons_cons _ (.cons _ (.cons _ (List.nil_sublist _))))))
      simp only [wpSteps3, List.getElem?_cons_succ, List.getElem?_cons_zero]
      (repeat (first | ((with_reducible refine wpQuiet_nil ?_); (try dsimp only)) | refine mQ ?_ | go_big_quiet_step (fail) | quiet_step (fail)))
      go_wp2_with (first | (refine bs2E rfl HM.out rfl rfl ?_; intro g1 W1 HM1; replace HM := Lib.hid HM1; clear HM1) | (refine mL ?_; clear HM; intro g1 W1 HM))
      refine ⟨⟨⟨_, HM.out.sub (by repeat (first | exact List.nil_sublist _ | with_reducible refine List.Sublist.cons_cons _ ?_ | refine List.Sublist.cons _ ?_))⟩, rfl⟩, ?_⟩
      (try dsimp only)
      go_wp2_with (first | (refine apb rfl HM.out 4 0 rfl rfl rfl rfl rfl rfl (by omega) (by omega) (by omega) ?_; intro p1 cap1 W1 HM1; replace HM := Lib.hid HM1; clear HM1; simp only [List.set] at HM))
      refine ⟨⟨⟨_, HM.out.sub (by repeat (first | exact List.nil_sublist _ | with_reducible refine List.Sublist.cons_cons _ ?_ | refine List.Sublist.cons _ ?_))⟩, rfl⟩, ?_⟩
      (try dsimp only)
      (repeat (first | ((with_reducible refine wpQuiet_nil ?_); (try dsimp only)) | refine mQ ?_ | go_big_quiet_step (fail) | quiet_step (fail)))
      go_wp2_with (first | (refine mS ?_; clear HM; intro W1 HM))
      refine ⟨trivial, ?_⟩
      (try dsimp only)
      clear HS0 hNE
      go_wp2_with fail
      have HM2 := HM.out
      rw [HOc.out] at HM2
      clear HM
      have HM := Lib.hid (HM2.sub (.cons _ (.refl _)))
      clear HM2
      go_step3
      refine hQ (.goto _) _ _ ?_
      refine lab_at (S.size - (a1)) (by have := HA1.out; omega) ⟨O, ⟨rfl, rfl, rfl, rfl⟩, .inl ⟨rfl, a1, g, (ms ++ [⟨evOpen N acc, q, d⟩] ++ [evM (evClose N)]), p1, cap1, .int .i64 1, .string N, .slice q acc.length d, .string ⟨#[]⟩, rfl, by have := HA1.out; omega, by have := HA1.out; omega, ?_, ?_, ?_⟩⟩
      ·(try simp only [List.length_append, List.length_cons, List.length_nil]); have := HA1.out; omega
      ·rw [← HD.out, attrs_end ha c1 c2, outD_snoc, outD_snoc, List.append_assoc, HA1.out]; rfl
      ·rw [long_ev rfl, dup_ev rfl, long_op2, dup_op2, HLg.out, HDp.out]; refine Mem.op_put2 (x := ⟨evOpen N acc, q, d⟩) (d := evClose N) rfl ?_; rw [List.length_append, List.length_append]; exact HM.out
     | false =>
      refine (gnot ⟨#[47, 62]⟩ _ rfl ea2 hs c2 HM.out).mono ?_
      rintro e W2 ⟨rfl, hM⟩
      clear HM
      (try clear W1)
      have HM := Lib.hid hM
      clear hM
      skip
      go_wp2_with fail
      first | refine hQ .ret _ _ (lab_ret ?_) | refine lab_ret ?_
      go_ret
      rw [show r = none from by rw [← HD.out, HF.out c1 c2]; rfl]
      exact ⟨_, a, _, _, _, by omega, rfl, HM.out⟩
 ·intro Q2 hQ hPan H
  have HH := Lib.hid H
  clear H
  go_wp2_with (first | ((with_reducible refine skip_op ?_ ?_); exact rfl) | refine mP ?_ | (refine mS ?_; clear HM; intro W1 HM) | (refine mL ?_; clear HM; intro g1 W1 HM) | (refine hal (dst := some 3) HM rfl ?_; clear HM; intro g3 W1 HM) | (refine hal HM rfl ?_; clear HM; intro g1 W1 HM))
  have HM1 := Lib.hid ((HM.out.row0 57 4).perm ((List.Perm.cons _ (List.Perm.swap _ _ _)).trans ((List.Perm.swap _ _ _).trans (List.Perm.cons _ (List.Perm.swap _ _ _)))))
  clear HM
  have HM := HM1
  clear HM1
  cases c0 : atP [60, 63, 120, 109, 108] S 0 with
  | false =>
   refine (gnot ⟨#[60, 63, 120, 109, 108]⟩ _ rfl (by omega) hs c0 HM.out).mono ?_
   rintro e W2 ⟨rfl, hM⟩
   clear HM
   (try clear W1)
   have HM := Lib.hid hM
   clear hM
   go_wp2_with fail
   go_step3
   rename_i hK
   refine hK _ _ ?_
   clear hK
   refine HH.out 0 (S.size - (0)) _ _ _ (by omega) ⟨g3, ⟨rfl, rfl, rfl, rfl⟩, .inl ⟨rfl, 0, S.size + 1, [], none, 0, _, _, _, _, rfl, by omega, by omega, by simp, ?_, HM.out⟩⟩ rfl
   rw [← HB.out]; unfold bodyF prologF; rw [if_pos c0]; rfl
  | true =>
   have l5 : 0 + 5 ≤ S.size := atP_le (by omega) c0
   rw [Nat.zero_add] at l5
   obtain ⟨k, hk⟩ : ∃ k, blkE S 5 = k := ⟨_, rfl⟩
   have ek := blkE_le l5
   rw [hk] at ek
   obtain ⟨ek1, ek2⟩ := ek
   refine (gtakej (i := 0) 5 ⟨#[60, 63, 120, 109, 108]⟩ rfl (by omega) hs c0 HM.out).mono ?_
   rintro e W2 ⟨rfl, hM⟩
   clear HM
   (try clear W1)
   have HM := Lib.hid hM
   clear hM
   go_wp2_with fail
   by_cases hk5 : k = 5
   ·subst hk5
    refine (gblanksv false l5 hs hk rfl HM.out).mono ?_
    rintro e W2 ⟨rfl, hM⟩
    clear HM
    (try clear W1)
    have HM := Lib.hid hM
    clear hM
    skip
    go_wp2_with fail
    first | refine hQ .ret _ _ (lab_ret ?_) | refine lab_ret ?_
    go_ret
    rw [show r = none from by rw [← HB.out]; unfold bodyF prologF; rw [if_neg (by rw [c0]; decide), if_pos hk]]
    exact ⟨_, 5, _, _, _, by omega, rfl, HM.out⟩
   refine (gblanksv true l5 hs hk (decide_eq_true (by omega)) HM.out).mono ?_
   rintro e W2 ⟨rfl, hM⟩
   clear HM
   (try clear W1)
   have HM := Lib.hid hM
   clear hM
   go_wp2_with fail
   cases hu : fndL [63, 62] (S.data.toList.drop k) with
   | none =>
    refine ((fun h => muntil_no w0 _ R _ S ⟨#[63, 62]⟩ k _ false false h HX.out ek2 hs hu) HM.out).mono ?_
    rintro e W2 ⟨rfl, hM⟩
    clear HM
    (try clear W1)
    have HM := Lib.hid hM
    clear hM
    skip
    go_wp2_with fail
    first | refine hQ .ret _ _ (lab_ret ?_) | refine lab_ret ?_
    go_ret
    rw [show r = none from by rw [← HB.out]; unfold bodyF prologF; rw [if_neg (by rw [c0]; decide), hk, if_neg hk5, hu]]
    exact ⟨_, k, _, _, _, by omega, rfl, HM.out⟩
   | some n =>
    have l6 := fndL_le (by simp) hu
    rw [List.length_drop, size_list] at l6
    simp only [List.length_cons, List.length_nil] at l6
    refine (guntilj (n := n) (k + n + 2) ⟨#[63, 62]⟩ rfl HX.out ek2 hs (by simp) hu HM.out).mono ?_
    rintro e W2 ⟨rfl, hM⟩
    clear HM
    (try clear W1)
    have HM := Lib.hid hM
    clear hM
    go_wp2_with fail
    go_step3
    rename_i hK
    refine hK _ _ ?_
    clear hK
    refine HH.out 0 (S.size - (k + n + 2)) _ _ _ (by omega) ⟨g3, ⟨rfl, rfl, rfl, rfl⟩, .inl ⟨rfl, k + n + 2, S.size + 1, [], none, 0, _, _, _, _, rfl, by omega, by omega, by simp, ?_, HM.out⟩⟩ rfl
    rw [← HB.out]; unfold bodyF prologF; rw [if_neg (by rw [c0]; decide), hk, if_neg hk5, hu]; rfl
end Go.Proofs.YtanncakdlflopaaGreatDoor
