/- The walk over tarifflaw05.MarkSpells. (short) -/
import Derived.Test.YtfnodoepeiknhaaGreatDoorMarkV
import Derived.Test.YtfnodoepeiknhaaGreatDoorMarkJ
namespace Go.Proofs.YtfnodoepeiknhaaGreatDoor
open Go.RowKit
set_option linter.unusedVariables false
set_option linter.unusedSimpArgs false
set_option maxRecDepth 100000

/-- A piece as the law takes it. -/
def fixP (single : Bool) (p : PartD) : PartD := if single then ⟨p.k, p.n, ⟨(woL p.v.data.toList).toArray⟩, p.t⟩ else p
def okL (single : Bool) (l : List PartD) : List PartD := (l.map (fixP single)).filter spOk
theorem okL_ok (single : Bool) (l : List PartD) : ∀ p ∈ okL single l, spOk p = true := fun p hp => (List.mem_filter.1 hp).2
theorem okL_no39 (l : List PartD) : ∀ p ∈ okL true l, 39 ∉ p.v.data.toList := by
  intro p hp
  obtain ⟨x, -, rfl⟩ := List.mem_map.1 (List.mem_filter.1 hp).1
  unfold fixP woL
  simp
theorem okL_yes {single : Bool} {l : List PartD} {i : Nat} {p : PartD} (h : l[i]? = some p) (hp : spOk (fixP single p) = true) : okL single (l.take (i + 1)) = okL single (l.take i) ++ [fixP single p] := by
  unfold okL
  rw [List.take_add_one, h]
  simp [hp]
theorem okL_no {single : Bool} {l : List PartD} {i : Nat} {p : PartD} (h : l[i]? = some p) (hp : spOk (fixP single p) = false) : okL single (l.take (i + 1)) = okL single (l.take i) := by
  unfold okL
  rw [List.take_add_one, h]
  simp [hp]
theorem wo_size (v : ByteArray) : (⟨(woL v.data.toList).toArray⟩ : ByteArray).size ≤ v.size := by
  rw [← size_list, ← size_list]
  show ((woL v.data.toList).toArray).toList.length ≤ _
  rw [List.toList_toArray]
  exact List.length_filter_le _ _
theorem evin_of {w0 W : World} {L : List Res} {p : Option Addr} {c : Nat} {ms : List EvM} (h : Mem w0 W L) (h1 : .row p c 36 4 ms.length (outC ms) ∈ L) (h2 : ∀ r ∈ outR ms, r ∈ L) (hl : ∀ e ∈ outD ms, e.l.length ≤ 4611686018427387904) : EvIn W p ms :=
  ⟨row_sl (h.holds _ h1), fun m hm => ⟨row_sl (h.holds _ (h2 _ (List.mem_map.2 ⟨m, hm, rfl⟩))), hl _ (List.mem_map.2 ⟨m, hm, rfl⟩)⟩⟩
theorem outC_one (ms : List EvM) : ∀ u ∈ outC ms, u.oneCell' = true := by
  intro u hu
  obtain ⟨x, -, hx⟩ := List.mem_flatMap.1 hu
  simp only [EvM.cs, List.mem_cons, List.not_mem_nil, or_false] at hx
  rcases hx with rfl | rfl | rfl | rfl <;> rfl
theorem outR_app (a b : List EvM) : outR (a ++ b) = outR a ++ outR b := by simp [outR]
theorem outC_app (a b : List EvM) : outC (a ++ b) = outC a ++ outC b := by simp [outC]
theorem outD_app (a b : List EvM) : outD (a ++ b) = outD a ++ outD b := by simp [outD]
/-- What spelled left beside the law's row, in an order of our own. -/
theorem law_join {w0 W1 W2 : World} {b r r2 : Res} {ms ms2 : List EvM} (h0 : Mem w0 W1 (b :: r :: outR ms)) (h : Mem W1 W2 (r2 :: outR ms2)) : Mem w0 W2 (r :: r2 :: (outR ms ++ outR ms2)) := by
  have h1 := h0.comp2 h
  refine Mem.sub (L := b :: r :: r2 :: (outR ms ++ outR ms2)) (h1.perm ?_) (.cons _ (.refl _))
  calc (r2 :: outR ms2) ++ (b :: r :: outR ms) = r2 :: (outR ms2 ++ (b :: r :: outR ms)) := rfl
    _ |>.Perm (r2 :: ((b :: r :: outR ms) ++ outR ms2)) := .cons _ List.perm_append_comm
    _ |>.Perm (b :: r :: r2 :: (outR ms ++ outR ms2)) := by
      simp only [List.cons_append]
      exact (List.Perm.swap _ _ _).trans (.cons _ (List.Perm.swap _ _ _))
theorem law_drop {w0 W : World} {r r2 : Res} {ms ms2 : List EvM} (h : Mem w0 W (r :: r2 :: (outR ms ++ outR ms2))) : Mem w0 W (r :: outR (ms ++ ms2)) := by
  rw [outR_app]
  exact h.sub (.cons_cons _ (.cons _ (.refl _)))

set_option maxHeartbeats 16000000 in
theorem markSpells_walk (l : List PartD) (p : Option Addr) (cp : Nat) (bs : ByteArray) (single : Bool) (W : World) (hp : Sl W p (l.flatMap PartD.cs)) (hl : l.length ≤ 1099511627776) (hbs : bs.size ≤ 1099511627776)
    (hz : ∀ x ∈ l, x.n.size ≤ 1099511627776 ∧ x.v.size ≤ 1099511627776 ∧ x.t.size ≤ 1099511627776) (hT : U8 W) (hE : ErrsAt W) (hX : MaxAt W) :
    Calls Tryz.prog 6 #[.slice p l.length cp, .string bs, .bool single] W fun e w' => e = .returned (.bool true) ∧ Below W.heap.size W w' := by
  have HM := Lib.hid (Mem.start W)
  have HT := Lib.hid hT
  have HE := Lib.hid hE
  have HX := Lib.hid hX
  have HP := Lib.hid hp
  have HZ := Lib.hid hz
  clear hT hE hX hp hz
  obtain ⟨qs, q, hqs, hq⟩ : ∃ (qs : ByteArray) (q : UInt8), qs.data.toList = [q] ∧ (single = false ∧ qs = ⟨#[34]⟩ ∧ q = 34 ∨ single = true ∧ qs = ⟨#[39]⟩ ∧ q = 39) := by
    cases single with
    | false => exact ⟨⟨#[34]⟩, 34, rfl, .inl ⟨rfl, rfl, rfl⟩⟩
    | true => exact ⟨⟨#[39]⟩, 39, rfl, .inr ⟨rfl, rfl, rfl⟩⟩
  have HQS := Lib.hid hqs
  clear hqs
  go_enter Tryz.func6, Tryz.ntmps6
  go_wp2_with (first | (go_at_call 12; (with_reducible refine cB HM (mknown_any _ HT.out HE.out) ?_); clear HM; intro W1 HM))
  go_loopw [7] (fun iv wr => ∃ i : Nat, iv = .int .i64 i ∧ i ≤ bs.size ∧ Hid (∀ b ∈ bs.data.toList.take i, blkB b = true) ∧ Hid (Mem W wr [])) (fun iv _ => bs.size - (intOf iv).toNat)
  case atStart => exact ⟨0, rfl, by omega, Lib.hid (by simp), HM⟩
  case round =>
    clear HM
    obtain ⟨i, rfl, hi, HB, HM⟩ := hrel
    by_cases hlt : i < bs.size
    · have HAt := Lib.hid (at_byte3 hlt)
      have hb2 : blkB bs[i] = true → ∀ b ∈ bs.data.toList.take (i + 1), blkB b = true := by
        intro h b hb
        rw [List.take_add_one, HAt.out] at hb
        rcases List.mem_append.1 hb with hb | hb
        · exact HB.out b hb
        · simp at hb; rw [hb]; exact h
      have HBk := Lib.hid (fun W => rblank_any bs[i] W)
      have d1 : decide ((i : Int) < bs.size) = true := decide_eq_true (by omega)
      generalize bs[i] = x at *
      cases hx : blkB x with
      | false =>
        rw [hx] at HBk
        clear hb2 hx
        as_aux_lemma =>
        go_wp2_with (first | ((with_reducible refine iat 29 ?_); (refine six rfl rfl rfl HAt.out ?_)) | (go_at_call 18; with_reducible refine cQ (HBk.out _) ?_))
        go_ret
        exact ⟨rfl, HM.out.below⟩
      | true =>
        rw [hx] at HBk
        have HB2 := Lib.hid (hb2 hx)
        clear hb2 hx
        as_aux_lemma =>
        go_wp2_with (first | ((with_reducible refine iat 29 ?_); (refine six rfl rfl rfl HAt.out ?_)) | (go_at_call 18; with_reducible refine cQ (HBk.out _) ?_))
        go_roundw
        case rel => exact ⟨i + 1, by go_num, by omega, HB2, HM⟩
        case measure => simp [intOf]; omega
    · have HBk := Lib.hid (show ∀ b ∈ bs.data.toList, blkB b = true by
        have := HB.out
        rwa [List.take_of_length_le (by rw [size_list]; omega)] at this)
      have d1 : decide ((i : Int) < bs.size) = false := decide_eq_false (by omega)
      clear HB
      as_aux_lemma =>
      rcases hq with ⟨rfl, rfl, rfl⟩ | ⟨rfl, rfl, rfl⟩
      · go_wp2_with fail
        go_loopw [9, 10, 11] (fun sv wv iv wr => ∃ (i : Nat) (S : ByteArray) (ms : List EvM) (rr : Option Addr) (c : Nat), sv = .string S ∧ wv = .slice rr ms.length c ∧ iv = .int .i64 i ∧ i ≤ l.length ∧ i ≤ 40 ∧ S.size ≤ 80000 * i ∧ ms.length ≤ i ∧ Hid (S.data.toList = (okL false (l.take i)).flatMap (spT bs.data.toList 34)) ∧ Hid (outD ms = (okL false (l.take i)).flatMap spV) ∧ Hid (Mem W wr (.row rr c 36 4 ms.length (outC ms) :: outR ms))) (fun _ _ iv _ => l.length - (intOf iv).toNat)
        case atStart => exact ⟨0, ⟨#[]⟩, [], none, 0, rfl, rfl, rfl, by omega, by omega, by decide, by simp, Lib.hid rfl, Lib.hid rfl, Lib.hid (HM.out.row0 _ _)⟩
        case round =>
          clear HM
          obtain ⟨i, S, ms, rr, c, rfl, rfl, rfl, hi, hi40, hSz, hmsl, HS, HD, HM⟩ := hrel
          by_cases hlt : i < l.length
          · have d1 : decide ((i : Int) < l.length) = true := decide_eq_true (by omega)
            by_cases h40 : i < 40
            · have d2 : decide ((i : Int) < 40) = true := decide_eq_true (by omega)
              obtain ⟨b, hpb, hb⟩ := HP.out.some_at PartD.cs_len (by decide) hlt
              obtain ⟨x, ht⟩ : ∃ t, l[i]? = some t := ⟨_, List.getElem?_eq_getElem hlt⟩
              have hxz := HZ.out x (List.mem_of_getElem? ht)
              obtain ⟨k, n, v, t⟩ := x
              dsimp only at hxz
              obtain ⟨hxn, hxv, hxt⟩ := hxz
              have E1 := Lib.hid (show Cells W (b.add (i * 4)) [.int .i64 k, .string n, .string v, .string t] from hb.elem PartD.cs 4 PartD.cs_len ht)
              clear hb
              subst hpb
              have HVd := Lib.hid (fun W => rValid_any v W (by omega))
              by_cases e0 : 1000 < t.size
              · have f0 : decide ((1000 : Int) < (t.size : Int)) = true := decide_eq_true (by omega)
                as_aux_lemma =>
                go_wp2_with (first | ((with_reducible refine iat 47 ?_); (refine ixa (i := i) rfl rfl rfl hlt ?_)) | ((with_reducible refine iat 55 ?_); (refine ixa (i := i) rfl rfl rfl hlt ?_)) | ((with_reducible refine iat 65 ?_); (refine ixa (i := i) rfl rfl rfl hlt ?_)) | ((with_reducible refine iat 74 ?_); (refine ixa (i := i) rfl rfl rfl hlt ?_)) | ((with_reducible refine iat 49 ?_); (refine ldx1 (HM.out.olds E1.out 2 _ rfl) rfl ?_)) | ((with_reducible refine iat 57 ?_); (refine ldx1 (HM.out.olds E1.out 2 _ rfl) rfl ?_)) | ((with_reducible refine iat 67 ?_); (refine ldx1 (HM.out.olds E1.out 3 _ rfl) rfl ?_)) | ((with_reducible refine iat 76 ?_); (refine ldx1 (HM.out.olds E1.out 2 _ rfl) rfl ?_)) | (go_at_call 19; (with_reducible refine cB HM (HVd.out _) ?_); clear HM; intro W1 HM))
                go_ret
                exact ⟨rfl, HM.out.below⟩
              · have f0 : decide ((1000 : Int) < (t.size : Int)) = false := decide_eq_false (by omega)
                by_cases e1 : 1000 < v.size
                · have f1 : decide ((1000 : Int) < (v.size : Int)) = true := decide_eq_true (by omega)
                  as_aux_lemma =>
                  go_wp2_with (first | ((with_reducible refine iat 47 ?_); (refine ixa (i := i) rfl rfl rfl hlt ?_)) | ((with_reducible refine iat 55 ?_); (refine ixa (i := i) rfl rfl rfl hlt ?_)) | ((with_reducible refine iat 65 ?_); (refine ixa (i := i) rfl rfl rfl hlt ?_)) | ((with_reducible refine iat 74 ?_); (refine ixa (i := i) rfl rfl rfl hlt ?_)) | ((with_reducible refine iat 49 ?_); (refine ldx1 (HM.out.olds E1.out 2 _ rfl) rfl ?_)) | ((with_reducible refine iat 57 ?_); (refine ldx1 (HM.out.olds E1.out 2 _ rfl) rfl ?_)) | ((with_reducible refine iat 67 ?_); (refine ldx1 (HM.out.olds E1.out 3 _ rfl) rfl ?_)) | ((with_reducible refine iat 76 ?_); (refine ldx1 (HM.out.olds E1.out 2 _ rfl) rfl ?_)) | (go_at_call 19; (with_reducible refine cB HM (HVd.out _) ?_); clear HM; intro W1 HM))
                  go_ret
                  exact ⟨rfl, HM.out.below⟩
                · have f1 : decide ((1000 : Int) < (v.size : Int)) = false := decide_eq_false (by omega)
                  by_cases e2 : 100 < bs.size
                  · have f2 : decide ((100 : Int) < (bs.size : Int)) = true := decide_eq_true (by omega)
                    as_aux_lemma =>
                    go_wp2_with (first | ((with_reducible refine iat 47 ?_); (refine ixa (i := i) rfl rfl rfl hlt ?_)) | ((with_reducible refine iat 55 ?_); (refine ixa (i := i) rfl rfl rfl hlt ?_)) | ((with_reducible refine iat 65 ?_); (refine ixa (i := i) rfl rfl rfl hlt ?_)) | ((with_reducible refine iat 74 ?_); (refine ixa (i := i) rfl rfl rfl hlt ?_)) | ((with_reducible refine iat 49 ?_); (refine ldx1 (HM.out.olds E1.out 2 _ rfl) rfl ?_)) | ((with_reducible refine iat 57 ?_); (refine ldx1 (HM.out.olds E1.out 2 _ rfl) rfl ?_)) | ((with_reducible refine iat 67 ?_); (refine ldx1 (HM.out.olds E1.out 3 _ rfl) rfl ?_)) | ((with_reducible refine iat 76 ?_); (refine ldx1 (HM.out.olds E1.out 2 _ rfl) rfl ?_)) | (go_at_call 19; (with_reducible refine cB HM (HVd.out _) ?_); clear HM; intro W1 HM))
                    go_ret
                    exact ⟨rfl, HM.out.below⟩
                  · have f2 : decide ((100 : Int) < (bs.size : Int)) = false := decide_eq_false (by omega)
                    have hfx : fixP false ⟨k, n, v, t⟩ = ⟨k, n, v, t⟩ := rfl
                    have HSp := Lib.hid (fun W h => spelled_any ⟨k, n, v, t⟩ bs ⟨#[34]⟩ 34 W h (by dsimp only; omega) (by dsimp only; omega) (by dsimp only; omega) (by omega) rfl)
                    as_aux_lemma =>
                    go_wp2_with (first | ((with_reducible refine iat 47 ?_); (refine ixa (i := i) rfl rfl rfl hlt ?_)) | ((with_reducible refine iat 55 ?_); (refine ixa (i := i) rfl rfl rfl hlt ?_)) | ((with_reducible refine iat 65 ?_); (refine ixa (i := i) rfl rfl rfl hlt ?_)) | ((with_reducible refine iat 74 ?_); (refine ixa (i := i) rfl rfl rfl hlt ?_)) | ((with_reducible refine iat 49 ?_); (refine ldx1 (HM.out.olds E1.out 2 _ rfl) rfl ?_)) | ((with_reducible refine iat 57 ?_); (refine ldx1 (HM.out.olds E1.out 2 _ rfl) rfl ?_)) | ((with_reducible refine iat 67 ?_); (refine ldx1 (HM.out.olds E1.out 3 _ rfl) rfl ?_)) | ((with_reducible refine iat 76 ?_); (refine ldx1 (HM.out.olds E1.out 2 _ rfl) rfl ?_)) | (go_at_call 19; (with_reducible refine cB HM (HVd.out _) ?_); clear HM; intro W1 HM) | ((with_reducible refine iat 87 ?_); (refine ixa (i := i) rfl rfl rfl hlt ?_)) | ((with_reducible refine iat 88 ?_); (refine ldxW (HM.out.olds E1.out) rfl rfl ?_)) | ((with_reducible refine skip_op ?_ ?_); exact rfl) | refine mP ?_ | (refine mS ?_; clear HM; intro W1 HM) | (refine hal (dst := some 12) HM rfl ?_; clear HM; intro g12 W1 HM))
                    refine (HSp.out _ (HT.out.below HM.out.below)).mono ?_
                    rintro e W3 h
                    cases hok : spOk (fixP false ⟨k, n, v, t⟩) with
                    | false =>
                      have HN := Lib.hid (okL_no (single := false) ht hok)
                      unfold SpPost at h
                      rw [← hfx, hok] at h
                      obtain ⟨rfl, hb⟩ := h
                      have HM1 := Lib.hid (HM.out.next hb)
                      clear HM hb hok ht
                      have HM := HM1
                      clear HM1
                      as_aux_lemma =>
                      go_wp2_with fail
                      go_roundw
                      case rel => exact ⟨i + 1, S, ms, rr, c, rfl, rfl, by go_num, by omega, by omega, by omega, by omega, Lib.hid (by rw [HN.out]; exact HS.out), Lib.hid (by rw [HN.out]; exact HD.out), Lib.hid (HM.out.sub (.cons _ (.refl _)))⟩
                      case measure => simp [intOf]; omega
                    | true =>
                      have HN := Lib.hid (okL_yes (single := false) ht hok)
                      unfold SpPost at h
                      rw [← hfx, hok] at h
                      obtain ⟨s2, ms2, r2, c2, hs2, hz2, hm2, hd2, rfl, hM2⟩ := h
                      have HM1 := Lib.hid (law_join HM.out hM2)
                      have HS2 := Lib.hid hs2
                      have HD2 := Lib.hid hd2
                      have HSl := Lib.hid (row_sl (hM2.get (k := 0) rfl))
                      have hC2 := outC_len ms2
                      have HNl := Lib.hid (HSl.out.nil_len EvM.cs_len (by decide))
                      clear HM hM2 hok ht hs2 hd2
                      have HM := HM1
                      clear HM1
                      as_aux_lemma =>
                      go_wp2_with (first | ((with_reducible refine iat 105 ?_); (refine scat rfl rfl (by omega) ?_; intro S2 hS2 hz3)) | ((with_reducible refine iat 108 ?_); (refine apr rfl HM.out 0 rfl rfl rfl hC2 HNl.out HSl.out.2 (outC_one ms2) (by unfold maxLen; omega) (by omega) ?_; intro p1 cap1 W2 HM1 hnil; clear hnil; clear HM; (try clear W1); rename World => W1; have HM := Lib.hid HM1; clear HM1; simp only [List.set] at HM)))
                      go_roundw
                      case rel => exact ⟨i + 1, S2, ms ++ ms2, p1, cap1, rfl, by rw [List.length_append], by go_num, by omega, by omega, by omega, by rw [List.length_append]; omega, Lib.hid (by rw [HN.out, hS2, HS.out, HS2.out]; simp [fixP]), Lib.hid (by rw [HN.out, outD_app, HD.out, HD2.out]; simp [fixP]), Lib.hid (law_drop (by rw [outC_app, List.length_append]; exact HM.out))⟩
                      case measure => simp [intOf]; omega
            · have d2 : decide ((i : Int) < 40) = false := decide_eq_false (by omega)
              have HMs := Lib.hid (mark_spells (S := S) HBk.out (okL_ok false (l.take i)) (.inl rfl) HS.out)
              have HLs := Lib.hid (show ∀ e ∈ (okL false (l.take i)).flatMap spV, e.l.length ≤ 4611686018427387904 by
                intro e he
                obtain ⟨y, _, hy⟩ := List.mem_flatMap.1 he
                have := spV_small y e hy
                omega)
              clear HS
              generalize (okL false (l.take i)).flatMap spV = evs at *
              by_cases hbig : 300000 < S.size
              · have d4 : decide ((300000 : Int) < (S.size : Int)) = true := decide_eq_true (by omega)
                as_aux_lemma =>
                go_wp2_with fail
                go_ret
                exact ⟨rfl, HM.out.below⟩
              · have d4 : decide ((300000 : Int) < (S.size : Int)) = false := decide_eq_false (by omega)
                have HR := Lib.hid (fun W h1 h2 h3 => mRead_any S W _ (HMs.out (by omega)) h1 h2 h3 (by omega))
                clear HMs
                as_aux_lemma =>
                go_wp2_with fail
                refine (HR.out _ (HT.out.below HM.out.below) (HE.out.below HM.out.below) (HX.out.below HM.out.below)).mono ?_
                rintro e W3 ⟨ms2, p2, c2, hl2, hms2, rfl, hM2⟩
                clear HR
                have HM0 := Lib.hid (HM.out.comp2 hM2)
                clear HM
                have HM := HM0
                have HI1 := Lib.hid (evin_of (ms := ms2) (p := p2) (c := c2) HM.out (by simp) (by intro r hr; simp [hr]) (by rw [hl2]; exact HLs.out))
                have HI2 := Lib.hid (evin_of (ms := ms) (p := rr) (c := c) HM.out (by simp) (by intro r hr; simp [hr]) (by rw [HD.out]; exact HLs.out))
                have HDD := Lib.hid (hl2.trans HD.out.symm)
                clear hl2 HM0 hM2
                go_wp2_with (first | (go_at_call 17; (with_reducible refine cB HM (rsame_any p2 rr c2 c ms2 ms _ HI1.out HI2.out HDD.out (by omega)) ?_); clear HM; intro W1 HM))
                go_ret
                exact ⟨rfl, HM.out.below⟩
          · have d1 : decide ((i : Int) < l.length) = false := decide_eq_false (by omega)
            have HMs := Lib.hid (mark_spells (S := S) HBk.out (okL_ok false (l.take i)) (.inl rfl) HS.out)
            have HLs := Lib.hid (show ∀ e ∈ (okL false (l.take i)).flatMap spV, e.l.length ≤ 4611686018427387904 by
              intro e he
              obtain ⟨y, _, hy⟩ := List.mem_flatMap.1 he
              have := spV_small y e hy
              omega)
            clear HS
            generalize (okL false (l.take i)).flatMap spV = evs at *
            by_cases hbig : 300000 < S.size
            · have d4 : decide ((300000 : Int) < (S.size : Int)) = true := decide_eq_true (by omega)
              as_aux_lemma =>
              go_wp2_with fail
              go_ret
              exact ⟨rfl, HM.out.below⟩
            · have d4 : decide ((300000 : Int) < (S.size : Int)) = false := decide_eq_false (by omega)
              have HR := Lib.hid (fun W h1 h2 h3 => mRead_any S W _ (HMs.out (by omega)) h1 h2 h3 (by omega))
              clear HMs
              as_aux_lemma =>
              go_wp2_with fail
              refine (HR.out _ (HT.out.below HM.out.below) (HE.out.below HM.out.below) (HX.out.below HM.out.below)).mono ?_
              rintro e W3 ⟨ms2, p2, c2, hl2, hms2, rfl, hM2⟩
              clear HR
              have HM0 := Lib.hid (HM.out.comp2 hM2)
              clear HM
              have HM := HM0
              have HI1 := Lib.hid (evin_of (ms := ms2) (p := p2) (c := c2) HM.out (by simp) (by intro r hr; simp [hr]) (by rw [hl2]; exact HLs.out))
              have HI2 := Lib.hid (evin_of (ms := ms) (p := rr) (c := c) HM.out (by simp) (by intro r hr; simp [hr]) (by rw [HD.out]; exact HLs.out))
              have HDD := Lib.hid (hl2.trans HD.out.symm)
              clear hl2 HM0 hM2
              go_wp2_with (first | (go_at_call 17; (with_reducible refine cB HM (rsame_any p2 rr c2 c ms2 ms _ HI1.out HI2.out HDD.out (by omega)) ?_); clear HM; intro W1 HM))
              go_ret
              exact ⟨rfl, HM.out.below⟩
      · go_wp2_with fail
        go_loopw [9, 10, 11] (fun sv wv iv wr => ∃ (i : Nat) (S : ByteArray) (ms : List EvM) (rr : Option Addr) (c : Nat), sv = .string S ∧ wv = .slice rr ms.length c ∧ iv = .int .i64 i ∧ i ≤ l.length ∧ i ≤ 40 ∧ S.size ≤ 80000 * i ∧ ms.length ≤ i ∧ Hid (S.data.toList = (okL true (l.take i)).flatMap (spT bs.data.toList 39)) ∧ Hid (outD ms = (okL true (l.take i)).flatMap spV) ∧ Hid (Mem W wr (.row rr c 36 4 ms.length (outC ms) :: outR ms))) (fun _ _ iv _ => l.length - (intOf iv).toNat)
        case atStart => exact ⟨0, ⟨#[]⟩, [], none, 0, rfl, rfl, rfl, by omega, by omega, by decide, by simp, Lib.hid rfl, Lib.hid rfl, Lib.hid (HM.out.row0 _ _)⟩
        case round =>
          clear HM
          obtain ⟨i, S, ms, rr, c, rfl, rfl, rfl, hi, hi40, hSz, hmsl, HS, HD, HM⟩ := hrel
          by_cases hlt : i < l.length
          · have d1 : decide ((i : Int) < l.length) = true := decide_eq_true (by omega)
            by_cases h40 : i < 40
            · have d2 : decide ((i : Int) < 40) = true := decide_eq_true (by omega)
              obtain ⟨b, hpb, hb⟩ := HP.out.some_at PartD.cs_len (by decide) hlt
              obtain ⟨x, ht⟩ : ∃ t, l[i]? = some t := ⟨_, List.getElem?_eq_getElem hlt⟩
              have hxz := HZ.out x (List.mem_of_getElem? ht)
              obtain ⟨k, n, v, t⟩ := x
              dsimp only at hxz
              obtain ⟨hxn, hxv, hxt⟩ := hxz
              have E1 := Lib.hid (show Cells W (b.add (i * 4)) [.int .i64 k, .string n, .string v, .string t] from hb.elem PartD.cs 4 PartD.cs_len ht)
              clear hb
              subst hpb
              have HVd := Lib.hid (fun W => rValid_any v W (by omega))
              by_cases e0 : 2000 < v.size
              · have f0 : decide ((2000 : Int) < (v.size : Int)) = true := decide_eq_true (by omega)
                as_aux_lemma =>
                go_wp2_with (first | ((with_reducible refine iat 47 ?_); (refine ixa (i := i) rfl rfl rfl hlt ?_)) | ((with_reducible refine iat 55 ?_); (refine ixa (i := i) rfl rfl rfl hlt ?_)) | ((with_reducible refine iat 65 ?_); (refine ixa (i := i) rfl rfl rfl hlt ?_)) | ((with_reducible refine iat 74 ?_); (refine ixa (i := i) rfl rfl rfl hlt ?_)) | ((with_reducible refine iat 49 ?_); (refine ldx1 (HM.out.olds E1.out 2 _ rfl) rfl ?_)) | ((with_reducible refine iat 57 ?_); (refine ldx1 (HM.out.olds E1.out 2 _ rfl) rfl ?_)) | ((with_reducible refine iat 67 ?_); (refine ldx1 (HM.out.olds E1.out 3 _ rfl) rfl ?_)) | ((with_reducible refine iat 76 ?_); (refine ldx1 (HM.out.olds E1.out 2 _ rfl) rfl ?_)) | (go_at_call 19; (with_reducible refine cB HM (HVd.out _) ?_); clear HM; intro W1 HM))
                go_ret
                exact ⟨rfl, HM.out.below⟩
              · have f0 : decide ((2000 : Int) < (v.size : Int)) = false := decide_eq_false (by omega)
                cases hvt : textB v with
                | false =>
                  rw [hvt] at HVd
                  clear hvt
                  as_aux_lemma =>
                  go_wp2_with (first | ((with_reducible refine iat 47 ?_); (refine ixa (i := i) rfl rfl rfl hlt ?_)) | ((with_reducible refine iat 55 ?_); (refine ixa (i := i) rfl rfl rfl hlt ?_)) | ((with_reducible refine iat 65 ?_); (refine ixa (i := i) rfl rfl rfl hlt ?_)) | ((with_reducible refine iat 74 ?_); (refine ixa (i := i) rfl rfl rfl hlt ?_)) | ((with_reducible refine iat 49 ?_); (refine ldx1 (HM.out.olds E1.out 2 _ rfl) rfl ?_)) | ((with_reducible refine iat 57 ?_); (refine ldx1 (HM.out.olds E1.out 2 _ rfl) rfl ?_)) | ((with_reducible refine iat 67 ?_); (refine ldx1 (HM.out.olds E1.out 3 _ rfl) rfl ?_)) | ((with_reducible refine iat 76 ?_); (refine ldx1 (HM.out.olds E1.out 2 _ rfl) rfl ?_)) | (go_at_call 19; (with_reducible refine cB HM (HVd.out _) ?_); clear HM; intro W1 HM))
                  go_ret
                  exact ⟨rfl, HM.out.below⟩
                | true =>
                  rw [hvt] at HVd
                  clear hvt
                  by_cases e2 : 1000 < t.size
                  · have f2 : decide ((1000 : Int) < (t.size : Int)) = true := decide_eq_true (by omega)
                    as_aux_lemma =>
                    go_wp2_with (first | ((with_reducible refine iat 47 ?_); (refine ixa (i := i) rfl rfl rfl hlt ?_)) | ((with_reducible refine iat 55 ?_); (refine ixa (i := i) rfl rfl rfl hlt ?_)) | ((with_reducible refine iat 65 ?_); (refine ixa (i := i) rfl rfl rfl hlt ?_)) | ((with_reducible refine iat 74 ?_); (refine ixa (i := i) rfl rfl rfl hlt ?_)) | ((with_reducible refine iat 49 ?_); (refine ldx1 (HM.out.olds E1.out 2 _ rfl) rfl ?_)) | ((with_reducible refine iat 57 ?_); (refine ldx1 (HM.out.olds E1.out 2 _ rfl) rfl ?_)) | ((with_reducible refine iat 67 ?_); (refine ldx1 (HM.out.olds E1.out 3 _ rfl) rfl ?_)) | ((with_reducible refine iat 76 ?_); (refine ldx1 (HM.out.olds E1.out 2 _ rfl) rfl ?_)) | (go_at_call 19; (with_reducible refine cB HM (HVd.out _) ?_); clear HM; intro W1 HM))
                    go_ret
                    exact ⟨rfl, HM.out.below⟩
                  · have f2 : decide ((1000 : Int) < (t.size : Int)) = false := decide_eq_false (by omega)
                    by_cases e3 : 1000 < v.size
                    · have f3 : decide ((1000 : Int) < (v.size : Int)) = true := decide_eq_true (by omega)
                      as_aux_lemma =>
                      go_wp2_with (first | ((with_reducible refine iat 47 ?_); (refine ixa (i := i) rfl rfl rfl hlt ?_)) | ((with_reducible refine iat 55 ?_); (refine ixa (i := i) rfl rfl rfl hlt ?_)) | ((with_reducible refine iat 65 ?_); (refine ixa (i := i) rfl rfl rfl hlt ?_)) | ((with_reducible refine iat 74 ?_); (refine ixa (i := i) rfl rfl rfl hlt ?_)) | ((with_reducible refine iat 49 ?_); (refine ldx1 (HM.out.olds E1.out 2 _ rfl) rfl ?_)) | ((with_reducible refine iat 57 ?_); (refine ldx1 (HM.out.olds E1.out 2 _ rfl) rfl ?_)) | ((with_reducible refine iat 67 ?_); (refine ldx1 (HM.out.olds E1.out 3 _ rfl) rfl ?_)) | ((with_reducible refine iat 76 ?_); (refine ldx1 (HM.out.olds E1.out 2 _ rfl) rfl ?_)) | (go_at_call 19; (with_reducible refine cB HM (HVd.out _) ?_); clear HM; intro W1 HM))
                      go_ret
                      exact ⟨rfl, HM.out.below⟩
                    · have f3 : decide ((1000 : Int) < (v.size : Int)) = false := decide_eq_false (by omega)
                      by_cases e4 : 100 < bs.size
                      · have f4 : decide ((100 : Int) < (bs.size : Int)) = true := decide_eq_true (by omega)
                        as_aux_lemma =>
                        go_wp2_with (first | ((with_reducible refine iat 47 ?_); (refine ixa (i := i) rfl rfl rfl hlt ?_)) | ((with_reducible refine iat 55 ?_); (refine ixa (i := i) rfl rfl rfl hlt ?_)) | ((with_reducible refine iat 65 ?_); (refine ixa (i := i) rfl rfl rfl hlt ?_)) | ((with_reducible refine iat 74 ?_); (refine ixa (i := i) rfl rfl rfl hlt ?_)) | ((with_reducible refine iat 49 ?_); (refine ldx1 (HM.out.olds E1.out 2 _ rfl) rfl ?_)) | ((with_reducible refine iat 57 ?_); (refine ldx1 (HM.out.olds E1.out 2 _ rfl) rfl ?_)) | ((with_reducible refine iat 67 ?_); (refine ldx1 (HM.out.olds E1.out 3 _ rfl) rfl ?_)) | ((with_reducible refine iat 76 ?_); (refine ldx1 (HM.out.olds E1.out 2 _ rfl) rfl ?_)) | (go_at_call 19; (with_reducible refine cB HM (HVd.out _) ?_); clear HM; intro W1 HM))
                        go_ret
                        exact ⟨rfl, HM.out.below⟩
                      · have f4 : decide ((100 : Int) < (bs.size : Int)) = false := decide_eq_false (by omega)
                        obtain ⟨v2, hv2⟩ : ∃ x : ByteArray, (⟨(woL v.data.toList).toArray⟩ : ByteArray) = x := ⟨_, rfl⟩
                        have hv2z : v2.size ≤ v.size := by rw [← hv2]; exact wo_size v
                        have HWo := Lib.hid (fun W => without_any v W (by omega))
                        rw [hv2] at HWo
                        have hfx : fixP true ⟨k, n, v, t⟩ = ⟨k, n, v2, t⟩ := by unfold fixP; rw [if_pos rfl, ← hv2]
                        have HSp := Lib.hid (fun W h => spelled_any ⟨k, n, v2, t⟩ bs ⟨#[39]⟩ 39 W h (by dsimp only; omega) (by dsimp only; omega) (by dsimp only; omega) (by omega) rfl)
                        as_aux_lemma =>
                        go_wp2_with (first | ((with_reducible refine iat 47 ?_); (refine ixa (i := i) rfl rfl rfl hlt ?_)) | ((with_reducible refine iat 55 ?_); (refine ixa (i := i) rfl rfl rfl hlt ?_)) | ((with_reducible refine iat 65 ?_); (refine ixa (i := i) rfl rfl rfl hlt ?_)) | ((with_reducible refine iat 74 ?_); (refine ixa (i := i) rfl rfl rfl hlt ?_)) | ((with_reducible refine iat 49 ?_); (refine ldx1 (HM.out.olds E1.out 2 _ rfl) rfl ?_)) | ((with_reducible refine iat 57 ?_); (refine ldx1 (HM.out.olds E1.out 2 _ rfl) rfl ?_)) | ((with_reducible refine iat 67 ?_); (refine ldx1 (HM.out.olds E1.out 3 _ rfl) rfl ?_)) | ((with_reducible refine iat 76 ?_); (refine ldx1 (HM.out.olds E1.out 2 _ rfl) rfl ?_)) | (go_at_call 19; (with_reducible refine cB HM (HVd.out _) ?_); clear HM; intro W1 HM) | ((with_reducible refine iat 87 ?_); (refine ixa (i := i) rfl rfl rfl hlt ?_)) | ((with_reducible refine iat 88 ?_); (refine ldxW (HM.out.olds E1.out) rfl rfl ?_)) | ((with_reducible refine skip_op ?_ ?_); exact rfl) | refine mP ?_ | (refine mS ?_; clear HM; intro W1 HM) | (refine hal (dst := some 12) HM rfl ?_; clear HM; intro g12 W1 HM) | (go_at_call 20; (with_reducible refine cB HM (HWo.out _) ?_); clear HM; intro W1 HM))
                        refine (HSp.out _ (HT.out.below HM.out.below)).mono ?_
                        rintro e W3 h
                        cases hok : spOk (fixP true ⟨k, n, v, t⟩) with
                        | false =>
                          have HN := Lib.hid (okL_no (single := true) ht hok)
                          unfold SpPost at h
                          rw [← hfx, hok] at h
                          obtain ⟨rfl, hb⟩ := h
                          have HM1 := Lib.hid (HM.out.next hb)
                          clear HM hb hok ht
                          have HM := HM1
                          clear HM1
                          as_aux_lemma =>
                          go_wp2_with fail
                          go_roundw
                          case rel => exact ⟨i + 1, S, ms, rr, c, rfl, rfl, by go_num, by omega, by omega, by omega, by omega, Lib.hid (by rw [HN.out]; exact HS.out), Lib.hid (by rw [HN.out]; exact HD.out), Lib.hid (HM.out.sub (.cons _ (.refl _)))⟩
                          case measure => simp [intOf]; omega
                        | true =>
                          have HN := Lib.hid (okL_yes (single := true) ht hok)
                          unfold SpPost at h
                          rw [← hfx, hok] at h
                          obtain ⟨s2, ms2, r2, c2, hs2, hz2, hm2, hd2, rfl, hM2⟩ := h
                          have HM1 := Lib.hid (law_join HM.out hM2)
                          have HS2 := Lib.hid hs2
                          have HD2 := Lib.hid hd2
                          have HSl := Lib.hid (row_sl (hM2.get (k := 0) rfl))
                          have hC2 := outC_len ms2
                          have HNl := Lib.hid (HSl.out.nil_len EvM.cs_len (by decide))
                          clear HM hM2 hok ht hs2 hd2
                          have HM := HM1
                          clear HM1
                          as_aux_lemma =>
                          go_wp2_with (first | ((with_reducible refine iat 105 ?_); (refine scat rfl rfl (by omega) ?_; intro S2 hS2 hz3)) | ((with_reducible refine iat 108 ?_); (refine apr rfl HM.out 0 rfl rfl rfl hC2 HNl.out HSl.out.2 (outC_one ms2) (by unfold maxLen; omega) (by omega) ?_; intro p1 cap1 W2 HM1 hnil; clear hnil; clear HM; (try clear W1); rename World => W1; have HM := Lib.hid HM1; clear HM1; simp only [List.set] at HM)))
                          go_roundw
                          case rel => exact ⟨i + 1, S2, ms ++ ms2, p1, cap1, rfl, by rw [List.length_append], by go_num, by omega, by omega, by omega, by rw [List.length_append]; omega, Lib.hid (by rw [HN.out, hS2, HS.out, HS2.out]; simp [fixP]), Lib.hid (by rw [HN.out, outD_app, HD.out, HD2.out]; simp [fixP]), Lib.hid (law_drop (by rw [outC_app, List.length_append]; exact HM.out))⟩
                          case measure => simp [intOf]; omega
            · have d2 : decide ((i : Int) < 40) = false := decide_eq_false (by omega)
              have HMs := Lib.hid (mark_spells (S := S) HBk.out (okL_ok true (l.take i)) (.inr ⟨rfl, okL_no39 _⟩) HS.out)
              have HLs := Lib.hid (show ∀ e ∈ (okL true (l.take i)).flatMap spV, e.l.length ≤ 4611686018427387904 by
                intro e he
                obtain ⟨y, _, hy⟩ := List.mem_flatMap.1 he
                have := spV_small y e hy
                omega)
              clear HS
              generalize (okL true (l.take i)).flatMap spV = evs at *
              by_cases hbig : 300000 < S.size
              · have d4 : decide ((300000 : Int) < (S.size : Int)) = true := decide_eq_true (by omega)
                as_aux_lemma =>
                go_wp2_with fail
                go_ret
                exact ⟨rfl, HM.out.below⟩
              · have d4 : decide ((300000 : Int) < (S.size : Int)) = false := decide_eq_false (by omega)
                have HR := Lib.hid (fun W h1 h2 h3 => mRead_any S W _ (HMs.out (by omega)) h1 h2 h3 (by omega))
                clear HMs
                as_aux_lemma =>
                go_wp2_with fail
                refine (HR.out _ (HT.out.below HM.out.below) (HE.out.below HM.out.below) (HX.out.below HM.out.below)).mono ?_
                rintro e W3 ⟨ms2, p2, c2, hl2, hms2, rfl, hM2⟩
                clear HR
                have HM0 := Lib.hid (HM.out.comp2 hM2)
                clear HM
                have HM := HM0
                have HI1 := Lib.hid (evin_of (ms := ms2) (p := p2) (c := c2) HM.out (by simp) (by intro r hr; simp [hr]) (by rw [hl2]; exact HLs.out))
                have HI2 := Lib.hid (evin_of (ms := ms) (p := rr) (c := c) HM.out (by simp) (by intro r hr; simp [hr]) (by rw [HD.out]; exact HLs.out))
                have HDD := Lib.hid (hl2.trans HD.out.symm)
                clear hl2 HM0 hM2
                go_wp2_with (first | (go_at_call 17; (with_reducible refine cB HM (rsame_any p2 rr c2 c ms2 ms _ HI1.out HI2.out HDD.out (by omega)) ?_); clear HM; intro W1 HM))
                go_ret
                exact ⟨rfl, HM.out.below⟩
          · have d1 : decide ((i : Int) < l.length) = false := decide_eq_false (by omega)
            have HMs := Lib.hid (mark_spells (S := S) HBk.out (okL_ok true (l.take i)) (.inr ⟨rfl, okL_no39 _⟩) HS.out)
            have HLs := Lib.hid (show ∀ e ∈ (okL true (l.take i)).flatMap spV, e.l.length ≤ 4611686018427387904 by
              intro e he
              obtain ⟨y, _, hy⟩ := List.mem_flatMap.1 he
              have := spV_small y e hy
              omega)
            clear HS
            generalize (okL true (l.take i)).flatMap spV = evs at *
            by_cases hbig : 300000 < S.size
            · have d4 : decide ((300000 : Int) < (S.size : Int)) = true := decide_eq_true (by omega)
              as_aux_lemma =>
              go_wp2_with fail
              go_ret
              exact ⟨rfl, HM.out.below⟩
            · have d4 : decide ((300000 : Int) < (S.size : Int)) = false := decide_eq_false (by omega)
              have HR := Lib.hid (fun W h1 h2 h3 => mRead_any S W _ (HMs.out (by omega)) h1 h2 h3 (by omega))
              clear HMs
              as_aux_lemma =>
              go_wp2_with fail
              refine (HR.out _ (HT.out.below HM.out.below) (HE.out.below HM.out.below) (HX.out.below HM.out.below)).mono ?_
              rintro e W3 ⟨ms2, p2, c2, hl2, hms2, rfl, hM2⟩
              clear HR
              have HM0 := Lib.hid (HM.out.comp2 hM2)
              clear HM
              have HM := HM0
              have HI1 := Lib.hid (evin_of (ms := ms2) (p := p2) (c := c2) HM.out (by simp) (by intro r hr; simp [hr]) (by rw [hl2]; exact HLs.out))
              have HI2 := Lib.hid (evin_of (ms := ms) (p := rr) (c := c) HM.out (by simp) (by intro r hr; simp [hr]) (by rw [HD.out]; exact HLs.out))
              have HDD := Lib.hid (hl2.trans HD.out.symm)
              clear hl2 HM0 hM2
              go_wp2_with (first | (go_at_call 17; (with_reducible refine cB HM (rsame_any p2 rr c2 c ms2 ms _ HI1.out HI2.out HDD.out (by omega)) ?_); clear HM; intro W1 HM))
              go_ret
              exact ⟨rfl, HM.out.below⟩
end Go.Proofs.YtfnodoepeiknhaaGreatDoor
