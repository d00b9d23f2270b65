/- LexPlaces: the law's walk. (fast) -/
import Derived.Test.YtinkdemjjnfphaaGreatDoorLexKnown
import Derived.Test.YtinkdemjjnfphaaGreatDoorLexChain
import Derived.Test.YtinkdemjjnfphaaGreatDoorRefLexRead
namespace Go.Proofs.YtinkdemjjnfphaaGreatDoor
open Go.RowKit
set_option linter.unusedVariables false
set_option linter.unusedSimpArgs false
set_option maxRecDepth 100000

def TOK99 : List Value := [.int .i64 99, .string ⟨#[]⟩, .bool false, .int .u64 0, .int .u64 0, .int .i64 0, .int .i64 0, .int .i64 0]
set_option maxHeartbeats 16000000 in
theorem lexPlaces_walk (s : ByteArray) (w : World) (hT : U8 w) :
    Calls Tryz.prog 4 #[.string s] w fun e w' => e = .returned (.bool true) ∧ Below w.heap.size w w' := by
  have HM := Lib.hid (Mem.start w)
  have HT := Lib.hid hT
  have HA := Lib.hid (fun W => rlexRead_any s W)
  have HB := Lib.hid (fun W h => lexRead_any s W h)
  have HC := Lib.hid (lexF_chain s)
  have h1000 := lexF_small s
  unfold LexPost at HA HB
  obtain ⟨⟨ts, er⟩, hr⟩ : ∃ x, lexF s = x := ⟨_, rfl⟩
  rw [hr] at HC h1000
  have h1000' : ts.length ≤ 1000 := h1000
  simp only [hr] at HA HB
  have HS := Lib.hid (fun (p q : Option Addr) (c d : Nat) W h1 h2 => sameTok_any p q c d ts W h1 h2 (Nat.le_trans h1000' (by decide)))
  by_cases h0 : er = 0
  · subst h0
    have HCh := Lib.hid HC.out.2
    obtain ⟨n, hn⟩ : ∃ n, ts.length = n := ⟨_, rfl⟩
    have HN := Lib.hid hn
    simp only [hn] at HA HB HS
    have hn1 : n ≤ 1000 := by omega
    clear hT hr hn h1000 h1000' HC
    go_enter Tryz.func4, Tryz.ntmps4
    go_wp2_with (first | (go_at_call 5; (with_reducible refine (known_any _ (U8.below HT.out HM.out.below)).mono ?_); rintro e W1 ⟨rfl, hb⟩; replace HM := Lib.hid (HM.out.next hb); clear hb) | (go_at_call 7; (with_reducible refine (HB.out _ (U8.below HT.out HM.out.below)).mono ?_); rintro e W2 ⟨p, oc, rfl, hM2⟩; have HM1 := Lib.hid (HM.out.comp2 hM2); clear HM hM2; (try clear W1); rename World => W1; have HM := HM1; clear HM1; simp only [List.cons_append, List.nil_append] at HM))
    go_loopw [6, 5] (fun iv lv wr => ∃ (i : Nat) (last : Int), iv = .int .i64 i ∧ lv = .int .i64 last ∧ i ≤ n ∧ Hid (∀ t, ts[i]? = some t → last < t.at_) ∧ Hid (Mem w wr [.row p oc 35 8 n (ts.flatMap TokD.cs)])) (fun iv _ _ => n - (intOf iv).toNat)
    case atStart => exact ⟨0, -1, rfl, rfl, Nat.zero_le _, Lib.hid (fun t _ => by omega), HM⟩
    case round =>
      clear HM
      obtain ⟨i, last, rfl, rfl, hi, HLa, HM⟩ := hrel
      by_cases hlt : i < n
      · obtain ⟨t, ht⟩ : ∃ t, ts[i]? = some t := ⟨_, List.getElem?_eq_getElem (by rw [HN.out]; exact hlt)⟩
        obtain ⟨hok, -⟩ := HCh.out.ok ht
        obtain ⟨ho1, ho2, ho3, ho4, ho5⟩ := hok
        have hla := HLa.out t ht
        have HLb := Lib.hid (show ∀ u, ts[i + 1]? = some u → (t.at_ : Int) < u.at_ from fun u hu => by have := HCh.out.next ht hu; omega)
        have hsl := row_sl (HM.out.get (k := 0) rfl)
        obtain ⟨b, hp, hb⟩ := hsl.some_at TokD.cs_len (by decide) (show i < ts.length by rw [HN.out]; exact hlt)
        have hel := hb.elem TokD.cs 8 TokD.cs_len ht
        obtain ⟨kd, tx, nu, sc, dy, pa⟩ := t
        dsimp only at ho1 ho2 ho3 ho4 ho5 hla HLb
        have hcs : (⟨kd, tx, nu, sc, dy, pa⟩ : TokD).cs = [.int .i64 kd, .string tx, .bool false, .int .u64 (nu / 18446744073709551616 : Nat), .int .u64 (nu % 18446744073709551616 : Nat), .int .i64 sc, .int .i64 dy, .int .i64 pa] := rfl
        rw [hcs] at hel
        generalize nu / 18446744073709551616 = nh at hel
        generalize nu % 18446744073709551616 = nl at hel
        have HE := Lib.hid hel
        subst hp
        have hlt3 := Lib.hid (show i + 1 ≤ n from hlt)
        have d1 : decide ((i : Int) < n) = true := decide_eq_true (by omega)
        have c1 : decide ((pa : Int) ≤ last) = false := decide_eq_false (by omega)
        have c2 : decide ((s.size : Int) ≤ pa) = false := decide_eq_false (by omega)
        have c2' : decide (s.size ≤ pa) = false := decide_eq_false (by omega)
        have c3 : decide (kd < 1) = false := decide_eq_false (by omega)
        have c4 : decide ((6 : Int) < kd) = false := decide_eq_false (by omega)
        have HNm := Lib.hid (fun (h : kd = 4) (W : World) => (show Calls Tryz.prog 9 #[.string tx] W fun e w' => e = .returned (.bool true) ∧ W = w' from ho4 h ▸ rname_any tx W))
        have HWd := Lib.hid (fun (h : kd = 5) (W : World) => (show Calls Tryz.prog 10 #[.string tx] W fun e w' => e = .returned (.bool true) ∧ W = w' from ho5 h ▸ rword_any tx W))
        clear hb hel hsl ht ho1 ho2 ho3 ho4 ho5 hcs hla
        rcases (show kd = 4 ∨ kd = 5 ∨ (kd ≠ 4 ∧ kd ≠ 5) by omega) with h4 | h5 | ⟨h4, h5⟩
        · subst h4
          have HNn := Lib.hid (HNm.out rfl)
          clear HNm HWd c3 c4
          go_wp2_with (first | ((with_reducible refine iat 33 ?_); (refine ixa rfl rfl (i := i) rfl hlt ?_)) | ((with_reducible refine iat 34 ?_); (refine ldxW HE.out rfl rfl ?_)) | (go_at_call 9; (with_reducible refine (HNn.out _).mono ?_); rintro e W2 ⟨rfl, rfl⟩) | ((with_reducible refine igd ?_); (with_reducible refine skip_op ?_ ?_); (exact rfl)) | ((with_reducible refine iload ?_); first | refine ldb1 HM.out 0 rfl rfl rfl ?_ | refine ldbW HM.out 0 rfl rfl rfl ?_ | (refine ldbS HM.out 0 rfl rfl rfl ?_; simp only [List.take, List.drop])) | ((with_reducible refine istore ?_); (first | (refine stbW rfl HM.out 0 rfl rfl rfl rfl rfl rfl ?_; intro W1 HM1; replace HM := Lib.hid HM1; clear HM1; simp only [List.set] at HM) | (refine stbS rfl HM.out 0 rfl rfl rfl rfl rfl rfl ?_; intro W1 HM1; replace HM := Lib.hid HM1; clear HM1; simp only [lss, Nat.reduceAdd] at HM))) | ((with_reducible refine ialloc (d := some 7) ?_); refine alb rfl HM.out ?_; intro g7 W1 HM1; replace HM := Lib.hid HM1; clear HM1))
          go_roundw
          case rel => exact ⟨i + 1, pa, by go_num, rfl, hlt3.out, HLb, Lib.hid (HM.out.sub (.cons _ (.refl _)))⟩
          case measure => have := hlt3.out; simp [intOf]; omega
        · subst h5
          have HNn := Lib.hid (HWd.out rfl)
          clear HNm HWd c3 c4
          go_wp2_with (first | ((with_reducible refine iat 33 ?_); (refine ixa rfl rfl (i := i) rfl hlt ?_)) | ((with_reducible refine iat 34 ?_); (refine ldxW HE.out rfl rfl ?_)) | (go_at_call 10; (with_reducible refine (HNn.out _).mono ?_); rintro e W2 ⟨rfl, rfl⟩) | ((with_reducible refine igd ?_); (with_reducible refine skip_op ?_ ?_); (exact rfl)) | ((with_reducible refine iload ?_); first | refine ldb1 HM.out 0 rfl rfl rfl ?_ | refine ldbW HM.out 0 rfl rfl rfl ?_ | (refine ldbS HM.out 0 rfl rfl rfl ?_; simp only [List.take, List.drop])) | ((with_reducible refine istore ?_); (first | (refine stbW rfl HM.out 0 rfl rfl rfl rfl rfl rfl ?_; intro W1 HM1; replace HM := Lib.hid HM1; clear HM1; simp only [List.set] at HM) | (refine stbS rfl HM.out 0 rfl rfl rfl rfl rfl rfl ?_; intro W1 HM1; replace HM := Lib.hid HM1; clear HM1; simp only [lss, Nat.reduceAdd] at HM))) | ((with_reducible refine ialloc (d := some 7) ?_); refine alb rfl HM.out ?_; intro g7 W1 HM1; replace HM := Lib.hid HM1; clear HM1))
          go_roundw
          case rel => exact ⟨i + 1, pa, by go_num, rfl, hlt3.out, HLb, Lib.hid (HM.out.sub (.cons _ (.refl _)))⟩
          case measure => have := hlt3.out; simp [intOf]; omega
        · have q4 : (kd == 4) = false := by simpa using h4
          have q5 : (kd == 5) = false := by simpa using h5
          clear HNm HWd h4 h5
          go_wp2_with (first | ((with_reducible refine iat 33 ?_); (refine ixa rfl rfl (i := i) rfl hlt ?_)) | ((with_reducible refine iat 34 ?_); (refine ldxW HE.out rfl rfl ?_)) | ((with_reducible refine igd ?_); (with_reducible refine skip_op ?_ ?_); (exact rfl)) | ((with_reducible refine iload ?_); first | refine ldb1 HM.out 0 rfl rfl rfl ?_ | refine ldbW HM.out 0 rfl rfl rfl ?_ | (refine ldbS HM.out 0 rfl rfl rfl ?_; simp only [List.take, List.drop])) | ((with_reducible refine istore ?_); (first | (refine stbW rfl HM.out 0 rfl rfl rfl rfl rfl rfl ?_; intro W1 HM1; replace HM := Lib.hid HM1; clear HM1; simp only [List.set] at HM) | (refine stbS rfl HM.out 0 rfl rfl rfl rfl rfl rfl ?_; intro W1 HM1; replace HM := Lib.hid HM1; clear HM1; simp only [lss, Nat.reduceAdd] at HM))) | ((with_reducible refine ialloc (d := some 7) ?_); refine alb rfl HM.out ?_; intro g7 W1 HM1; replace HM := Lib.hid HM1; clear HM1))
          go_roundw
          case rel => exact ⟨i + 1, pa, by go_num, rfl, hlt3.out, HLb, Lib.hid (HM.out.sub (.cons _ (.refl _)))⟩
          case measure => have := hlt3.out; simp [intOf]; omega
      · obtain rfl : i = n := by omega
        have d1 : decide ((i : Int) < i) = false := by simp
        go_wp2_with (first | (go_at_call 7; (with_reducible refine (HB.out _ (U8.below HT.out HM.out.below)).mono ?_); rintro e W2 ⟨p2, oc2, rfl, hM2⟩; have HM1 := Lib.hid (HM.out.comp2 hM2); clear HM hM2; (try clear W1); rename World => W1; have HM := HM1; clear HM1; simp only [List.cons_append, List.nil_append] at HM))
        go_loopw [10] (fun jv wr => ∃ (j : Nat) (cs : List Value), jv = .int .i64 j ∧ j ≤ i ∧ Hid (Mem w wr [.row p2 oc2 35 8 i cs, .row p oc 35 8 i (ts.flatMap TokD.cs)])) (fun jv _ => i - (intOf jv).toNat)
        case atStart => exact ⟨0, _, rfl, Nat.zero_le _, HM⟩
        case round =>
          clear HM
          obtain ⟨j, cs, rfl, hj, HM⟩ := hrel
          by_cases hlj : j < i
          · obtain ⟨b, rfl⟩ : ∃ b, p2 = some b := by
              cases p2 with
              | none => have h := (row_sl (HM.out.get (k := 0) rfl)).1 rfl; have h2 := (row_cap (HM.out.get (k := 0) rfl)).2.2; rw [h] at h2; simp at h2; omega
              | some b => exact ⟨b, rfl⟩
            have hcl : j * 8 + 8 ≤ cs.length := by rw [(row_cap (HM.out.get (k := 0) rfl)).2.2]; omega
            have hlj3 := Lib.hid (show j + 1 ≤ i from hlj)
            have d1 : decide ((j : Int) < i) = true := decide_eq_true (by omega)
            go_wp2_with (first | ((with_reducible refine iat 92 ?_); (refine ixa rfl rfl (i := j) rfl hlj ?_)) | ((with_reducible refine istore ?_); (refine strA (vs := TOK99) (i := j * 8) rfl HM.out 0 rfl rfl rfl rfl ?_ hcl ?_; (intro u hu; revert u hu; decide); intro W1 HM1; replace HM := Lib.hid HM1; clear HM1; simp only [List.set] at HM)))
            go_roundw
            case rel => exact ⟨j + 1, _, by go_num, hlj3.out, HM⟩
            case measure => have := hlj3.out; simp [intOf]; omega
          · obtain rfl : j = i := by omega
            have d1 : decide ((j : Int) < j) = false := by simp
            go_wp2_with (first | (go_at_call 6; (with_reducible refine (HA.out _).mono ?_); rintro e W2 ⟨p3, oc3, rfl, hM2⟩; have HM1 := Lib.hid (HM.out.comp2 hM2); clear HM hM2; (try clear W1); rename World => W1; have HM := HM1; clear HM1; simp only [List.cons_append, List.nil_append] at HM) | (go_at_call 8; (with_reducible refine (HS.out _ _ _ _ _ (row_sl (HM.out.get (k := 2) rfl)) (row_sl (HM.out.get (k := 0) rfl))).mono ?_); rintro e W1 ⟨rfl, hb⟩; replace HM := Lib.hid (HM.out.next hb); clear hb))
            go_ret
            exact ⟨rfl, HM.out.below⟩
  · have hts : ts = [] := HC.out.1 h0
    subst hts
    have q0 : (er == 0) = false := by simpa using h0
    have q1 : (er != 0) = true := by simpa using h0
    simp only [show ([] : List TokD).length = 0 from rfl] at HB
    clear hT hr h1000 h1000' HC h0 HS HA
    go_enter Tryz.func4, Tryz.ntmps4
    go_wp2_with (first | (go_at_call 5; (with_reducible refine (known_any _ (U8.below HT.out HM.out.below)).mono ?_); rintro e W1 ⟨rfl, hb⟩; replace HM := Lib.hid (HM.out.next hb); clear hb) | (go_at_call 7; (with_reducible refine (HB.out _ (U8.below HT.out HM.out.below)).mono ?_); rintro e W2 ⟨p, oc, rfl, hM2⟩; have HM1 := Lib.hid (HM.out.comp2 hM2); clear HM hM2; (try clear W1); rename World => W1; have HM := HM1; clear HM1; simp only [List.cons_append, List.nil_append] at HM))
    go_ret
    exact ⟨rfl, HM.out.below⟩
end Go.Proofs.YtinkdemjjnfphaaGreatDoor
