/- LexJoins: the law's walk. (fast) -/
import Derived.Test.YtinkdemjjnfphaaDoorLexKnown
import Derived.Test.YtinkdemjjnfphaaDoorLexJoinP
namespace Go.Proofs.YtinkdemjjnfphaaDoor
open Go.RowKit
set_option linter.unusedVariables false
set_option linter.unusedSimpArgs false
set_option maxRecDepth 100000

def PADL : List UInt8 := [32, 9, 10, 13]
def padS (i : Nat) : ByteArray := ⟨(PADL.take i).toArray⟩
theorem padS_list (i : Nat) : (padS i).data.toList = PADL.take i := rfl
theorem padS_size {i : Nat} (h : i ≤ 4) : (padS i).size = i := by
  show (PADL.take i).length = i
  rw [List.length_take]
  exact Nat.min_eq_left h
theorem padS_blank (i : Nat) : ∀ x ∈ PADL.take i, blankB x = true := fun x hx => by
  have h : x ∈ PADL := List.mem_of_mem_take hx
  unfold PADL at h
  simp only [List.mem_cons, List.not_mem_nil, or_false] at h
  rcases h with rfl | rfl | rfl | rfl <;> decide
theorem joinU_list (k : Nat) (s t : ByteArray) : (padS k ++ s ++ ⟨#[32]⟩ ++ t ++ padS k).data.toList = PADL.take k ++ s.data.toList ++ [32] ++ t.data.toList ++ PADL.take k := by
  simp [padS]

theorem Mem.anew {w0 W : World} {L : List Res} (h : Mem w0 W L) : Mem W W [] := Mem.start W

set_option maxHeartbeats 16000000 in
theorem lexJoins_walk (s t : ByteArray) (bl : Int) (w : World) (hT : U8 w) :
    Calls Tryd.prog 3 #[.string s, .string t, .int .i64 bl] w fun e w' => e = .returned (.bool true) ∧ Below w.heap.size w w' := by
  have HM := Lib.hid (Mem.start w)
  have HT := Lib.hid hT
  clear hT
  by_cases h1 : 400 < s.size
  · have g1 : decide ((400 : Int) < s.size) = true := decide_eq_true (by omega)
    have g1' : decide (400 < s.size) = true := decide_eq_true h1
    go_enter Tryd.func3, Tryd.ntmps3
    go_wp2_with (first | (go_at_call 4; (with_reducible refine (known_any _ (U8.below HT.out HM.out.below)).mono ?_); rintro e W1 ⟨rfl, hb⟩; replace HM := Lib.hid (HM.out.next hb); clear hb))
    go_ret
    exact ⟨rfl, HM.out.below⟩
  have g1 : decide ((400 : Int) < s.size) = false := decide_eq_false (by omega)
  have g1' : decide (400 < s.size) = false := decide_eq_false h1
  by_cases h2 : 400 < t.size
  · have g2 : decide ((400 : Int) < t.size) = true := decide_eq_true (by omega)
    have g2' : decide (400 < t.size) = true := decide_eq_true h2
    go_enter Tryd.func3, Tryd.ntmps3
    go_wp2_with (first | (go_at_call 4; (with_reducible refine (known_any _ (U8.below HT.out HM.out.below)).mono ?_); rintro e W1 ⟨rfl, hb⟩; replace HM := Lib.hid (HM.out.next hb); clear hb))
    go_ret
    exact ⟨rfl, HM.out.below⟩
  have g2 : decide ((400 : Int) < t.size) = false := decide_eq_false (by omega)
  have g2' : decide (400 < t.size) = false := decide_eq_false h2
  have HA := Lib.hid (fun W h => lexRead_any s W h)
  have HB := Lib.hid (fun W h => lexRead_any t W h)
  unfold LexPost at HA HB
  obtain ⟨⟨ta, ea⟩, ha⟩ : ∃ x, lexF s = x := ⟨_, rfl⟩
  obtain ⟨⟨tb, eb⟩, hb⟩ : ∃ x, lexF t = x := ⟨_, rfl⟩
  simp only [ha] at HA
  simp only [hb] at HB
  obtain ⟨k, hk, hk4⟩ : ∃ k : Nat, (IntKind.wrap .u64 bl).tmod 5 = k ∧ k ≤ 4 := by
    have h0 : 0 ≤ IntKind.wrap .u64 bl := by unfold IntKind.wrap; simp [IntKind.bits, IntKind.signed]; omega
    refine ⟨((IntKind.wrap .u64 bl).tmod 5).toNat, ?_, ?_⟩
    · rw [Int.tmod_eq_emod_of_nonneg h0]; omega
    · rw [Int.tmod_eq_emod_of_nonneg h0]; omega
  have p0 := padS_size hk4
  have ad1 := fun W => run_string_add_sum (P := Tryd.prog) W (padS k) s (by omega)
  have ad2 := fun W => run_string_add_sum (P := Tryd.prog) W (padS k ++ s) ⟨#[32]⟩ (by rw [ByteArray.size_append]; have : (⟨#[32]⟩ : ByteArray).size = 1 := rfl; omega)
  have ad3 := fun W => run_string_add_sum (P := Tryd.prog) W (padS k ++ s ++ ⟨#[32]⟩) t (by rw [ByteArray.size_append, ByteArray.size_append]; have : (⟨#[32]⟩ : ByteArray).size = 1 := rfl; omega)
  have ad4 := fun W => run_string_add_sum (P := Tryd.prog) W (padS k ++ s ++ ⟨#[32]⟩ ++ t) (padS k) (by rw [ByteArray.size_append, ByteArray.size_append, ByteArray.size_append]; have : (⟨#[32]⟩ : ByteArray).size = 1 := rfl; omega)
  have q0 := fun W => run_string_add_sum (P := Tryd.prog) W (padS 0) ((⟨#[32, 9, 10, 13]⟩ : ByteArray).extract 0 1) (by decide)
  have q1 := fun W => run_string_add_sum (P := Tryd.prog) W (padS 1) ((⟨#[32, 9, 10, 13]⟩ : ByteArray).extract 1 2) (by decide)
  have q2 := fun W => run_string_add_sum (P := Tryd.prog) W (padS 2) ((⟨#[32, 9, 10, 13]⟩ : ByteArray).extract 2 3) (by decide)
  have q3 := fun W => run_string_add_sum (P := Tryd.prog) W (padS 3) ((⟨#[32, 9, 10, 13]⟩ : ByteArray).extract 3 4) (by decide)
  have HU := Lib.hid (fun W h => lexRead_any (padS k ++ s ++ ⟨#[32]⟩ ++ t ++ padS k) W h)
  unfold LexPost at HU
  obtain ⟨⟨tc, ec⟩, hc⟩ : ∃ x, lexF (padS k ++ s ++ ⟨#[32]⟩ ++ t ++ padS k) = x := ⟨_, rfl⟩
  simp only [hc] at HU
  go_enter Tryd.func3, Tryd.ntmps3
  go_wp2_with (first | (go_at_call 4; (with_reducible refine (known_any _ (U8.below HT.out HM.out.below)).mono ?_); rintro e W1 ⟨rfl, hb⟩; replace HM := Lib.hid (HM.out.next hb); clear hb))
  go_loopw [8, 7] (fun iv pv wr => ∃ i : Nat, iv = .int .i64 i ∧ pv = .string (padS i) ∧ i ≤ k ∧ Hid (Mem w wr [])) (fun iv _ _ => k - (intOf iv).toNat)
  case atStart => exact ⟨0, rfl, rfl, Nat.zero_le _, HM⟩
  case round =>
    clear HM
    obtain ⟨i, rfl, rfl, hi, HM⟩ := hrel
    by_cases hlt : i < k
    · have d1 : decide ((i : Int) < k) = true := decide_eq_true (by omega)
      rcases (show i = 0 ∨ i = 1 ∨ i = 2 ∨ i = 3 by omega) with rfl | rfl | rfl | rfl
      · go_wp2_with (first | ((with_reducible refine iat 41 ?_); (refine ssls (i := 0) (j := 1) rfl rfl rfl rfl rfl (by decide) (by decide) ?_)))
        exact ⟨⟨1, rfl, rfl, by omega, HM⟩, by simp [intOf]; omega⟩
      · go_wp2_with (first | ((with_reducible refine iat 41 ?_); (refine ssls (i := 1) (j := 2) rfl rfl rfl rfl rfl (by decide) (by decide) ?_)))
        exact ⟨⟨2, rfl, rfl, by omega, HM⟩, by simp [intOf]; omega⟩
      · go_wp2_with (first | ((with_reducible refine iat 41 ?_); (refine ssls (i := 2) (j := 3) rfl rfl rfl rfl rfl (by decide) (by decide) ?_)))
        exact ⟨⟨3, rfl, rfl, by omega, HM⟩, by simp [intOf]; omega⟩
      · go_wp2_with (first | ((with_reducible refine iat 41 ?_); (refine ssls (i := 3) (j := 4) rfl rfl rfl rfl rfl (by decide) (by decide) ?_)))
        exact ⟨⟨4, rfl, rfl, by omega, HM⟩, by simp [intOf]; omega⟩
    · obtain rfl : i = k := by omega
      have d1 : decide ((i : Int) < i) = false := by simp
      by_cases e1 : ea = 0
      · by_cases e2 : eb = 0
        · subst e1 e2
          have hj := lexF_join (s := s) (t := t) (p := PADL.take i) (joinU_list i s t) (padS_blank i) (by rw [List.length_take]; omega) (by omega) (by omega) ha hb
          have hpl : (PADL.take i).length = i := by rw [List.length_take]; exact Nat.min_eq_left hk4
          rw [hpl, hc] at hj
          obtain ⟨rfl, rfl⟩ := Prod.mk.inj hj
          have la := lexF_small s
          have lb := lexF_small t
          rw [ha] at la
          rw [hb] at lb
          have la' : ta.length ≤ 1000 := la
          have lb' : tb.length ≤ 1000 := lb
          have hlc : (ta.map (shiftT i) ++ tb.map (shiftT (i + s.size + 1))).length = ta.length + tb.length := by simp
          have hCa := (lexF_chain s).2
          have hCb := (lexF_chain t).2
          rw [ha] at hCa
          rw [hb] at hCb
          have HCa := Lib.hid hCa
          have HCb := Lib.hid hCb
          simp only [hlc] at HU
          obtain ⟨na, hna⟩ : ∃ n, ta.length = n := ⟨_, rfl⟩
          obtain ⟨nb, hnb⟩ : ∃ n, tb.length = n := ⟨_, rfl⟩
          have HNa := Lib.hid hna
          have HNb := Lib.hid hnb
          simp only [hna, hnb] at HU HA HB
          rw [hna] at la'
          rw [hnb] at lb'
          clear hj hc ha hb hCa hCb la lb hlc hpl hna hnb q0 q1 q2 q3 hlt
          go_wp2_with (first | (go_at_call 5; (with_reducible refine (HA.out _ (U8.below HT.out HM.out.below)).mono ?_); rintro e W2 ⟨pa, oca, rfl, hM2⟩; have HM1 := Lib.hid (HM.out.comp2 hM2); clear HM hM2; (try clear W1); rename World => W1; have HM := HM1; clear HM1; simp only [List.cons_append, List.nil_append] at HM) | (go_at_call 5; (with_reducible refine (HB.out _ (U8.below HT.out HM.out.below)).mono ?_); rintro e W2 ⟨pb, ocb, rfl, hM2⟩; have HM1 := Lib.hid (HM.out.comp2 hM2); clear HM hM2; (try clear W1); rename World => W1; have HM := HM1; clear HM1; simp only [List.cons_append, List.nil_append] at HM) | (go_at_call 5; (with_reducible refine (HU.out _ (U8.below HT.out HM.out.below)).mono ?_); rintro e W2 ⟨pc, occ, rfl, hM2⟩; have HM1 := Lib.hid (HM.out.comp2 hM2); clear HM hM2; (try clear W1); rename World => W1; have HM := HM1; clear HM1; simp only [List.cons_append, List.nil_append] at HM))
          go_loopw [15] (fun mv wr => ∃ (m : Nat), mv = .int .i64 m ∧ m ≤ na + nb ∧ Hid (Mem w wr [.row pc occ 33 8 (na + nb) ((ta.map (shiftT i) ++ tb.map (shiftT (i + s.size + 1))).flatMap TokD.cs), .row pb ocb 33 8 nb (tb.flatMap TokD.cs), .row pa oca 33 8 na (ta.flatMap TokD.cs)])) (fun mv _ => na + nb - (intOf mv).toNat)
          case atStart => exact ⟨0, rfl, Nat.zero_le _, HM⟩
          case round =>
            clear HM
            obtain ⟨m, rfl, hm, HM0⟩ := hrel
            by_cases hlt : m < na + nb
            · have d2 : decide ((m : Int) < (na : Int) + nb) = true := decide_eq_true (by omega)
              have d2' : decide ((m : Int) < ((na + nb : Nat) : Int)) = true := decide_eq_true (by omega)
              have HLt := Lib.hid hlt
              have HLt3 := Lib.hid (show m + 1 ≤ na + nb from hlt)
              obtain ⟨bc, hpc, hbc⟩ := (row_sl (HM0.out.get (k := 0) rfl)).some_at TokD.cs_len (by decide) (show m < (ta.map (shiftT i) ++ tb.map (shiftT (i + s.size + 1))).length by simp; have := HNa.out; have := HNb.out; omega)
              subst hpc
              by_cases hma : m < na
              · obtain ⟨t, ht⟩ : ∃ t, ta[m]? = some t := ⟨_, List.getElem?_eq_getElem (by rw [HNa.out]; exact hma)⟩
                obtain ⟨ba, hpa, hba⟩ := (row_sl (HM0.out.get (k := 2) rfl)).some_at TokD.cs_len (by decide) (show m < ta.length by rw [HNa.out]; exact hma)
                subst hpa
                obtain ⟨hok, -⟩ := HCa.out.ok ht
                obtain ⟨kd, tx, nu, sc, dy, pt⟩ := t
                have hpt : pt < s.size := hok.1
                have htc : (ta.map (shiftT i) ++ tb.map (shiftT (i + s.size + 1)))[m]? = some ⟨kd, tx, nu, sc, dy, i + pt⟩ := by
                  rw [List.getElem?_append_left (by simp; have := HNa.out; omega), List.getElem?_map, ht]
                  rfl
                have hel := hba.elem TokD.cs 8 TokD.cs_len ht
                have hec := hbc.elem TokD.cs 8 TokD.cs_len htc
                have hcs : (⟨kd, tx, nu, sc, dy, pt⟩ : TokD).cs = [.int .i64 kd, .string tx, .bool false, .int .u64 (nu / 18446744073709551616 : Nat), .int .u64 (nu % 18446744073709551616 : Nat), .int .i64 sc, .int .i64 dy, .int .i64 pt] := rfl
                have hcc : (⟨kd, tx, nu, sc, dy, i + pt⟩ : TokD).cs = [.int .i64 kd, .string tx, .bool false, .int .u64 (nu / 18446744073709551616 : Nat), .int .u64 (nu % 18446744073709551616 : Nat), .int .i64 sc, .int .i64 dy, .int .i64 ((pt : Int) + ((padS i).size : Nat))] := by
                  rw [p0, show (pt : Int) + (i : Nat) = ((i + pt : Nat) : Int) by omega]
                  rfl
                rw [hcs] at hel
                rw [hcc] at hec
                generalize nu / 18446744073709551616 = nh at hel hec
                generalize nu % 18446744073709551616 = nl at hel hec
                have HE := Lib.hid hel
                have HEc := Lib.hid hec
                have d3 : decide ((m : Int) < na) = true := decide_eq_true (by omega)
                have HMa := Lib.hid hma
                clear hel hec hcs hcc htc ht hok hba hbc
                have HM := Lib.hid HM0.out.anew
                go_wp2_with (first | ((with_reducible refine iat 96 ?_); (refine ixa rfl rfl rfl HMa.out ?_)) | ((with_reducible refine iat 97 ?_); (refine ldxW (HM.out.olds HE.out) rfl rfl ?_)) | ((with_reducible refine igd ?_); (with_reducible refine skip_op ?_ ?_); (exact rfl)) | ((with_reducible refine iload ?_); first | refine ldb1 HM.out 0 rfl rfl rfl ?_ | refine ldbW HM.out 0 rfl rfl rfl ?_ | (refine ldbS HM.out 0 rfl rfl rfl ?_; simp only [List.take, List.drop])) | ((with_reducible refine istore ?_); (first | ((first | refine stb1 (v := .int _ _) rfl HM.out 0 rfl rfl rfl rfl rfl ?_ | refine stbW rfl HM.out 0 rfl rfl rfl rfl rfl rfl ?_); intro W1 HM1; replace HM := Lib.hid HM1; clear HM1; simp only [List.set] at HM) | (refine stbS rfl HM.out 0 rfl rfl rfl rfl rfl rfl ?_; intro W1 HM1; replace HM := Lib.hid HM1; clear HM1; simp only [lss, Nat.reduceAdd] at HM))) | ((with_reducible refine ialloc (d := some 16) ?_); refine alb rfl HM.out ?_; intro g16 W1 HM1; replace HM := Lib.hid HM1; clear HM1))
                refine wp_region_mem (by kernel_rfl) (by kernel_rfl) HM.out ?_; intro hNE; (repeat (any_goals (first | ((with_reducible refine qgd ?_); (with_reducible refine skip_q ?_ ?_ ?_); (exact rfl); (rotate_left; (exact (hNE.elim fun p => ⟨p.W, p, rfl⟩)))) | ((with_reducible refine qnilCheck ?_); (refine qnil rfl ?_)) | ((with_reducible refine qload ?_); first | (refine qdb1 HM.out 0 rfl rfl rfl ?_) | (refine qdbW HM.out 0 rfl rfl rfl ?_) | (refine qdbS HM.out 0 rfl rfl rfl ?_; simp only [List.take, List.drop])) | ((with_reducible refine qat 123 ?_); (refine qixa rfl rfl rfl HLt.out ?_)) | ((with_reducible refine qat 124 ?_); (refine qdA (vs := [.int .i64 kd, .string tx, .bool false, .int .u64 nh, .int .u64 nl, .int .i64 sc, .int .i64 dy, .int .i64 ((pt : Int) + ((padS i).size : Nat))]) rfl rfl (fun W ⟨q, hq⟩ => hq ▸ q.mem.olds HEc.out) ?_)) | go_big_quiet_step (fail) | quiet_step (fail)))); clear hNE; refine wpQuiet_nil ?_; intro W1 HM1; replace HM := Lib.hid HM1; clear HM1
                go_wp2_with fail
                go_roundw
                case rel => exact ⟨m + 1, by go_num, HLt3.out, Lib.hid ((HM0.out.comp2 HM.out).sub (.cons _ (.refl _)))⟩
                case measure => have := HLt3.out; simp [intOf]; omega
              · obtain ⟨j, rfl⟩ : ∃ j, m = na + j := ⟨m - na, by omega⟩
                have hjb : j < nb := by omega
                obtain ⟨t', ht⟩ : ∃ t, tb[j]? = some t := ⟨_, List.getElem?_eq_getElem (by rw [HNb.out]; exact hjb)⟩
                obtain ⟨bb, hpb, hbb⟩ := (row_sl (HM0.out.get (k := 1) rfl)).some_at TokD.cs_len (by decide) (show j < tb.length by rw [HNb.out]; exact hjb)
                subst hpb
                obtain ⟨hok, -⟩ := HCb.out.ok ht
                obtain ⟨kd, tx, nu, sc, dy, pt⟩ := t'
                have hpt : pt < t.size := hok.1
                have htc : (ta.map (shiftT i) ++ tb.map (shiftT (i + s.size + 1)))[na + j]? = some ⟨kd, tx, nu, sc, dy, i + s.size + 1 + pt⟩ := by
                  have h3 := HNa.out
                  rw [List.getElem?_append_right (by simp; omega), List.length_map, h3, Nat.add_sub_cancel_left, List.getElem?_map, ht]
                  rfl
                have hel := hbb.elem TokD.cs 8 TokD.cs_len ht
                have hec := hbc.elem TokD.cs 8 TokD.cs_len htc
                have hcs : (⟨kd, tx, nu, sc, dy, pt⟩ : TokD).cs = [.int .i64 kd, .string tx, .bool false, .int .u64 (nu / 18446744073709551616 : Nat), .int .u64 (nu % 18446744073709551616 : Nat), .int .i64 sc, .int .i64 dy, .int .i64 pt] := rfl
                have hcc : (⟨kd, tx, nu, sc, dy, i + s.size + 1 + pt⟩ : TokD).cs = [.int .i64 kd, .string tx, .bool false, .int .u64 (nu / 18446744073709551616 : Nat), .int .u64 (nu % 18446744073709551616 : Nat), .int .i64 sc, .int .i64 dy, .int .i64 ((pt : Int) + ((padS i).size : Nat) + (s.size : Nat) + 1)] := by
                  rw [p0, show (pt : Int) + (i : Nat) + (s.size : Nat) + 1 = ((i + s.size + 1 + pt : Nat) : Int) by omega]
                  rfl
                rw [hcs] at hel
                rw [hcc] at hec
                generalize nu / 18446744073709551616 = nh at hel hec
                generalize nu % 18446744073709551616 = nl at hel hec
                have HE := Lib.hid hel
                have HEc := Lib.hid hec
                have d3 : decide (((na + j : Nat) : Int) < na) = false := decide_eq_false (by omega)
                have d3' : decide ((na : Int) + j < na) = false := decide_eq_false (by omega)
                have HMa := Lib.hid hjb
                clear hel hec hcs hcc htc ht hok hbb hbc
                have HM := Lib.hid HM0.out.anew
                go_wp2_with (first | ((with_reducible refine iat 109 ?_); (refine ixa (i := j) rfl rfl (by omega) HMa.out ?_)) | ((with_reducible refine iat 110 ?_); (refine ldxW (HM.out.olds HE.out) rfl rfl ?_)) | ((with_reducible refine igd ?_); (with_reducible refine skip_op ?_ ?_); (exact rfl)) | ((with_reducible refine iload ?_); first | refine ldb1 HM.out 0 rfl rfl rfl ?_ | refine ldbW HM.out 0 rfl rfl rfl ?_ | (refine ldbS HM.out 0 rfl rfl rfl ?_; simp only [List.take, List.drop])) | ((with_reducible refine istore ?_); (first | ((first | refine stb1 (v := .int _ _) rfl HM.out 0 rfl rfl rfl rfl rfl ?_ | refine stbW rfl HM.out 0 rfl rfl rfl rfl rfl rfl ?_); intro W1 HM1; replace HM := Lib.hid HM1; clear HM1; simp only [List.set] at HM) | (refine stbS rfl HM.out 0 rfl rfl rfl rfl rfl rfl ?_; intro W1 HM1; replace HM := Lib.hid HM1; clear HM1; simp only [lss, Nat.reduceAdd] at HM))) | ((with_reducible refine ialloc (d := some 16) ?_); refine alb rfl HM.out ?_; intro g16 W1 HM1; replace HM := Lib.hid HM1; clear HM1))
                refine wp_region_mem (by kernel_rfl) (by kernel_rfl) HM.out ?_; intro hNE; (repeat (any_goals (first | ((with_reducible refine qgd ?_); (with_reducible refine skip_q ?_ ?_ ?_); (exact rfl); (rotate_left; (exact (hNE.elim fun p => ⟨p.W, p, rfl⟩)))) | ((with_reducible refine qnilCheck ?_); (refine qnil rfl ?_)) | ((with_reducible refine qload ?_); first | (refine qdb1 HM.out 0 rfl rfl rfl ?_) | (refine qdbW HM.out 0 rfl rfl rfl ?_) | (refine qdbS HM.out 0 rfl rfl rfl ?_; simp only [List.take, List.drop])) | ((with_reducible refine qat 123 ?_); (refine qixa (i := na + j) rfl rfl (by omega) HLt.out ?_)) | ((with_reducible refine qat 124 ?_); (refine qdA (vs := [.int .i64 kd, .string tx, .bool false, .int .u64 nh, .int .u64 nl, .int .i64 sc, .int .i64 dy, .int .i64 ((pt : Int) + ((padS i).size : Nat) + (s.size : Nat) + 1)]) rfl rfl (fun W ⟨q, hq⟩ => hq ▸ q.mem.olds HEc.out) ?_)) | go_big_quiet_step (fail) | quiet_step (fail)))); clear hNE; refine wpQuiet_nil ?_; intro W1 HM1; replace HM := Lib.hid HM1; clear HM1
                go_wp2_with fail
                go_roundw
                case rel => exact ⟨na + j + 1, by go_num, HLt3.out, Lib.hid ((HM0.out.comp2 HM.out).sub (.cons _ (.refl _)))⟩
                case measure => have := HLt3.out; simp [intOf]; omega
            · obtain rfl : m = na + nb := by omega
              have d2 : decide ((na : Int) + nb < (na : Int) + nb) = false := by simp
              have d2' : decide (((na + nb : Nat) : Int) < ((na + nb : Nat) : Int)) = false := by simp
              have HM := HM0
              go_wp2_with fail
              go_ret
              exact ⟨rfl, HM.out.below⟩
        · have b1 : (ea != 0) = false := by rw [e1]; rfl
          have b2 : (eb != 0) = true := by simpa using e2
          go_wp2_with (first | (go_at_call 5; (with_reducible (first | refine (HA.out _ (U8.below HT.out HM.out.below)).mono ?_ | refine (HB.out _ (U8.below HT.out HM.out.below)).mono ?_ | refine (HU.out _ (U8.below HT.out HM.out.below)).mono ?_)); rintro e W2 ⟨p, oc, rfl, hM2⟩; have HM1 := Lib.hid (HM.out.comp2 hM2); clear HM hM2; (try clear W1); rename World => W1; have HM := HM1; clear HM1; simp only [List.cons_append, List.nil_append] at HM))
          go_ret
          exact ⟨rfl, HM.out.below⟩
      · have b1 : (ea != 0) = true := by simpa using e1
        go_wp2_with (first | (go_at_call 5; (with_reducible (first | refine (HA.out _ (U8.below HT.out HM.out.below)).mono ?_ | refine (HB.out _ (U8.below HT.out HM.out.below)).mono ?_ | refine (HU.out _ (U8.below HT.out HM.out.below)).mono ?_)); rintro e W2 ⟨p, oc, rfl, hM2⟩; have HM1 := Lib.hid (HM.out.comp2 hM2); clear HM hM2; (try clear W1); rename World => W1; have HM := HM1; clear HM1; simp only [List.cons_append, List.nil_append] at HM))
        go_ret
        exact ⟨rfl, HM.out.below⟩
end Go.Proofs.YtinkdemjjnfphaaDoor
