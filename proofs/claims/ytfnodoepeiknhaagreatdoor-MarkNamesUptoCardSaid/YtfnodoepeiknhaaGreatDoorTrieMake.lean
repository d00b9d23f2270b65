/- The trie of strings.NewReplacer for "\r\n" and "\r": makeGenericReplacer. (short) -/
import Derived.Test.YtfnodoepeiknhaaGreatDoorTrieAdd
namespace Go.Proofs.YtfnodoepeiknhaaGreatDoor
open Go.RowKit
set_option linter.unusedVariables false
set_option linter.unusedSimpArgs false
set_option maxRecDepth 100000

def mZ : List Value := List.replicate 256 (.int .u8 0)
def mv (i : Nat) : Int := if i = 10 ∨ i = 13 then 1 else 0
def tI (i : Nat) : Int := (if 10 < i then 1 else 0) + (if 13 < i then 1 else 0)
def gv (i : Nat) : Int := if i = 10 then 0 else if i = 13 then 1 else 2
def mO : List Value := (List.range 256).map fun i => .int .u8 (mv i)
def gM : List Value := (List.range 256).map fun i => .int .u8 (gv i)
theorem mO_set : (mZ.set 13 (.int .u8 1)).set 10 (.int .u8 1) = mO := by kernel_rfl
theorem mO_13 : mO.set 13 (.int .u8 1) = mO := by kernel_rfl
theorem mZ_len : mZ.length = 256 := by kernel_rfl
theorem mO_len : mO.length = 256 := by kernel_rfl
theorem gM_len : gM.length = 256 := by kernel_rfl
theorem mO_at {i : Nat} (h : i < 256) : mO[i]? = some (.int .u8 (mv i)) := by
  unfold mO; rw [List.getElem?_map, List.getElem?_range h]; rfl
theorem gM_at {i : Nat} (h : i < 256) : gM[i]? = some (.int .u8 (gv i)) := by
  unfold gM; rw [List.getElem?_map, List.getElem?_range h]; rfl
theorem tI_succ (i : Nat) : tI (i + 1) = tI i + mv i := by
  unfold tI mv
  by_cases h1 : i = 10
  · subst h1; rfl
  by_cases h2 : i = 13
  · subst h2; rfl
  rw [if_neg (show ¬ (i = 10 ∨ i = 13) by omega)]
  by_cases h3 : 10 < i <;> by_cases h4 : 13 < i
  · rw [if_pos (show 10 < i + 1 by omega), if_pos (show 13 < i + 1 by omega), if_pos h3, if_pos h4]; rfl
  · rw [if_pos (show 10 < i + 1 by omega), if_neg (show ¬ 13 < i + 1 by omega), if_pos h3, if_neg h4]; rfl
  · omega
  · rw [if_neg (show ¬ 10 < i + 1 by omega), if_neg (show ¬ 13 < i + 1 by omega), if_neg h3, if_neg h4]; rfl
theorem tI_bound (i : Nat) : 0 ≤ tI i ∧ tI i ≤ 2 := by
  unfold tI
  by_cases h3 : 10 < i <;> by_cases h4 : 13 < i <;> simp [h3, h4]
theorem gv_of (i : Nat) : gv i = if mv i = 0 then 2 else tI i := by
  unfold gv mv
  by_cases h1 : i = 10
  · subst h1; rfl
  by_cases h2 : i = 13
  · subst h2; rfl
  simp [h1, h2]
def gF (i : Nat) : List Value := gM.take i ++ mO.drop i
theorem gF_len (i : Nat) (h : i ≤ 256) : (gF i).length = 256 := by
  unfold gF; rw [List.length_append, List.length_take, List.length_drop, gM_len, mO_len]; omega
theorem gF_zero : gF 0 = mO := by unfold gF; rfl
theorem gF_end : gF 256 = gM := by
  unfold gF; rw [List.take_of_length_le (by rw [gM_len]; omega), List.drop_of_length_le (by rw [mO_len]; omega), List.append_nil]
theorem gF_succ {i : Nat} (h : i < 256) : (gF i).set i (.int .u8 (gv i)) = gF (i + 1) := by
  unfold gF
  have h1 : (gM.take i).length = i := by rw [List.length_take, gM_len]; omega
  have h2 : i < mO.length := by rw [mO_len]; exact h
  rw [List.set_append_right _ _ (by omega), h1, Nat.sub_self, List.drop_eq_getElem_cons h2, List.set_cons_zero, List.take_add_one, gM_at h]
  simp
/-- The Replacer under way: a table, the count of its bytes, the mapping. -/
abbrev gC (tb : Value) (ts : Int) (M : List Value) : List Value := .string ⟨#[]⟩ :: .int .i64 0 :: .string ⟨#[]⟩ :: .pointer none :: tb :: .int .i64 ts :: M
instance : ZeroA Tryz.prog 177 (gC (.slice none 0 0) 0 mZ) := ⟨fun w => ⟨.agg (gC (.slice none 0 0) 0 mZ).toArray, by kernel_rfl, rfl⟩⟩
instance : AggT Tryz.prog 121 256 := ⟨fun w => by kernel_rfl, fun w => by kernel_rfl⟩
def crL : List Value := [.string ⟨#[13, 10]⟩, .string ⟨#[10]⟩, .string ⟨#[13]⟩, .string ⟨#[10]⟩]
def mA : Nat → List Value
  | 0 => mZ
  | _ => mO
def mW : Nat → List Value
  | 0 => mZ
  | 1 => mZ.set 13 (.int .u8 1)
  | _ => mO

theorem gM13 : gM[13]? = some (.int .u8 1) := by kernel_rfl
/-- What the adds have made. -/
def trS (w wr : World) (R T : Nat) : Nat → Prop
  | 0 => Mem w wr [.row (some ⟨T, 0, none⟩) 2 172 1 2 [.pointer none, .pointer none], .box R 177 (rtC T gM)]
  | 1 => ∃ n m, Mem w wr [.box m 175 (trN ⟨#[10]⟩ 4 ⟨#[]⟩ none (.slice none 0 0)), .box n 175 (trN ⟨#[]⟩ 0 ⟨#[10]⟩ (some ⟨m, 0, none⟩) (.slice none 0 0)), .row (some ⟨T, 0, none⟩) 2 172 1 2 [.pointer none, .pointer (some ⟨n, 0, none⟩)], .box R 177 (rtC T gM)]
  | _ => ∃ n m, Mem w wr [.box n 175 (trN ⟨#[10]⟩ 2 ⟨#[10]⟩ (some ⟨m, 0, none⟩) (.slice none 0 0)), .row (some ⟨T, 0, none⟩) 2 172 1 2 [.pointer none, .pointer (some ⟨n, 0, none⟩)], .box R 177 (rtC T gM), .box m 175 (trN ⟨#[10]⟩ 4 ⟨#[]⟩ none (.slice none 0 0))]
theorem mW_len (j : Nat) : (mW j).length = 256 := by
  rcases j with _ | _ | j
  · exact mZ_len
  · show (mZ.set 13 _).length = 256
    rw [List.length_set]; exact mZ_len
  · exact mO_len

set_option maxHeartbeats 16000000 in
theorem mkgen_any (b : Addr) (c : Nat) (w : World) (hS : Cells w b crL) :
    Calls Tryz.prog 103 #[.slice (some b) 4 c] w fun e w' => ∃ R T n m, e = .returned (.pointer (some ⟨R, 0, none⟩)) ∧ Mem w w' [.box n 175 (trN ⟨#[10]⟩ 2 ⟨#[10]⟩ (some ⟨m, 0, none⟩) (.slice none 0 0)), .row (some ⟨T, 0, none⟩) 2 172 1 2 [.pointer none, .pointer (some ⟨n, 0, none⟩)], .box R 177 (rtC T gM), .box m 175 (trN ⟨#[10]⟩ 4 ⟨#[]⟩ none (.slice none 0 0))] := by
  have HM := Lib.hid (Mem.start w)
  have HK : ∀ (i : Nat) (v : Value), crL[i]? = some v → Cells w (b.add (i * 1)) [v] := fun i v h j u hj => by
    have : j = 0 := by
      rcases j with _ | j
      · rfl
      · simp at hj
    subst this
    have e : v = u := by simpa using hj
    subst e
    have := hS i v h
    rw [Nat.mul_one, Addr.add_zero']
    exact this
  have H0 := Lib.hid (HK 0 _ rfl)
  have H1 := Lib.hid (HK 1 _ rfl)
  have H2 := Lib.hid (HK 2 _ rfl)
  have H3 := Lib.hid (HK 3 _ rfl)
  clear HK hS
  go_enter Tryz.func103, Tryz.ntmps103
  go_wp2_with (first | refine mP ?_ | (refine mS ?_; clear HM; intro W1 HM) | (refine hal (dst := some 13) HM rfl ?_; clear HM; intro g13 W1 HM))
  go_loopw [4] (fun iv wr => ∃ n : Nat, iv = .int .i64 (2 * (n : Int)) ∧ n ≤ 2 ∧ Hid (Mem w wr [.box g13 177 (gC (.slice none 0 0) 0 (mA n))])) (fun iv _ => 4 - (intOf iv).toNat)
  case atStart => exact ⟨0, rfl, by omega, HM⟩
  case round =>
    clear HM
    obtain ⟨n, rfl, hn, HM⟩ := hrel
    rcases n with _ | _ | n
    · as_aux_lemma =>
      go_wp2_with (first | (refine ixa rfl rfl (i := 0) rfl (by decide) ?_) | (refine ldx0 (v := .string ⟨#[13, 10]⟩) (HM.out.olds H0.out) rfl rfl ?_))
      go_loopw [6] (fun iv wr => ∃ j : Nat, iv = .int .i64 (j : Int) ∧ j ≤ 2 ∧ Hid (Mem w wr [.box g13 177 (gC (.slice none 0 0) 0 (mW j))])) (fun iv _ => 2 - (intOf iv).toNat)
      case atStart => exact ⟨0, rfl, by omega, HM⟩
      case round =>
        clear HM
        obtain ⟨j, rfl, hj, HM⟩ := hrel
        rcases j with _ | _ | j
        · go_wp2_with fail
          refine wp_region_steps2 [(true, 0), (true, 1), (true, 2), (true, 3), (true, 4), (true, 5), (true, 6), (false, 7)] (by kernel_rfl) (by kernel_rfl) rfl (by kernel_rfl) (fun _ _ _ _ _ h => h) HM.out _ (.cons _ .slnil) ?_
          intro hNE W1 HM1; replace HM := Lib.hid HM1; clear HM1
          have HS0 := Lib.hid (HM.out.sub (.cons _ .slnil))
          simp only [wpSteps, List.getElem?_cons_succ, List.getElem?_cons_zero]
          (repeat (first | ((with_reducible refine wpQuiet_nil ?_); (try dsimp only)) | refine mQ ?_ | ((with_reducible refine qat 36 ?_); (refine qiaa (i := 13) rfl rfl rfl (by decide) ?_)) | go_big_quiet_step (fail) | quiet_step (fail)))
          go_wp2_with (first | (refine stm (i := 13) (v := .int .u8 1) rfl HM.out 0 rfl rfl rfl rfl (by rw [mW_len]; decide) ?_; intro W1 HM1; replace HM := Lib.hid HM1; clear HM1; simp only [List.set] at HM))
          refine ⟨⟨⟨_, HM.out.sub (by repeat (first | exact List.nil_sublist _ | with_reducible refine List.Sublist.cons_cons _ ?_ | refine List.Sublist.cons _ ?_))⟩, rfl⟩, ?_⟩
          (try dsimp only)
          clear HS0 hNE
          go_wp2_with fail
          go_roundw
          case rel => exact ⟨1, rfl, by omega, HM⟩
          case measure => decide
        · go_wp2_with fail
          refine wp_region_steps2 [(true, 0), (true, 1), (true, 2), (true, 3), (true, 4), (true, 5), (true, 6), (false, 7)] (by kernel_rfl) (by kernel_rfl) rfl (by kernel_rfl) (fun _ _ _ _ _ h => h) HM.out _ (.cons _ .slnil) ?_
          intro hNE W1 HM1; replace HM := Lib.hid HM1; clear HM1
          have HS0 := Lib.hid (HM.out.sub (.cons _ .slnil))
          simp only [wpSteps, List.getElem?_cons_succ, List.getElem?_cons_zero]
          (repeat (first | ((with_reducible refine wpQuiet_nil ?_); (try dsimp only)) | refine mQ ?_ | ((with_reducible refine qat 36 ?_); (refine qiaa (i := 10) rfl rfl rfl (by decide) ?_)) | go_big_quiet_step (fail) | quiet_step (fail)))
          go_wp2_with (first | (refine stm (i := 10) (v := .int .u8 1) rfl HM.out 0 rfl rfl rfl rfl (by rw [mW_len]; decide) ?_; intro W1 HM1; replace HM := Lib.hid HM1; clear HM1; simp only [List.set] at HM))
          refine ⟨⟨⟨_, HM.out.sub (by repeat (first | exact List.nil_sublist _ | with_reducible refine List.Sublist.cons_cons _ ?_ | refine List.Sublist.cons _ ?_))⟩, rfl⟩, ?_⟩
          (try dsimp only)
          clear HS0 hNE
          go_wp2_with fail
          go_roundw
          case rel => exact ⟨2, rfl, by omega, Lib.hid (show Mem _ _ [.box _ _ (gC _ _ mO)] by rw [← mO_set]; exact HM.out)⟩
          case measure => decide
        · obtain rfl : j = 0 := by omega
          go_wp2_with fail
          go_roundw
          case rel => exact ⟨1, rfl, by omega, HM⟩
          case measure => decide
    · as_aux_lemma =>
      go_wp2_with (first | (refine ixa rfl rfl (i := 2) rfl (by decide) ?_) | (refine ldx0 (v := .string ⟨#[13]⟩) (HM.out.olds H2.out) rfl rfl ?_))
      go_loopw [6] (fun iv wr => ∃ j : Nat, iv = .int .i64 (j : Int) ∧ j ≤ 1 ∧ Hid (Mem w wr [.box g13 177 (gC (.slice none 0 0) 0 mO)])) (fun iv _ => 1 - (intOf iv).toNat)
      case atStart => exact ⟨0, rfl, by omega, HM⟩
      case round =>
        clear HM
        obtain ⟨j, rfl, hj, HM⟩ := hrel
        rcases j with _ | j
        · go_wp2_with fail
          refine wp_region_steps2 [(true, 0), (true, 1), (true, 2), (true, 3), (true, 4), (true, 5), (true, 6), (false, 7)] (by kernel_rfl) (by kernel_rfl) rfl (by kernel_rfl) (fun _ _ _ _ _ h => h) HM.out _ (.cons _ .slnil) ?_
          intro hNE W1 HM1; replace HM := Lib.hid HM1; clear HM1
          have HS0 := Lib.hid (HM.out.sub (.cons _ .slnil))
          simp only [wpSteps, List.getElem?_cons_succ, List.getElem?_cons_zero]
          (repeat (first | ((with_reducible refine wpQuiet_nil ?_); (try dsimp only)) | refine mQ ?_ | ((with_reducible refine qat 36 ?_); (refine qiaa (i := 13) rfl rfl rfl (by decide) ?_)) | go_big_quiet_step (fail) | quiet_step (fail)))
          go_wp2_with (first | (refine stm (M := mO) (i := 13) (v := .int .u8 1) rfl HM.out 0 rfl rfl rfl rfl (by rw [mO_len]; decide) ?_; intro W1 HM1; replace HM := Lib.hid HM1; clear HM1; simp only [List.set] at HM))
          refine ⟨⟨⟨_, HM.out.sub (by repeat (first | exact List.nil_sublist _ | with_reducible refine List.Sublist.cons_cons _ ?_ | refine List.Sublist.cons _ ?_))⟩, rfl⟩, ?_⟩
          (try dsimp only)
          clear HS0 hNE
          go_wp2_with fail
          go_roundw
          case rel => exact ⟨1, rfl, by omega, Lib.hid (show Mem _ _ [.box _ _ (gC _ _ mO)] by have := HM.out; rw [mO_13] at this; exact this)⟩
          case measure => decide
        · obtain rfl : j = 0 := by omega
          go_wp2_with fail
          go_roundw
          case rel => exact ⟨2, rfl, by omega, HM⟩
          case measure => decide
    · obtain rfl : n = 0 := by omega
      have HM1 := Lib.hid (show Mem w wr [.box g13 177 (gC (.slice none 0 0) (tI 0) mO)] from HM.out)
      clear HM
      have HM := HM1
      clear HM1
      go_wp2_with (first | ((with_reducible refine iat 40 ?_); (refine ldm (M := mO) HM.out 0 rfl rfl mO_len ?_)))
      go_loopw [41] (fun iv wr => ∃ i : Nat, iv = .int .i64 (i : Int) ∧ i ≤ 256 ∧ Hid (Mem w wr [.box g13 177 (gC (.slice none 0 0) (tI i) mO)])) (fun iv _ => 256 - (intOf iv).toNat)
      case atStart => exact ⟨0, rfl, by omega, HM⟩
      case round =>
        clear HM
        obtain ⟨i, rfl, hi, HM⟩ := hrel
        by_cases hlt : i < 256
        · as_aux_lemma =>
          have q1 : decide ((i : Int) < 256) = true := decide_eq_true (by omega)
          have hat := Lib.hid (mO_at hlt)
          have HT := Lib.hid (tI_succ i)
          have hb := tI_bound i
          have hb2 : 0 ≤ mv i ∧ mv i ≤ 1 := by unfold mv; split <;> omega
          obtain ⟨t, ht⟩ : ∃ t, tI i = t := ⟨_, rfl⟩
          obtain ⟨v, hv⟩ : ∃ v, mv i = v := ⟨_, rfl⟩
          rw [ht] at hb HM HT
          rw [hv] at hb2 hat HT
          clear ht hv
          go_wp2_with (first | ((with_reducible refine iat 43 ?_); (refine ixv (M := mO) (i := i) rfl rfl rfl mO_len hat.out ?_)) | refine mP ?_ | (refine mS ?_; clear HM; intro W1 HM) | (refine hal HM rfl ?_; clear HM; intro g1 W1 HM))
          go_roundw
          case rel => exact ⟨i + 1, by go_num, by omega, by rw [HT.out]; exact HM⟩
          case measure => simp [intOf]; omega
        · obtain rfl : i = 256 := by omega
          have HM1 := Lib.hid (show Mem w wr [.box g13 177 (gC (.slice none 0 0) 2 (gF 0))] by rw [gF_zero]; exact HM.out)
          clear HM
          have HM := HM1
          clear HM1
          go_wp2_with (first | ((with_reducible refine iat 57 ?_); (refine ldm (M := mO) (by have := HM.out; rw [gF_zero] at this; exact this) 0 rfl rfl mO_len ?_)))
          go_loopw [58, 9] (fun iv xv wr => ∃ i : Nat, iv = .int .i64 (i : Int) ∧ xv = .int .u8 (tI i) ∧ i ≤ 256 ∧ Hid (Mem w wr [.box g13 177 (gC (.slice none 0 0) 2 (gF i))])) (fun iv _ _ => 256 - (intOf iv).toNat)
          case atStart => exact ⟨0, rfl, rfl, by omega, HM⟩
          case round =>
            clear HM
            obtain ⟨i, rfl, rfl, hi, HM⟩ := hrel
            by_cases hlt : i < 256
            · as_aux_lemma =>
              have q1 : decide ((i : Int) < 256) = true := decide_eq_true (by omega)
              have hat := Lib.hid (mO_at hlt)
              have HT := Lib.hid (tI_succ i)
              have HG := Lib.hid (gv_of i)
              have HF := Lib.hid (gF_succ hlt)
              have hb := tI_bound i
              have hb3 := tI_bound (i + 1)
              have hb2 : mv i = 0 ∨ mv i = 1 := by unfold mv; split <;> simp
              obtain ⟨t, ht⟩ : ∃ t, tI i = t := ⟨_, rfl⟩
              rw [ht] at hb HT HG ⊢
              rcases hb2 with hv | hv
              · rw [hv] at hat HT HG
                rw [if_pos rfl] at HG
                clear ht hv hb3
                go_wp2_with (first | ((with_reducible refine iat 61 ?_); (refine ixv (M := mO) (i := i) rfl rfl rfl mO_len hat.out ?_)))
                refine wp_region_mem3 10 [(0, 0), (0, 1), (0, 2), (0, 3), (0, 4), (0, 5), (0, 6), (1, 7), (1, 8), (0, 9), (3, 10)] (by kernel_rfl) (by kernel_rfl) rfl (by kernel_rfl) (fun _ _ _ _ _ h => h) HM.out _ (.cons_cons _ .slnil) ?_
                intro hNE W1 HM1; replace HM := Lib.hid HM1; clear HM1
                have HS0 := Lib.hid (HM.out.sub (.cons_cons _ .slnil))
                simp only [wpSteps3, List.getElem?_cons_succ, List.getElem?_cons_zero]
                (repeat (first | ((with_reducible refine wpQuiet_nil ?_); (try dsimp only)) | refine mQ ?_ | ((with_reducible refine qat 73 ?_); (refine qiaa (i := i) rfl rfl rfl hlt ?_)) | go_big_quiet_step (fail) | quiet_step (fail)))
                go_wp2_with (first | (refine stm (M := gF i) (i := i) (v := .int .u8 2) rfl HM.out 0 rfl rfl rfl rfl (by rw [gF_len i hi]; exact hlt) ?_; intro W1 HM1; replace HM := Lib.hid HM1; clear HM1; simp only [List.set] at HM))
                refine ⟨trivial, ?_⟩
                (try dsimp only)
                clear HS0 hNE
                go_wp2_with fail
                go_roundw
                case rel => exact ⟨i + 1, by go_num, by rw [HT.out]; simp, by omega, Lib.hid (by rw [← HF.out, HG.out]; exact HM.out)⟩
                case measure => simp [intOf]; omega
              · rw [hv] at hat HT HG
                rw [if_neg (by decide)] at HG
                have hb4 : t ≤ 1 := by have := HT.out; omega
                clear ht hv hb3
                go_wp2_with (first | ((with_reducible refine iat 61 ?_); (refine ixv (M := mO) (i := i) rfl rfl rfl mO_len hat.out ?_)) | ((with_reducible refine iat 79 ?_); (refine iaa (i := i) rfl rfl rfl hlt ?_)) | (refine stm (M := gF i) (i := i) (v := .int .u8 t) rfl HM.out 0 rfl rfl rfl rfl (by rw [gF_len i hi]; exact hlt) ?_; intro W1 HM1; replace HM := Lib.hid HM1; clear HM1; simp only [List.set] at HM))
                go_roundw
                case rel => exact ⟨i + 1, by go_num, by rw [HT.out], by omega, Lib.hid (by rw [← HF.out, HG.out]; exact HM.out)⟩
                case measure => simp [intOf]; omega
            · obtain rfl : i = 256 := by omega
              have HM1 := Lib.hid (show Mem w wr [.box g13 177 (gC (.slice none 0 0) 2 gM)] by rw [← gF_end]; exact HM.out)
              clear HM
              have HM := HM1
              clear HM1
              go_wp2_with (first | (refine mks (n := 2) rfl HM.out rfl rfl rfl rfl rfl (by decide) (by decide) ?_; intro gd W1 HM1; replace HM := Lib.hid HM1; clear HM1) | refine mP ?_ | (refine mS ?_; clear HM; intro W1 HM) | (refine hal HM rfl ?_; clear HM; intro g1 W1 HM))
              rw [show (2 * ((0 + 1 + 1 : Nat) : Int)) = 4 from rfl, show ((256 : Nat) : Int) = 256 from rfl]
              go_loopw [12] (fun iv wr => ∃ n : Nat, iv = .int .i64 (2 * (n : Int)) ∧ n ≤ 2 ∧ Hid (trS w wr g13 gd n)) (fun iv _ => 4 - (intOf iv).toNat)
              case atStart => exact ⟨0, rfl, by omega, Lib.hid HM.out⟩
              case round =>
                clear HM
                obtain ⟨n, rfl, hn, HX⟩ := hrel
                rcases n with _ | _ | n
                · as_aux_lemma =>
                  have HM := Lib.hid (show Mem w wr [.row (some ⟨gd, 0, none⟩) 2 172 1 2 [.pointer none, .pointer none], .box g13 177 (rtC gd gM)] from HX.out)
                  clear HX
                  go_wp2_with fail
                  refine wp_region_steps2 [(true, 0), (true, 1), (true, 2), (true, 3), (true, 4), (true, 5), (true, 6), (true, 7), (true, 8), (true, 9), (true, 10), (true, 11), (true, 12), (true, 13), (true, 14), (true, 15), (true, 16), (false, 17)] (by kernel_rfl) (by kernel_rfl) rfl (by kernel_rfl) (fun _ _ _ _ _ h => h) HM.out _ (.cons _ (.cons _ .slnil)) ?_
                  intro hNE W1 HM1; replace HM := Lib.hid HM1; clear HM1
                  have HS0 := Lib.hid (HM.out.sub (.cons _ (.cons _ .slnil)))
                  simp only [wpSteps, List.getElem?_cons_succ, List.getElem?_cons_zero]
                  (repeat (first | ((with_reducible refine wpQuiet_nil ?_); (try dsimp only)) | refine mQ ?_ | ((with_reducible refine qat 103 ?_); (refine qixa rfl rfl (i := 0) rfl (by decide) ?_)) | ((with_reducible refine qat 104 ?_); (refine qdx0 H0.out rfl rfl ?_)) | ((with_reducible refine qat 108 ?_); (refine qixa rfl rfl (i := 1) rfl (by decide) ?_)) | ((with_reducible refine qat 109 ?_); (refine qdx0 H1.out rfl rfl ?_)) | go_big_quiet_step (fail) | quiet_step (fail)))
                  go_wp2_with (first | (go_at_call 124; (refine (add_first g13 gd gM ⟨#[10]⟩ gM13 4 (.pointer none) w _ [] HM.out).mono ?_); rintro e W2 ⟨rfl, n1, m1, hM2⟩; clear HM; (try clear W1); rename World => W1; have HM := Lib.hid hM2; clear hM2))
                  refine ⟨⟨⟨_, HM.out.sub (by repeat (first | exact List.nil_sublist _ | with_reducible refine List.Sublist.cons_cons _ ?_ | refine List.Sublist.cons _ ?_))⟩, rfl⟩, ?_⟩
                  (try dsimp only)
                  clear HS0 hNE
                  go_wp2_with fail
                  go_roundw
                  case rel => exact ⟨1, rfl, by omega, Lib.hid ⟨_, _, HM.out⟩⟩
                  case measure => simp [intOf]
                · as_aux_lemma =>
                  obtain ⟨n1, m1, hx⟩ := HX.out
                  have HM := Lib.hid (hx.perm ((List.Perm.swap _ _ _).trans (List.Perm.cons _ ((List.Perm.swap _ _ _).trans (List.Perm.cons _ (List.Perm.swap _ _ _))))))
                  clear HX hx
                  go_wp2_with fail
                  refine wp_region_steps2 [(true, 0), (true, 1), (true, 2), (true, 3), (true, 4), (true, 5), (true, 6), (true, 7), (true, 8), (true, 9), (true, 10), (true, 11), (true, 12), (true, 13), (true, 14), (true, 15), (true, 16), (false, 17)] (by kernel_rfl) (by kernel_rfl) rfl (by kernel_rfl) (fun _ _ _ _ _ h => h) HM.out _ (.cons _ (.cons _ (.cons _ (.cons _ .slnil)))) ?_
                  intro hNE W1 HM1; replace HM := Lib.hid HM1; clear HM1
                  have HS0 := Lib.hid (HM.out.sub (.cons _ (.cons _ (.cons _ (.cons _ .slnil)))))
                  simp only [wpSteps, List.getElem?_cons_succ, List.getElem?_cons_zero]
                  (repeat (first | ((with_reducible refine wpQuiet_nil ?_); (try dsimp only)) | refine mQ ?_ | ((with_reducible refine qat 103 ?_); (refine qixa rfl rfl (i := 2) rfl (by decide) ?_)) | ((with_reducible refine qat 104 ?_); (refine qdx0 H2.out rfl rfl ?_)) | ((with_reducible refine qat 108 ?_); (refine qixa rfl rfl (i := 3) rfl (by decide) ?_)) | ((with_reducible refine qat 109 ?_); (refine qdx0 H3.out rfl rfl ?_)) | go_big_quiet_step (fail) | quiet_step (fail)))
                  go_wp2_with (first | (go_at_call 124; (refine (add_second g13 gd n1 gM ⟨#[]⟩ ⟨#[10]⟩ ⟨#[10]⟩ (some ⟨m1, 0, none⟩) (.slice none 0 0) gM13 2 (.pointer none) w _ _ HM.out).mono ?_); rintro e W2 ⟨rfl, hM2⟩; clear HM; (try clear W1); rename World => W1; have HM := Lib.hid hM2; clear hM2))
                  refine ⟨⟨⟨_, HM.out.sub (by repeat (first | exact List.nil_sublist _ | with_reducible refine List.Sublist.cons_cons _ ?_ | refine List.Sublist.cons _ ?_))⟩, rfl⟩, ?_⟩
                  (try dsimp only)
                  clear HS0 hNE
                  go_wp2_with fail
                  go_roundw
                  case rel => exact ⟨2, rfl, by omega, Lib.hid ⟨_, _, HM.out⟩⟩
                  case measure => simp [intOf]
                · obtain rfl : n = 0 := by omega
                  obtain ⟨n1, m1, hx⟩ := HX.out
                  go_wp2_with fail
                  go_ret
                  exact ⟨_, _, _, _, rfl, hx⟩
end Go.Proofs.YtfnodoepeiknhaaGreatDoor
