/- The reader's sign. (fast) -/
import Derived.Test.YtkackccmhghphaaGreatDoorLexNum
namespace Go.Proofs.YtkackccmhghphaaGreatDoor
open Go.RowKit
set_option linter.unusedVariables false
set_option linter.unusedSimpArgs false
set_option maxRecDepth 100000

theorem ba_ext {a b : ByteArray} (h : a.data.toList = b.data.toList) : a = b := by
 rcases a with ⟨⟨a⟩⟩
 rcases b with ⟨⟨b⟩⟩
 simp at h
 rw [h]
theorem ext_ext (s : ByteArray) (i n : Nat) (h : i + n ≤ s.size) : (s.extract i s.size).extract 0 n = s.extract i (i + n) := by
 apply ba_ext
 rw [ext_list, ext_list, ext_list, List.drop_zero, List.take_take, Nat.sub_zero, Nat.add_sub_cancel_left, Nat.min_eq_left (by omega)]
theorem pre2 (l : List UInt8) (x y : UInt8) : Lib.hasPrefix l [x, y] = (l[0]? == some x && l[1]? == some y) := by
 show [x, y].isPrefixOf l = _
 match l with
 | [] => simp [List.isPrefixOf]
 | [a] => simp [List.isPrefixOf]
 | a :: b :: r => simp [List.isPrefixOf, Bool.beq_comm]
def hitK (h0 h1 h2 h3 : Bool) : Nat → Bool
 | 0 => false
 | 1 => h0
 | 2 => h0 || h1
 | 3 => h0 || h1 || h2
 | _ => h0 || h1 || h2 || h3
def hitN (h0 h1 h2 h3 : Bool) (k : Nat) : Int := if hitK h0 h1 h2 h3 k then 2 else 0
theorem sgn1_idx (b : UInt8) : decide (0 ≤ Lib.indexByte [40, 41, 91, 93, 123, 125, 44, 58, 46, 43, 45, 42, 47, 61, 60, 62] b) = sgn1 b := by
 have key : ∀ n : Fin 256, decide (0 ≤ Lib.indexByte [40, 41, 91, 93, 123, 125, 44, 58, 46, 43, 45, 42, 47, 61, 60, 62] (UInt8.ofNat n.val)) = sgn1 (UInt8.ofNat n.val) := by decide
 have h := key ⟨b.toNat, b.toNat_lt⟩
 simpa using h
/-- How many bytes the sign has, as the reader finds out. -/
theorem signN_hits {l : List UInt8} {i : Nat} {c : UInt8} (hc : l[i]? = some c) :
  signN l i = (if hitK (Lib.hasPrefix (l.drop i) [46, 46]) (Lib.hasPrefix (l.drop i) [33, 61]) (Lib.hasPrefix (l.drop i) [60, 61]) (Lib.hasPrefix (l.drop i) [62, 61]) 4 then 2 else if sgn1 c then 1 else 0) ∧
   (hitK (Lib.hasPrefix (l.drop i) [46, 46]) (Lib.hasPrefix (l.drop i) [33, 61]) (Lib.hasPrefix (l.drop i) [60, 61]) (Lib.hasPrefix (l.drop i) [62, 61]) 4 = true → i + 2 ≤ l.length) := by
 rw [pre2, pre2, pre2, pre2, List.getElem?_drop, List.getElem?_drop, Nat.add_zero, hc]
 unfold signN hitK
 rw [hc]
 cases hb : l[i + 1]? with
 | none => simp
 | some b =>
  have hl : i + 1 < l.length := (List.getElem?_eq_some_iff.1 hb).1
  refine ⟨?_, fun _ => by omega⟩
  simp only [sgn2]
  simp

set_option maxHeartbeats 8000000 in
theorem lSign (w0 W : World) (R : Nat) (T : List Res) (s : ByteArray) (i on oc : Nat) (op : Option Addr) (bo bf : Bool) {c : UInt8} (HM0 : Mem w0 W (.box R 114 [.string s, .int .i64 i, .slice op on oc, .bool bo, .bool bf] :: T)) (hc : s.data.toList[i]? = some c) (hs : s.size ≤ 1000) :
  Calls Tryz.prog 111 #[.pointer (some ⟨R, 0, none⟩)] W fun e w' => e = .returned (.tuple #[.string (s.extract i (i + signN s.data.toList i)), .bool (decide (0 < signN s.data.toList i))]) ∧ Mem w0 w' (.box R 114 [.string s, .int .i64 (i + signN s.data.toList i : Nat), .slice op on oc, .bool bo, .bool bf] :: T) := by
 have HM := Lib.hid HM0
 have hlen : s.data.toList.length = s.size := by simp
 have hil : i < s.size := by rw [← hlen]; exact (List.getElem?_eq_some_iff.1 hc).1
 obtain ⟨hN, hN2⟩ := signN_hits hc
 obtain ⟨m, hm⟩ : ∃ m, signN s.data.toList i = m := ⟨_, rfl⟩
 rw [hm] at hN ⊢
 obtain ⟨S, hS⟩ : ∃ S, s.extract i s.size = S := ⟨_, rfl⟩
 have hSl : S.data.toList = s.data.toList.drop i := by rw [← hS, ext_list, List.take_of_length_le (by rw [List.length_drop]; omega)]
 have hSz : S.size = s.size - i := by
  have : S.size = S.data.toList.length := by simp
  rw [this, hSl, List.length_drop, hlen]
 have HSx := Lib.hid (show ∀ n, i + n ≤ s.size → S.extract 0 n = s.extract i (i + n) from fun n hn => by rw [← hS]; exact ext_ext s i n hn)
 have HS := Lib.hid hS
 have HP := Lib.hid (show ∀ (x y : UInt8) (W : World), Calls Tryz.prog 141 #[.string S, .string ⟨#[x, y]⟩] W fun e w' => e = .returned (.bool (Lib.hasPrefix (s.data.toList.drop i) [x, y])) ∧ W = w' from fun x y W =>
  (Tryz.strings_HasPrefix S ⟨#[x, y]⟩ W).mono fun e w' ⟨h1, h2⟩ => ⟨by rw [h1, hSl], h2.symm⟩)
 obtain ⟨h0, hh0⟩ : ∃ b, Lib.hasPrefix (s.data.toList.drop i) [46, 46] = b := ⟨_, rfl⟩
 obtain ⟨h1, hh1⟩ : ∃ b, Lib.hasPrefix (s.data.toList.drop i) [33, 61] = b := ⟨_, rfl⟩
 obtain ⟨h2, hh2⟩ : ∃ b, Lib.hasPrefix (s.data.toList.drop i) [60, 61] = b := ⟨_, rfl⟩
 obtain ⟨h3, hh3⟩ : ∃ b, Lib.hasPrefix (s.data.toList.drop i) [62, 61] = b := ⟨_, rfl⟩
 rw [hh0, hh1, hh2, hh3] at hN hN2
 have HP0 := Lib.hid (fun W => hh0 ▸ HP.out 46 46 W)
 have HP1 := Lib.hid (fun W => hh1 ▸ HP.out 33 61 W)
 have HP2 := Lib.hid (fun W => hh2 ▸ HP.out 60 61 W)
 have HP3 := Lib.hid (fun W => hh3 ▸ HP.out 62 61 W)
 have HC := Lib.hid (show S.data.toList[0]? = some c by rw [hSl, List.getElem?_drop]; exact hc)
 obtain ⟨ix, hix⟩ : ∃ k, Lib.indexByte [40, 41, 91, 93, 123, 125, 44, 58, 46, 43, 45, 42, 47, 61, 60, 62] c = k := ⟨_, rfl⟩
 have HI := Lib.hid (show ∀ W, Calls Tryz.prog 70 #[.string ⟨#[40, 41, 91, 93, 123, 125, 44, 58, 46, 43, 45, 42, 47, 61, 60, 62]⟩, .int .u8 c.toNat] W fun e w' => e = .returned (.int .i64 ix) ∧ W = w' from fun W =>
  (Tryz.strings_IndexByte ⟨#[40, 41, 91, 93, 123, 125, 44, 58, 46, 43, 45, 42, 47, 61, 60, 62]⟩ c.toNat W).mono fun e w' ⟨g1, g2⟩ => ⟨by rw [g1]; simp [hix], g2.symm⟩)
 have hsg := sgn1_idx c
 rw [hix] at hsg
 have HNm := Lib.hid hN
 have HN2 := Lib.hid (show hitK h0 h1 h2 h3 4 = true → i + 2 ≤ s.size from fun h => by have := hN2 h; omega)
 have HSg := Lib.hid hsg
 have hSp : 1 ≤ S.size := by omega
 have hS2 := Lib.hid (show hitK h0 h1 h2 h3 4 = true → 2 ≤ S.size from fun h => by have := hN2 h; omega)
 clear HM0 hc hS hSl HP hh0 hh1 hh2 hh3 hix hsg hN hN2 hm hlen hSz
 go_enter Tryz.func111, Tryz.ntmps111
 go_wp2_with fail
 refine wp_region_mem (by kernel_rfl) (by kernel_rfl) HM.out ?_; intro hNE; (repeat (any_goals (first | ((with_reducible refine qgd ?_); (with_reducible refine skip_q ?_ ?_ ?_); (exact rfl); (rotate_left; (exact (hNE.elim fun p => ⟨p.W, p, rfl⟩)))) | ((with_reducible refine qnilCheck ?_); (refine qnil rfl ?_)) | ((with_reducible refine qload ?_); first | (refine qdb1 HM.out 0 rfl rfl rfl ?_) | (refine qdbW HM.out 0 rfl rfl rfl ?_) | (refine qdbS HM.out 0 rfl rfl rfl ?_; simp only [List.take, List.drop])) | ((with_reducible refine qat 16 ?_); (refine qsslf rfl rfl rfl (Nat.le_of_lt hil) ?_)) | go_big_quiet_step (fail) | quiet_step (fail)))); clear hNE; refine wpQuiet_nil ?_; intro W1 HM1; replace HM := Lib.hid HM1; clear HM1
 rw [HS.out]
 go_wp2_with fail
 go_loopw [18, 5] (fun kv nv wr => ∃ k : Nat, kv = .int .i64 k ∧ k ≤ 4 ∧ nv = .int .i64 (hitN h0 h1 h2 h3 k) ∧ Hid (Mem w0 wr (.box R 114 [.string s, .int .i64 i, .slice op on oc, .bool bo, .bool bf] :: T))) (fun kv _ _ => 4 - (intOf kv).toNat)
 case atStart => exact ⟨0, rfl, Nat.zero_le _, rfl, HM⟩
 case round =>
  clear HM
  obtain ⟨k, rfl, hk, rfl, HM⟩ := hrel
  by_cases hlt : k < 4
  ·obtain rfl | rfl | rfl | rfl : k = 0 ∨ k = 1 ∨ k = 2 ∨ k = 3 := by omega
   ·cases h0
    all_goals
     go_wp2_with (first | ((with_reducible refine iat 20 ?_); (refine ixc Tryz.underlying176 rfl rfl (i := 0) rfl (by decide) rfl ?_)) | (go_at_call 141; (with_reducible refine (HP0.out _).mono ?_); rintro e W2 ⟨rfl, rfl⟩))
     go_roundw
     case rel => exact ⟨1, by go_num, by omega, by simp [hitN, hitK], HM⟩
     case measure => simp [intOf]
   ·cases h1
    all_goals
     go_wp2_with (first | ((with_reducible refine iat 20 ?_); (refine ixc Tryz.underlying176 rfl rfl (i := 1) rfl (by decide) rfl ?_)) | (go_at_call 141; (with_reducible refine (HP1.out _).mono ?_); rintro e W2 ⟨rfl, rfl⟩))
     go_roundw
     case rel => exact ⟨2, by go_num, by omega, by simp [hitN, hitK], HM⟩
     case measure => simp [intOf]
   ·cases h2
    all_goals
     go_wp2_with (first | ((with_reducible refine iat 20 ?_); (refine ixc Tryz.underlying176 rfl rfl (i := 2) rfl (by decide) rfl ?_)) | (go_at_call 141; (with_reducible refine (HP2.out _).mono ?_); rintro e W2 ⟨rfl, rfl⟩))
     go_roundw
     case rel => exact ⟨3, by go_num, by omega, by simp [hitN, hitK], HM⟩
     case measure => simp [intOf]
   ·cases h3
    all_goals
     go_wp2_with (first | ((with_reducible refine iat 20 ?_); (refine ixc Tryz.underlying176 rfl rfl (i := 3) rfl (by decide) rfl ?_)) | (go_at_call 141; (with_reducible refine (HP3.out _).mono ?_); rintro e W2 ⟨rfl, rfl⟩))
     go_roundw
     case rel => exact ⟨4, by go_num, by omega, by simp [hitN, hitK], HM⟩
     case measure => simp [intOf]
  ·obtain rfl : k = 4 := by omega
   cases hh : hitK h0 h1 h2 h3 4 with
   | true =>
    have hm2 : m = 2 := by rw [HNm.out, hh]; rfl
    subst hm2
    rw [show hitN h0 h1 h2 h3 4 = 2 by unfold hitN; rw [hh]; rfl]
    have h2s := hS2.out hh
    have HE := Lib.hid (HSx.out 2 (HN2.out hh))
    go_wp2_with (first | ((with_reducible refine iat 43 ?_); (refine sslh rfl rfl (j := 2) rfl h2s ?_)) | ((with_reducible refine igd ?_); (with_reducible refine skip_op ?_ ?_); (exact rfl)) | ((with_reducible refine inilCheck ?_); (refine lnil rfl ?_)) | ((with_reducible refine iload ?_); first | refine ldb1 HM.out 0 rfl rfl rfl ?_) | ((with_reducible refine istore ?_); (refine stb1 (v := .int _ _) rfl HM.out 0 rfl rfl rfl rfl rfl ?_; intro W1 HM1; replace HM := Lib.hid HM1; clear HM1; simp only [List.set] at HM)))
    rw [HE.out]
    go_wp2_with fail
    go_ret2
    exact ⟨rfl, HM.out⟩
   | false =>
    rw [show hitN h0 h1 h2 h3 4 = 0 by unfold hitN; rw [hh]; rfl]
    cases hs1 : sgn1 c with
    | true =>
     have hm2 : m = 1 := by rw [HNm.out, hh, hs1]; rfl
     subst hm2
     have g1 : decide (0 ≤ ix) = true := by rw [HSg.out, hs1]
     have HE := Lib.hid (HSx.out 1 (by omega))
     clear hs1 hh
     go_wp2_with (first | ((with_reducible refine iat 29 ?_); (refine six rfl rfl (i := 0) rfl HC.out ?_)) | (go_at_call 70; (with_reducible refine (HI.out _).mono ?_); rintro e W2 ⟨rfl, rfl⟩) | ((with_reducible refine iat 43 ?_); (refine sslh rfl rfl (j := 1) rfl hSp ?_)) | ((with_reducible refine igd ?_); (with_reducible refine skip_op ?_ ?_); (exact rfl)) | ((with_reducible refine inilCheck ?_); (refine lnil rfl ?_)) | ((with_reducible refine iload ?_); first | refine ldb1 HM.out 0 rfl rfl rfl ?_) | ((with_reducible refine istore ?_); (refine stb1 (v := .int _ _) rfl HM.out 0 rfl rfl rfl rfl rfl ?_; intro W1 HM1; replace HM := Lib.hid HM1; clear HM1; simp only [List.set] at HM)))
     rw [HE.out]
     go_wp2_with fail
     go_ret2
     exact ⟨rfl, HM.out⟩
    | false =>
     have hm2 : m = 0 := by rw [HNm.out, hh, hs1]; rfl
     subst hm2
     have g1 : decide (0 ≤ ix) = false := by rw [HSg.out, hs1]
     have HE := Lib.hid (HSx.out 0 (by omega))
     clear hs1 hh
     go_wp2_with (first | ((with_reducible refine iat 29 ?_); (refine six rfl rfl (i := 0) rfl HC.out ?_)) | (go_at_call 70; (with_reducible refine (HI.out _).mono ?_); rintro e W2 ⟨rfl, rfl⟩) | ((with_reducible refine iat 43 ?_); (refine sslh rfl rfl (j := 0) rfl (Nat.zero_le _) ?_)) | ((with_reducible refine igd ?_); (with_reducible refine skip_op ?_ ?_); (exact rfl)) | ((with_reducible refine inilCheck ?_); (refine lnil rfl ?_)) | ((with_reducible refine iload ?_); first | refine ldb1 HM.out 0 rfl rfl rfl ?_) | ((with_reducible refine istore ?_); (refine stb1 (v := .int _ _) rfl HM.out 0 rfl rfl rfl rfl rfl ?_; intro W1 HM1; replace HM := Lib.hid HM1; clear HM1; simp only [List.set] at HM)))
     rw [HE.out]
     go_wp2_with fail
     go_ret2
     exact ⟨rfl, HM.out⟩
end Go.Proofs.YtkackccmhghphaaGreatDoor
