/- The reader's quoted text. (fast) -/
import Derived.Test.YtkackccmhghphaaGreatDoorLexSign
import Derived.Test.YtkackccmhghphaaGreatDoorUnqA
import Derived.ScopeJumps
namespace Go.Proofs.YtkackccmhghphaaGreatDoor
open Go.RowKit
set_option linter.unusedVariables false
set_option linter.unusedSimpArgs false
set_option maxRecDepth 100000

theorem wp_label_in {P : Program} {a : Act} {w : World} {Q : Exit → Act → World → Prop} {c x0 : Code} (l : Nat) (J : Act → World → Prop) (μ : Act → World → Nat) (hf : findLabel c l = some (Code.seq .skip x0))
  (first : (∀ a w, J a w → x0.wp P (Exit.jump l J Q) a w) → c.wp P (Exit.jump l J Q) a w)
  (pass : ∀ a w, J a w → x0.wp P (Exit.jump l (fun a' w' => J a' w' ∧ μ a' w' < μ a w) Q) a w) : (Code.scope c).wp P Q a w :=
 wp_scope_jumps l J μ hf (first fun a w hJ => by
  intro b k cs
  obtain ⟨e, x, y, hq, harr⟩ := pass a w hJ b k cs
  refine ⟨e, x, y, ?_, harr⟩
  cases e with
  | goto l' => exact ⟨hq.1, hq.2.1⟩
  | normal => exact hq
  | exit id => exact hq
  | ret => exact hq
  | panic ch => exact hq
  | outgrown => exact hq)
  (fun a w h => wp_behind_skip (pass a w h))

def QE (l : List UInt8) (k : Nat) : Option Nat := quoE l (l.length + 1) k
theorem QE_end {l : List UInt8} {k : Nat} (h : l.length ≤ k) : QE l k = none := by unfold QE quoE; rw [List.getElem?_eq_none h]
theorem QE_two {l : List UInt8} {k : Nat} (h : l[k]? = some 92) : QE l k = QE l (k + 2) := by
 have h2 : QE l k = quoE l l.length (k + 2) := by unfold QE quoE; rw [h]; simp only; rw [if_pos trivial, ← quoE.eq_def]
 rw [h2]
 exact quoE_more l _ _ _ (by omega) (by omega)
theorem QE_one {l : List UInt8} {k : Nat} {b : UInt8} (h : l[k]? = some b) (h1 : b ≠ 92) (h2 : b ≠ 34) : QE l k = QE l (k + 1) := by
 have h3 : QE l k = quoE l l.length (k + 1) := by unfold QE quoE; rw [h]; simp only; rw [if_neg h1, if_neg h2, ← quoE.eq_def]
 rw [h3]
 exact quoE_more l _ _ _ (by omega) (by omega)
theorem QE_at {l : List UInt8} {k : Nat} (h : l[k]? = some 34) : QE l k = some (k + 1) := by
 unfold QE quoE
 rw [h]
 rfl
theorem textF_no {s : ByteArray} {i : Nat} (h : s.data.toList[i]? ≠ some 34) : textF s i = none := by unfold textF; rw [if_neg h]
theorem textF_open {s : ByteArray} {i : Nat} (h : s.data.toList[i]? = some 34) (h2 : QE s.data.toList (i + 1) = none) : textF s i = none := by
 unfold textF
 have : QE s.data.toList (i + 1) = quoE s.data.toList (s.size + 1) (i + 1) := by unfold QE; rw [show s.data.toList.length = s.size by simp]
 rw [if_pos h, ← this, h2]
theorem textF_at {s : ByteArray} {i k : Nat} (h : s.data.toList[i]? = some 34) (h2 : QE s.data.toList (i + 1) = some k) : textF s i = if (unqR (s.extract i k)).2 = 0 then some ((unqR (s.extract i k)).1, k) else none := by
 unfold textF
 have : QE s.data.toList (i + 1) = quoE s.data.toList (s.size + 1) (i + 1) := by unfold QE; rw [show s.data.toList.length = s.size by simp]
 rw [if_pos h, ← this, h2]

/-- What quoted leaves. -/
def QPost (r : Option (ByteArray × Nat)) (w0 : World) (R : Nat) (T : List Res) (s : ByteArray) (op : Option Addr) (on oc : Nat) (bo bf : Bool) (e : Ending) (w' : World) : Prop :=
 match r with
 | none => ∃ (t : ByteArray) (k : Nat), e = .returned (.tuple #[.string t, .bool false]) ∧ Mem w0 w' (.box R 114 [.string s, .int .i64 k, .slice op on oc, .bool bo, .bool bf] :: T)
 | some (t, k) => e = .returned (.tuple #[.string t, .bool true]) ∧ Mem w0 w' (.box R 114 [.string s, .int .i64 k, .slice op on oc, .bool bo, .bool bf] :: T)

set_option maxHeartbeats 8000000 in
theorem lQuoted (w0 W : World) (R : Nat) (T : List Res) (s : ByteArray) (i on oc : Nat) (op : Option Addr) (bo bf : Bool) (HM0 : Mem w0 W (.box R 114 [.string s, .int .i64 i, .slice op on oc, .bool bo, .bool bf] :: T)) (hi : i ≤ s.size) (hs : s.size ≤ 1000) (hT : U8 w0) :
  Calls Tryz.prog 107 #[.pointer (some ⟨R, 0, none⟩)] W (QPost (textF s i) w0 R T s op on oc bo bf) := by
 have HM := Lib.hid HM0
 have HT := Lib.hid hT
 have hlen : s.data.toList.length = s.size := by simp
 obtain ⟨S, hS⟩ : ∃ S, s.extract i s.size = S := ⟨_, rfl⟩
 have hSl : S.data.toList = s.data.toList.drop i := by rw [← hS, ext_list, List.take_of_length_le (by rw [List.length_drop]; omega)]
 have hpx : Lib.hasPrefix (s.data.toList.drop i) [34] = (s.data.toList[i]? == some 34) := by
  cases h : s.data.toList[i]? with
  | none => rw [List.drop_of_length_le (by rw [List.getElem?_eq_none_iff] at h; exact h)]; rfl
  | some b => rw [drop_cons h]; show [34].isPrefixOf (b :: _) = _; simp [List.isPrefixOf, Bool.beq_comm]
 have HP := Lib.hid (show ∀ W, Calls Tryz.prog 141 #[.string S, .string ⟨#[34]⟩] W fun e w' => e = .returned (.bool (s.data.toList[i]? == some 34)) ∧ W = w' from fun W =>
  (Tryz.strings_HasPrefix S ⟨#[34]⟩ W).mono fun e w' ⟨h1, h2⟩ => ⟨by rw [h1, ← hpx, ← hSl], h2.symm⟩)
 have HS := Lib.hid hS
 by_cases h34 : s.data.toList[i]? = some 34
 ·rw [h34] at HP
  obtain ⟨r, hr⟩ : ∃ r, QE s.data.toList (i + 1) = r := ⟨_, rfl⟩
  have HR := Lib.hid hr
  have hil : i < s.size := by rw [← hlen]; exact (List.getElem?_eq_some_iff.1 h34).1
  have HF := Lib.hid (show r = none → textF s i = none from fun h => textF_open h34 (by rw [hr, h]))
  have HG := Lib.hid (show ∀ k, r = some k → textF s i = if (unqR (s.extract i k)).2 = 0 then some ((unqR (s.extract i k)).1, k) else none from fun k h => textF_at h34 (by rw [hr, h]))
  have HL := Lib.hid hlen
  have HU := Lib.hid (show ∀ (x : ByteArray) (W : World), x.size ≤ 1000 → U8 W → Calls Tryz.prog 142 #[.string x] W fun e w' => e = .returned (.tuple #[.string (unqR x).1, .int .i64 (unqR x).2]) ∧ Below W.heap.size W w' from fun x W hx hu => unquoteV_R x ▸ unquote_any x W hu (by omega))
  clear HM0 hT hS hSl hpx h34 hr hlen
  go_enter Tryz.func107, Tryz.ntmps107
  go_wp2_with fail
  refine wp_label_in 0 (fun a wr => ∃ k : Nat, i + 1 ≤ k ∧ k ≤ s.size + 1 ∧ QE s.data.toList k = r ∧ Mem w0 wr (.box R 114 [.string s, .int .i64 k, .slice op on oc, .bool bo, .bool bf] :: T) ∧ ∃ u1 u2 u3 u5 u6 u7 u8 u9 u10 u11 u12 u13 u14 u15 u16 u17 u18 u19 u20 u21 u22 u23 u24 u25 u26 u27 u28 u29 u30 u31 u32 u33 u34 u35 u36 u37 u38 u39 u40 u41 u42 u43 u44 u45 u46 u47 u48 u49 u50 u51 u52 u53 u54 u55 u56 u57 u58 u59 u60 u61 u62 u63 u64 u65 u66 u67 u68 u69 u70 u71 u72 u73 u74 u75 u76 u77 u78 u79 u80 u81 u82 u83 u84 u85 u86, a = ⟨#[.pointer (some ⟨R, 0, none⟩), u1, u2, u3, .int .i64 i, u5, u6, u7, u8, u9, u10, u11, u12, u13, u14, u15, u16, u17, u18, u19, u20, u21, u22, u23, u24, u25, u26, u27, u28, u29, u30, u31, u32, u33, u34, u35, u36, u37, u38, u39, u40, u41, u42, u43, u44, u45, u46, u47, u48, u49, u50, u51, u52, u53, u54, u55, u56, u57, u58, u59, u60, u61, u62, u63, u64, u65, u66, u67, u68, u69, u70, u71, u72, u73, u74, u75, u76, u77, u78, u79, u80, u81, u82, u83, u84, u85, u86], []⟩) (fun _ wr => s.size + 3 - (intOf ((wr.cell? ⟨R, 1, none⟩).getD undef)).toNat) rfl ?_ ?_
  ·intro H
   have HH := Lib.hid H
   clear H
   go_wp2_with (first | ((with_reducible refine iat 16 ?_); (refine sslf rfl rfl rfl hi ?_; rw [HS.out])) | (go_at_call 141; (with_reducible refine (HP.out _).mono ?_); rintro e W2 ⟨rfl, rfl⟩) | ((with_reducible refine inilCheck ?_); (refine lnil rfl ?_)) | ((with_reducible refine iload ?_); first | refine ldb1 HM.out 0 rfl rfl rfl ?_) | ((with_reducible refine istore ?_); (refine stb1 (v := .int _ _) rfl HM.out 0 rfl rfl rfl rfl rfl ?_; intro W1 HM1; replace HM := Lib.hid HM1; clear HM1; simp only [List.set] at HM)))
   go_step3
   rename_i hK
   exact hK _ _ (HH.out _ _ ⟨i + 1, Nat.le_refl _, by omega, HR.out, HM.out, _, _, _, _, _, _, _, _, _, _, _, _, _, _, _, _, _, _, _, _, _, _, _, _, _, _, _, _, _, _, _, _, _, _, _, _, _, _, _, _, _, _, _, _, _, _, _, _, _, _, _, _, _, _, _, _, _, _, _, _, _, _, _, _, _, _, _, _, _, _, _, _, _, _, _, _, _, _, _, _, _, _, _, _, _, rfl⟩)
  ·clear HM HR
   rintro a wr ⟨k, hk1, hk2, hQ, hM, u1, u2, u3, u5, u6, u7, u8, u9, u10, u11, u12, u13, u14, u15, u16, u17, u18, u19, u20, u21, u22, u23, u24, u25, u26, u27, u28, u29, u30, u31, u32, u33, u34, u35, u36, u37, u38, u39, u40, u41, u42, u43, u44, u45, u46, u47, u48, u49, u50, u51, u52, u53, u54, u55, u56, u57, u58, u59, u60, u61, u62, u63, u64, u65, u66, u67, u68, u69, u70, u71, u72, u73, u74, u75, u76, u77, u78, u79, u80, u81, u82, u83, u84, u85, u86, rfl⟩
   have HM := Lib.hid hM
   have HQ := Lib.hid hQ
   have HK := Lib.hid (rd_at hM)
   clear hM hQ
   by_cases hlt : k < s.size
   ·obtain ⟨b, hb⟩ : ∃ b, s.data.toList[k]? = some b := ⟨_, List.getElem?_eq_getElem (by rw [HL.out]; exact hlt)⟩
    have HBi := Lib.hid hb
    have d1 : decide ((s.size : Int) ≤ k) = false := decide_eq_false (by omega)
    have d1' : decide (s.size ≤ k) = false := decide_eq_false (by omega)
    by_cases h92 : b = 92
    ·subst h92
     have HQ2 := Lib.hid (show QE s.data.toList (k + 2) = r by rw [← HQ.out]; exact (QE_two hb).symm)
     clear hb
     go_wp2_with fail
     refine wp_region_mem (by kernel_rfl) (by kernel_rfl) HM.out ?_; intro hNE; (repeat (any_goals (first | ((with_reducible refine qgd ?_); (with_reducible refine skip_q ?_ ?_ ?_); (exact rfl); (rotate_left; (exact (hNE.elim fun p => ⟨p.W, p, rfl⟩)))) | ((with_reducible refine qnilCheck ?_); (refine qnil rfl ?_)) | ((with_reducible refine qload ?_); first | (refine qdb1 HM.out 0 rfl rfl rfl ?_) | (refine qdbW HM.out 0 rfl rfl rfl ?_) | (refine qdbS HM.out 0 rfl rfl rfl ?_; simp only [List.take, List.drop])) | go_big_quiet_step (fail) | quiet_step (fail)))); clear hNE; refine wpQuiet_nil ?_; intro W1 HM1; replace HM := Lib.hid HM1; clear HM1
     go_wp2_with fail
     refine wp_region_mem (by kernel_rfl) (by kernel_rfl) HM.out ?_; intro hNE; (repeat (any_goals (first | ((with_reducible refine qgd ?_); (with_reducible refine skip_q ?_ ?_ ?_); (exact rfl); (rotate_left; (exact (hNE.elim fun p => ⟨p.W, p, rfl⟩)))) | ((with_reducible refine qnilCheck ?_); (refine qnil rfl ?_)) | ((with_reducible refine qload ?_); first | (refine qdb1 HM.out 0 rfl rfl rfl ?_) | (refine qdbW HM.out 0 rfl rfl rfl ?_) | (refine qdbS HM.out 0 rfl rfl rfl ?_; simp only [List.take, List.drop])) | ((with_reducible refine qat 44 ?_); (refine qsix rfl rfl rfl HBi.out ?_)) | go_big_quiet_step (fail) | quiet_step (fail)))); clear hNE; refine wpQuiet_nil ?_; intro W1 HM1; replace HM := Lib.hid HM1; clear HM1
     go_wp2_with (first | ((with_reducible refine inilCheck ?_); (refine lnil rfl ?_)) | ((with_reducible refine iload ?_); first | refine ldb1 HM.out 0 rfl rfl rfl ?_) | ((with_reducible refine istore ?_); (refine stb1 (v := .int _ _) rfl HM.out 0 rfl rfl rfl rfl rfl ?_; intro W1 HM1; replace HM := Lib.hid HM1; clear HM1; simp only [List.set] at HM)))
     exact wp_goto ⟨rfl, ⟨k + 2, by omega, by omega, HQ2.out, HM.out, _, _, _, _, _, _, _, _, _, _, _, _, _, _, _, _, _, _, _, _, _, _, _, _, _, _, _, _, _, _, _, _, _, _, _, _, _, _, _, _, _, _, _, _, _, _, _, _, _, _, _, _, _, _, _, _, _, _, _, _, _, _, _, _, _, _, _, _, _, _, _, _, _, _, _, _, _, _, _, _, _, _, _, _, _, rfl⟩, by rw [rd_at (k := k + 2) HM.out, HK.out]; omega⟩
    ·have q1 : ((b.toNat : Int) == 92) = false := by simpa using fun e : (b.toNat : Int) = 92 => h92 (UInt8.toNat_inj.1 (by show b.toNat = 92; omega))
     by_cases h34b : b = 34
     ·subst h34b
      have hrk : r = some (k + 1) := by rw [← HQ.out]; exact QE_at hb
      have HG2 := Lib.hid (HG.out _ hrk)
      have hk3 : k + 1 ≤ s.size := hlt
      have hik : i ≤ k + 1 := by omega
      have hxs : (s.extract i (k + 1)).size ≤ 1000 := by rw [ByteArray.size_extract]; omega
      have HU2 := Lib.hid (fun W hu => HU.out (s.extract i (k + 1)) W hxs hu)
      obtain ⟨⟨ut, ue⟩, hu⟩ : ∃ x, unqR (s.extract i (k + 1)) = x := ⟨_, rfl⟩
      rw [hu] at HU2 HG2
      clear hb hu hrk HG HF
      go_wp2_with fail
      refine wp_region_mem (by kernel_rfl) (by kernel_rfl) HM.out ?_; intro hNE; (repeat (any_goals (first | ((with_reducible refine qgd ?_); (with_reducible refine skip_q ?_ ?_ ?_); (exact rfl); (rotate_left; (exact (hNE.elim fun p => ⟨p.W, p, rfl⟩)))) | ((with_reducible refine qnilCheck ?_); (refine qnil rfl ?_)) | ((with_reducible refine qload ?_); first | (refine qdb1 HM.out 0 rfl rfl rfl ?_) | (refine qdbW HM.out 0 rfl rfl rfl ?_) | (refine qdbS HM.out 0 rfl rfl rfl ?_; simp only [List.take, List.drop])) | go_big_quiet_step (fail) | quiet_step (fail)))); clear hNE; refine wpQuiet_nil ?_; intro W1 HM1; replace HM := Lib.hid HM1; clear HM1
      go_wp2_with fail
      refine wp_region_mem (by kernel_rfl) (by kernel_rfl) HM.out ?_; intro hNE; (repeat (any_goals (first | ((with_reducible refine qgd ?_); (with_reducible refine skip_q ?_ ?_ ?_); (exact rfl); (rotate_left; (exact (hNE.elim fun p => ⟨p.W, p, rfl⟩)))) | ((with_reducible refine qnilCheck ?_); (refine qnil rfl ?_)) | ((with_reducible refine qload ?_); first | (refine qdb1 HM.out 0 rfl rfl rfl ?_) | (refine qdbW HM.out 0 rfl rfl rfl ?_) | (refine qdbS HM.out 0 rfl rfl rfl ?_; simp only [List.take, List.drop])) | ((with_reducible refine qat 44 ?_); (refine qsix rfl rfl rfl HBi.out ?_)) | go_big_quiet_step (fail) | quiet_step (fail)))); clear hNE; refine wpQuiet_nil ?_; intro W1 HM1; replace HM := Lib.hid HM1; clear HM1
      go_wp2_with (first | ((with_reducible refine inilCheck ?_); (refine lnil rfl ?_)) | ((with_reducible refine iload ?_); first | refine ldb1 HM.out 0 rfl rfl rfl ?_) | ((with_reducible refine istore ?_); (refine stb1 (v := .int _ _) rfl HM.out 0 rfl rfl rfl rfl rfl ?_; intro W1 HM1; replace HM := Lib.hid HM1; clear HM1; simp only [List.set] at HM)))
      refine wp_region_steps2 [(true, 0), (true, 1), (true, 2), (true, 3), (true, 4), (true, 5), (true, 6), (true, 7), (true, 8), (true, 9), (false, 10), (true, 11), (true, 12), (true, 13), (true, 14), (true, 15)] (by kernel_rfl) (by kernel_rfl) rfl (by kernel_rfl) (fun _ _ _ _ _ h => h) HM.out _ (.cons_cons _ (List.nil_sublist _)) ?_
      intro hNE W1 HM1; replace HM := Lib.hid HM1; clear HM1
      have HS0 := Lib.hid (HM.out.sub (.cons_cons _ (List.nil_sublist _)))
      simp only [wpSteps, List.getElem?_cons_succ, List.getElem?_cons_zero]
      (repeat (first | ((with_reducible refine qnilCheck ?_); (refine qnil rfl ?_)) | ((with_reducible refine wpQuiet_nil ?_); (try dsimp only)) | ((with_reducible refine qload ?_); first | (refine qdb1 HS0.out 0 rfl rfl rfl ?_)) | ((with_reducible refine qat 80 ?_); (refine qssls rfl rfl rfl rfl (j := k + 1) rfl hik hk3 ?_)) | go_big_quiet_step (fail) | quiet_step (fail)))
      go_wp2_with (first | (go_at_call 142; (with_reducible refine (HU2.out _ (U8.below HT.out HM.out.below)).mono ?_); rintro e W1 ⟨rfl, hb⟩; replace HM := Lib.hid (HM.out.next hb); clear hb))
      refine ⟨⟨⟨_, HM.out.sub (by repeat (first | exact List.nil_sublist _ | with_reducible refine List.Sublist.cons_cons _ ?_ | refine List.Sublist.cons _ ?_))⟩, rfl⟩, ?_⟩
      (try dsimp only)
      (repeat (first | ((with_reducible refine wpQuiet_nil ?_); (try dsimp only)) | go_big_quiet_step (fail) | quiet_step (fail)))
      clear HS0 hNE
      go_wp2_with fail
      simp only [Exit.jump]
      go_ret2
      rw [HG2.out]
      by_cases h0 : ue = 0
      ·subst h0
       exact ⟨rfl, HM.out⟩
      ·rw [if_neg h0]
       have he : (ue == 0) = false := by simpa using h0
       exact ⟨ut, k + 1, by rw [← he]; rfl, HM.out⟩
     ·have q2 : ((b.toNat : Int) == 34) = false := by simpa using fun e : (b.toNat : Int) = 34 => h34b (UInt8.toNat_inj.1 (by show b.toNat = 34; omega))
      have HQ2 := Lib.hid (show QE s.data.toList (k + 1) = r by rw [← HQ.out]; exact (QE_one hb h92 h34b).symm)
      clear hb
      go_wp2_with fail
      refine wp_region_mem (by kernel_rfl) (by kernel_rfl) HM.out ?_; intro hNE; (repeat (any_goals (first | ((with_reducible refine qgd ?_); (with_reducible refine skip_q ?_ ?_ ?_); (exact rfl); (rotate_left; (exact (hNE.elim fun p => ⟨p.W, p, rfl⟩)))) | ((with_reducible refine qnilCheck ?_); (refine qnil rfl ?_)) | ((with_reducible refine qload ?_); first | (refine qdb1 HM.out 0 rfl rfl rfl ?_) | (refine qdbW HM.out 0 rfl rfl rfl ?_) | (refine qdbS HM.out 0 rfl rfl rfl ?_; simp only [List.take, List.drop])) | go_big_quiet_step (fail) | quiet_step (fail)))); clear hNE; refine wpQuiet_nil ?_; intro W1 HM1; replace HM := Lib.hid HM1; clear HM1
      go_wp2_with fail
      refine wp_region_mem (by kernel_rfl) (by kernel_rfl) HM.out ?_; intro hNE; (repeat (any_goals (first | ((with_reducible refine qgd ?_); (with_reducible refine skip_q ?_ ?_ ?_); (exact rfl); (rotate_left; (exact (hNE.elim fun p => ⟨p.W, p, rfl⟩)))) | ((with_reducible refine qnilCheck ?_); (refine qnil rfl ?_)) | ((with_reducible refine qload ?_); first | (refine qdb1 HM.out 0 rfl rfl rfl ?_) | (refine qdbW HM.out 0 rfl rfl rfl ?_) | (refine qdbS HM.out 0 rfl rfl rfl ?_; simp only [List.take, List.drop])) | ((with_reducible refine qat 44 ?_); (refine qsix rfl rfl rfl HBi.out ?_)) | go_big_quiet_step (fail) | quiet_step (fail)))); clear hNE; refine wpQuiet_nil ?_; intro W1 HM1; replace HM := Lib.hid HM1; clear HM1
      go_wp2_with (first | ((with_reducible refine inilCheck ?_); (refine lnil rfl ?_)) | ((with_reducible refine iload ?_); first | refine ldb1 HM.out 0 rfl rfl rfl ?_) | ((with_reducible refine istore ?_); (refine stb1 (v := .int _ _) rfl HM.out 0 rfl rfl rfl rfl rfl ?_; intro W1 HM1; replace HM := Lib.hid HM1; clear HM1; simp only [List.set] at HM)))
      exact wp_goto ⟨rfl, ⟨k + 1, by omega, by omega, HQ2.out, HM.out, _, _, _, _, _, _, _, _, _, _, _, _, _, _, _, _, _, _, _, _, _, _, _, _, _, _, _, _, _, _, _, _, _, _, _, _, _, _, _, _, _, _, _, _, _, _, _, _, _, _, _, _, _, _, _, _, _, _, _, _, _, _, _, _, _, _, _, _, _, _, _, _, _, _, _, _, _, _, _, _, _, _, _, _, _, rfl⟩, by rw [rd_at (k := k + 1) HM.out, HK.out]; omega⟩
   ·have hn : textF s i = none := HF.out (by rw [← HQ.out]; exact QE_end (by rw [HL.out]; omega))
    have HN := Lib.hid hn
    have d1 : decide ((s.size : Int) ≤ k) = true := decide_eq_true (by omega)
    have d1' : decide (s.size ≤ k) = true := decide_eq_true (by omega)
    clear hn
    go_wp2_with fail
    refine wp_region_mem (by kernel_rfl) (by kernel_rfl) HM.out ?_; intro hNE; (repeat (any_goals (first | ((with_reducible refine qgd ?_); (with_reducible refine skip_q ?_ ?_ ?_); (exact rfl); (rotate_left; (exact (hNE.elim fun p => ⟨p.W, p, rfl⟩)))) | ((with_reducible refine qnilCheck ?_); (refine qnil rfl ?_)) | ((with_reducible refine qload ?_); first | (refine qdb1 HM.out 0 rfl rfl rfl ?_) | (refine qdbW HM.out 0 rfl rfl rfl ?_) | (refine qdbS HM.out 0 rfl rfl rfl ?_; simp only [List.take, List.drop])) | go_big_quiet_step (fail) | quiet_step (fail)))); clear hNE; refine wpQuiet_nil ?_; intro W1 HM1; replace HM := Lib.hid HM1; clear HM1
    go_wp2_with fail
    simp only [Exit.jump]
    go_ret2
    rw [HN.out]
    exact ⟨_, _, rfl, HM.out⟩
 ·have HN := Lib.hid (textF_no h34)
  have hq : (s.data.toList[i]? == some 34) = false := by simpa using h34
  rw [hq] at HP
  clear HM0 hT hS hSl hpx h34 hlen hq
  go_enter Tryz.func107, Tryz.ntmps107
  go_wp2_with fail
  refine wp_label_in 0 (fun _ _ => False) (fun _ _ => 0) rfl ?_ (fun _ _ h => h.elim)
  intro H
  clear H
  go_wp2_with (first | ((with_reducible refine iat 16 ?_); (refine sslf rfl rfl rfl hi ?_; rw [HS.out])) | (go_at_call 141; (with_reducible refine (HP.out _).mono ?_); rintro e W2 ⟨rfl, rfl⟩) | ((with_reducible refine inilCheck ?_); (refine lnil rfl ?_)) | ((with_reducible refine iload ?_); first | refine ldb1 HM.out 0 rfl rfl rfl ?_) | ((with_reducible refine istore ?_); (refine stb1 (v := .int _ _) rfl HM.out 0 rfl rfl rfl rfl rfl ?_; intro W1 HM1; replace HM := Lib.hid HM1; clear HM1; simp only [List.set] at HM)))
  simp only [Exit.jump]
  go_ret2
  rw [HN.out]
  exact ⟨_, _, rfl, HM.out⟩
end Go.Proofs.YtkackccmhghphaaGreatDoor
