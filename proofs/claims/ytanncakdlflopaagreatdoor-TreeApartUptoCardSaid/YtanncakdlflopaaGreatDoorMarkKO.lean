/- mark's reader: until, for any text. (short) mark's reader: attr, on any document. (short) mark's reader puts an attribute to an open. (short) mark's reader: characters, a close. (short) mark's reader: a close. (short) -/
import Derived.Test.YtanncakdlflopaaGreatDoorMarkPlain
import Derived.Test.YtanncakdlflopaaGreatDoorMarkBF
namespace Go.Proofs.YtanncakdlflopaaGreatDoor
open Go.RowKit
set_option linter.unusedVariables false
set_option linter.unusedSimpArgs false
set_option maxRecDepth 100000

/-- The bound that strings.Index looks at: whatever number. -/
def MaxAt (w : World) : Prop := ∃ m : Int, w.cell? ⟨2, 0, none⟩ = some (.int .i64 m)
theorem MaxAt.below {w w' : World} (h : MaxAt w) (hb : Below w.heap.size w w') : MaxAt w' := by
 obtain ⟨m, hm⟩ := h
 exact ⟨m, cell_later hb hm⟩
theorem sidx (X t : ByteArray) (W : World) (hX : X.size ≤ 1048576) (hm : MaxAt W) : Calls Tryz.prog 97 #[.string X, .string t] W fun e w' => e = .returned (.int .i64 (Lib.index X.data.toList t.data.toList)) ∧ W = w' := by
 obtain ⟨m, hm⟩ := hm
 exact (Tryz.strings_Index X t m W (by omega) hm).mono fun e w' ⟨h1, h2⟩ => ⟨h1, h2.symm⟩

set_option maxHeartbeats 4000000 in
theorem muntil_yes (w0 W : World) (R : Nat) (T : List Res) (S t : ByteArray) (i n : Nat) (ov : Value) (lg dp : Bool) (HM0 : Mem w0 W (.box R 85 [.string S, .int .i64 i, ov, .bool lg, .bool dp] :: T)) (hX : MaxAt w0) (hi : i ≤ S.size) (hs : S.size ≤ 1048576) (ht : t.data.toList ≠ []) (hc : fndL t.data.toList (S.data.toList.drop i) = some n) :
  Calls Tryz.prog 65 #[.pointer (some ⟨R, 0, none⟩), .string t] W fun e w' => e = .returned (.tuple #[.string (S.extract i (i + n)), .bool true]) ∧ Mem w0 w' (.box R 85 [.string S, .int .i64 (i + (n + t.size) : Nat), ov, .bool lg, .bool dp] :: T) := by
 have HM := Lib.hid HM0
 have HX0 := Lib.hid hX
 clear HM0 hX
 obtain ⟨X, hX⟩ : ∃ X, S.extract i S.size = X := ⟨_, rfl⟩
 have hXs : X.size ≤ 1048576 := by rw [← hX, ByteArray.size_extract]; omega
 have hXl : X.data.toList = S.data.toList.drop i := by rw [← hX, Lib.extract_data]; exact List.take_of_length_le (by simp)
 have hle := fndL_le ht hc
 rw [List.length_drop, size_list, size_list] at hle
 have hI : Lib.index X.data.toList t.data.toList = (n : Int) := by rw [hXl]; exact fndL_some hc
 have HP := Lib.hid (fun W hm => (by have := sidx X t W hXs hm; rw [hI] at this; exact this : Calls Tryz.prog 97 #[.string X, .string t] W fun e w' => e = .returned (.int .i64 (n : Int)) ∧ W = w'))
 have HX := Lib.hid hX
 have hl2 : i + n ≤ S.size := by omega
 have hl3 : i ≤ i + n := by omega
 obtain ⟨Y, hY⟩ : ∃ Y, S.extract i (i + n) = Y := ⟨_, rfl⟩
 rw [hY]
 have HY := Lib.hid hY
 obtain ⟨tz, htz⟩ : ∃ z, t.size = z := ⟨_, rfl⟩
 have HTz := Lib.hid htz
 clear hX hXl hXs hc hI hY ht
 go_enter Tryz.func65, Tryz.ntmps65
 go_wp2_with fail
 refine wp_region_steps2 [(true, 0), (true, 1), (true, 2), (true, 3), (true, 4), (true, 5), (true, 6), (true, 7), (true, 8), (true, 9), (false, 10), (true, 11)] (by kernel_rfl) (by kernel_rfl) rfl (by kernel_rfl) (fun _ _ _ _ _ h => h) HM.out _ (.cons_cons _ (List.nil_sublist _)) ?_
 intro hNE W1 HM1; replace HM := Lib.hid HM1; clear HM1
 have HS0 := Lib.hid (HM.out.sub (.cons_cons _ (List.nil_sublist _)))
 simp only [wpSteps, List.getElem?_cons_succ, List.getElem?_cons_zero]
 (repeat (first | ((with_reducible refine wpQuiet_nil ?_); (try dsimp only)) | refine mQ ?_ | ((with_reducible refine qat 16 ?_); (refine qsslf rfl rfl (i := i) rfl hi ?_; rw [HX.out])) | go_big_quiet_step (fail) | quiet_step (fail)))
 go_wp2_with (first | (go_at_call 97; with_reducible refine cQ (HP.out _ (HX0.out.below HM.out.below)) ?_))
 refine ⟨⟨⟨_, HM.out.sub (by repeat (first | exact List.nil_sublist _ | with_reducible refine List.Sublist.cons_cons _ ?_ | refine List.Sublist.cons _ ?_))⟩, rfl⟩, ?_⟩
 (try dsimp only)
 (repeat (first | ((with_reducible refine wpQuiet_nil ?_); (try dsimp only)) | refine mQ ?_ | go_big_quiet_step (fail) | quiet_step (fail)))
 clear HS0 hNE
 go_wp2_with fail
 refine wp_region_mem (by kernel_rfl) (by kernel_rfl) HM.out ?_; intro hNE; (repeat (any_goals (first | refine mQ ?_ | ((with_reducible refine qat 35 ?_); (refine qssls rfl rfl (i := i) rfl rfl (j := i + n) (by simp) hl3 hl2 ?_; rw [HY.out])) | go_big_quiet_step (fail) | quiet_step (fail)))); clear hNE; refine wpQuiet_nil ?_; intro W1 HM1; replace HM := Lib.hid HM1; clear HM1
 go_wp2_with (first | refine mP ?_ | (refine mS ?_; clear HM; intro W1 HM))
 go_ret2
 exact ⟨rfl, by rw [HTz.out]; exact HM.out⟩

set_option maxHeartbeats 4000000 in
theorem muntil_no (w0 W : World) (R : Nat) (T : List Res) (S t : ByteArray) (i : Nat) (ov : Value) (lg dp : Bool) (HM0 : Mem w0 W (.box R 85 [.string S, .int .i64 i, ov, .bool lg, .bool dp] :: T)) (hX : MaxAt w0) (hi : i ≤ S.size) (hs : S.size ≤ 1048576) (hc : fndL t.data.toList (S.data.toList.drop i) = none) :
  Calls Tryz.prog 65 #[.pointer (some ⟨R, 0, none⟩), .string t] W fun e w' => e = .returned (.tuple #[.string ⟨#[]⟩, .bool false]) ∧ Mem w0 w' (.box R 85 [.string S, .int .i64 i, ov, .bool lg, .bool dp] :: T) := by
 have HM := Lib.hid HM0
 have HX0 := Lib.hid hX
 clear HM0 hX
 obtain ⟨X, hX⟩ : ∃ X, S.extract i S.size = X := ⟨_, rfl⟩
 have hXs : X.size ≤ 1048576 := by rw [← hX, ByteArray.size_extract]; omega
 have hXl : X.data.toList = S.data.toList.drop i := by rw [← hX, Lib.extract_data]; exact List.take_of_length_le (by simp)
 have hI : Lib.index X.data.toList t.data.toList = -1 := by rw [hXl]; exact fndL_none hc
 have HP := Lib.hid (fun W hm => (by have := sidx X t W hXs hm; rw [hI] at this; exact this : Calls Tryz.prog 97 #[.string X, .string t] W fun e w' => e = .returned (.int .i64 (-1)) ∧ W = w'))
 have HX := Lib.hid hX
 clear hX hXl hXs hc hI
 go_enter Tryz.func65, Tryz.ntmps65
 go_wp2_with fail
 refine wp_region_steps2 [(true, 0), (true, 1), (true, 2), (true, 3), (true, 4), (true, 5), (true, 6), (true, 7), (true, 8), (true, 9), (false, 10), (true, 11)] (by kernel_rfl) (by kernel_rfl) rfl (by kernel_rfl) (fun _ _ _ _ _ h => h) HM.out _ (.cons_cons _ (List.nil_sublist _)) ?_
 intro hNE W1 HM1; replace HM := Lib.hid HM1; clear HM1
 have HS0 := Lib.hid (HM.out.sub (.cons_cons _ (List.nil_sublist _)))
 simp only [wpSteps, List.getElem?_cons_succ, List.getElem?_cons_zero]
 (repeat (first | ((with_reducible refine wpQuiet_nil ?_); (try dsimp only)) | refine mQ ?_ | ((with_reducible refine qat 16 ?_); (refine qsslf rfl rfl (i := i) rfl hi ?_; rw [HX.out])) | go_big_quiet_step (fail) | quiet_step (fail)))
 go_wp2_with (first | (go_at_call 97; with_reducible refine cQ (HP.out _ (HX0.out.below HM.out.below)) ?_))
 refine ⟨⟨⟨_, HM.out.sub (by repeat (first | exact List.nil_sublist _ | with_reducible refine List.Sublist.cons_cons _ ?_ | refine List.Sublist.cons _ ?_))⟩, rfl⟩, ?_⟩
 (try dsimp only)
 (repeat (first | ((with_reducible refine wpQuiet_nil ?_); (try dsimp only)) | refine mQ ?_ | go_big_quiet_step (fail) | quiet_step (fail)))
 clear HS0 hNE
 go_wp2_with fail
 go_ret2
 exact ⟨rfl, HM.out⟩
end Go.Proofs.YtanncakdlflopaaGreatDoor

namespace Go.Proofs.YtanncakdlflopaaGreatDoor
open Go.RowKit
set_option linter.unusedVariables false
set_option linter.unusedSimpArgs false
set_option maxRecDepth 100000

section
variable {w0 W : World} {R : Nat} {T : List Res} {S : ByteArray} {ov : Value} {lg dp : Bool}
theorem gword {i k : Nat} {N : ByteArray} {nb : Bool} (a : Int) (ha : a = (i : Int)) (hi : i ≤ S.size) (hs : S.size ≤ 1048576) (h1 : insE S i = k) (h2 : S.extract i k = N) (h3 : nameM N = nb) (h : Mem w0 W (.box R 85 [.string S, .int .i64 a, ov, .bool lg, .bool dp] :: T)) :
  Calls Tryz.prog 68 #[.pointer (some ⟨R, 0, none⟩)] W fun e w' => e = .returned (.tuple #[.string N, .bool nb]) ∧ Mem w0 w' (.box R 85 [.string S, .int .i64 k, ov, .bool lg, .bool dp] :: T) := by
 subst ha
 have := mword_any w0 W R T S i ov lg dp h hi (by omega)
 rw [show spE insU S.data.toList i = k from h1, h2, h3] at this
 exact this
theorem gblanks {i k : Nat} (a : Int) (ha : a = (i : Int)) (hi : i ≤ S.size) (hs : S.size ≤ 1048576) (h1 : blkE S i = k) (h : Mem w0 W (.box R 85 [.string S, .int .i64 a, ov, .bool lg, .bool dp] :: T)) :
  Calls Tryz.prog 64 #[.pointer (some ⟨R, 0, none⟩)] W fun e w' => e = .returned (.bool (decide (k > i))) ∧ Mem w0 w' (.box R 85 [.string S, .int .i64 k, ov, .bool lg, .bool dp] :: T) := by
 subst ha
 have := mblanks_any w0 W R T S i ov lg dp h hi (by omega)
 rw [show spE blkB S.data.toList i = k from h1] at this
 exact this
theorem gtake {i : Nat} (t : ByteArray) (a : Int) (ha : a = (i : Int)) (hi : i ≤ S.size) (hs : S.size ≤ 1048576) (h1 : atP t.data.toList S i = true) (h : Mem w0 W (.box R 85 [.string S, .int .i64 a, ov, .bool lg, .bool dp] :: T)) :
  Calls Tryz.prog 63 #[.pointer (some ⟨R, 0, none⟩), .string t] W fun e w' => e = .returned (.bool true) ∧ Mem w0 w' (.box R 85 [.string S, .int .i64 (i + t.size : Nat), ov, .bool lg, .bool dp] :: T) := by
 subst ha
 exact mtake_yes w0 W R T S t i ov lg dp h hi (by omega) h1
theorem gnot {i : Nat} (t : ByteArray) (a : Int) (ha : a = (i : Int)) (hi : i ≤ S.size) (hs : S.size ≤ 1048576) (h1 : atP t.data.toList S i = false) (h : Mem w0 W (.box R 85 [.string S, .int .i64 a, ov, .bool lg, .bool dp] :: T)) :
  Calls Tryz.prog 63 #[.pointer (some ⟨R, 0, none⟩), .string t] W fun e w' => e = .returned (.bool false) ∧ Mem w0 w' (.box R 85 [.string S, .int .i64 i, ov, .bool lg, .bool dp] :: T) := by
 subst ha
 exact mtake_no w0 W R T S t i ov lg dp h hi (by omega) h1
end
/-- What attr leaves. -/
def APost (r : Option (AtD × Nat)) (w0 : World) (R : Nat) (T : List Res) (S : ByteArray) (ov : Value) (lg dp : Bool) (e : Ending) (w' : World) : Prop :=
 match r with
 | none => ∃ (a v : ByteArray) (j : Nat), j ≤ S.size ∧ e = .returned (.tuple #[.agg #[.string a, .string v], .bool false]) ∧ Mem w0 w' (.box R 85 [.string S, .int .i64 j, ov, .bool lg, .bool dp] :: T)
 | some (x, j) => e = .returned (.tuple #[.agg #[.string x.1, .string x.2], .bool true]) ∧ Mem w0 w' (.box R 85 [.string S, .int .i64 j, ov, .bool lg, .bool dp] :: T)

set_option maxHeartbeats 8000000 in
theorem mattr_any (w0 W : World) (R : Nat) (T : List Res) (S : ByteArray) (i : Nat) (ov : Value) (lg dp : Bool) (r : Option (AtD × Nat)) (hr : attrF S i = r) (hT : U8 w0) (hE : ErrsAt w0) (hX : MaxAt w0) (hi : i ≤ S.size) (hs : S.size ≤ 1048576) (h : Mem w0 W (.box R 85 [.string S, .int .i64 i, ov, .bool lg, .bool dp] :: T)) :
  Calls Tryz.prog 70 #[.pointer (some ⟨R, 0, none⟩)] W (APost r w0 R T S ov lg dp) := by
 have HM := Lib.hid h
 have HT := Lib.hid hT
 have HE := Lib.hid hE
 have HX := Lib.hid hX
 clear h hT hE hX
 unfold attrF at hr
 obtain ⟨k1, hk1⟩ : ∃ k, insE S i = k := ⟨_, rfl⟩
 have l1 := (insE_le hi).2
 rw [hk1] at hr l1
 obtain ⟨k2, hk2⟩ : ∃ k, blkE S k1 = k := ⟨_, rfl⟩
 have l2 := (blkE_le l1).2
 rw [hk2] at hr l2
 obtain ⟨k3, hk3⟩ : ∃ k, blkE S (k2 + 1) = k := ⟨_, rfl⟩
 rw [hk3] at hr
 obtain ⟨N, hN⟩ : ∃ N, S.extract i k1 = N := ⟨_, rfl⟩
 rw [hN] at hr
 have HK1 := Lib.hid hk1
 have HK2 := Lib.hid hk2
 have HK3 := Lib.hid hk3
 have HN := Lib.hid hN
 have HR := Lib.hid hr
 clear hk1 hk2 hk3 hN hr
 go_enter Tryz.func70, Tryz.ntmps70
 go_wp2_with (first | (refine mS ?_; clear HM; intro W1 HM) | (refine hal (dst := some 2) HM rfl ?_; clear HM; intro g2 W1 HM))
 have HM1 := Lib.hid (HM.out.perm (List.Perm.swap _ _ _))
 clear HM
 have HM := HM1
 clear HM1
 cases hnm : nameM N with
 | false =>
  have hr := HR.out
  clear HR
  rw [if_pos hnm] at hr
  have HR := Lib.hid hr
  clear hr
  refine (gword _ rfl hi hs HK1.out HN.out hnm HM.out).mono ?_
  rintro e W2 ⟨rfl, hM⟩
  clear HM
  (try clear W1)
  have HM := Lib.hid hM
  clear hM
  skip
  go_wp2_with (first | (refine mS ?_; clear HM; intro W1 HM) | (refine hal HM rfl ?_; clear HM; intro g1 W1 HM))
  (try simp only [Exit.inBlock, Exit.then])
  refine bodyPost_ret (res_box_tmp rfl HM.out 1 rfl rfl rfl rfl) rfl ?_
  rw [← HR.out]
  exact ⟨_, _, _, by (first | omega | (have : (⟨#[34]⟩ : ByteArray).size = 1 := rfl; have : (⟨#[39]⟩ : ByteArray).size = 1 := rfl; omega)), rfl, HM.out.sub (.cons_cons _ (.cons _ (.refl _)))⟩
 | true =>
  have hr := HR.out
  clear HR
  rw [if_neg (by rw [hnm]; decide)] at hr
  have HR := Lib.hid hr
  clear hr
  refine (gword _ rfl hi hs HK1.out HN.out hnm HM.out).mono ?_
  rintro e W2 ⟨rfl, hM⟩
  clear HM
  (try clear W1)
  have HM := Lib.hid hM
  clear hM
  go_wp2_with fail
  refine (gblanks _ rfl l1 hs HK2.out HM.out).mono ?_
  rintro e W2 ⟨rfl, hM⟩
  clear HM
  (try clear W1)
  have HM := Lib.hid hM
  clear hM
  go_wp2_with fail
  clear hnm
  cases h61 : atP [61] S k2 with
  | false =>
   have hr := HR.out
   clear HR
   rw [if_pos h61] at hr
   have HR := Lib.hid hr
   clear hr
   refine (gnot ⟨#[61]⟩ _ rfl l2 hs h61 HM.out).mono ?_
   rintro e W2 ⟨rfl, hM⟩
   clear HM
   (try clear W1)
   have HM := Lib.hid hM
   clear hM
   skip
   go_wp2_with (first | (refine mS ?_; clear HM; intro W1 HM) | (refine hal HM rfl ?_; clear HM; intro g1 W1 HM))
   (try simp only [Exit.inBlock, Exit.then])
   refine bodyPost_ret (res_box_tmp rfl HM.out 1 rfl rfl rfl rfl) rfl ?_
   rw [← HR.out]
   exact ⟨_, _, _, by (first | omega | (have : (⟨#[34]⟩ : ByteArray).size = 1 := rfl; have : (⟨#[39]⟩ : ByteArray).size = 1 := rfl; omega)), rfl, HM.out.sub (.cons_cons _ (.cons _ (.refl _)))⟩
  | true =>
   have hr := HR.out
   clear HR
   rw [if_neg (by rw [h61]; decide)] at hr
   have HR := Lib.hid hr
   clear hr
   have l2b : k2 + 1 ≤ S.size := atP_le l2 h61
   have l3 := (blkE_le l2b).2
   rw [HK3.out] at l3
   refine (gtake ⟨#[61]⟩ _ rfl l2 hs h61 HM.out).mono ?_
   rintro e W2 ⟨rfl, hM⟩
   clear HM
   (try clear W1)
   have HM := Lib.hid hM
   clear hM
   go_wp2_with fail
   clear h61
   refine (gblanks _ (by simp; rfl) l2b hs HK3.out HM.out).mono ?_
   rintro e W2 ⟨rfl, hM⟩
   clear HM
   (try clear W1)
   have HM := Lib.hid hM
   clear hM
   go_wp2_with fail
   cases h34 : atP [34] S k3 with
   | true =>
    have hr := HR.out
    clear HR
    rw [show quoF S k3 = some 34 by unfold quoF; rw [if_pos h34]] at hr
    have HR := Lib.hid hr
    clear hr
    refine (gtake ⟨#[34]⟩ _ rfl l3 hs h34 HM.out).mono ?_
    rintro e W2 ⟨rfl, hM⟩
    clear HM
    (try clear W1)
    have HM := Lib.hid hM
    clear hM
    go_wp2_with fail
    have l3b : k3 + 1 ≤ S.size := atP_le l3 h34
    clear h34
    have hr := HR.out
    clear HR
    (try dsimp only at hr)
    have HR := Lib.hid hr
    clear hr
    cases hu : fndL [34] (S.data.toList.drop (k3 + 1)) with
    | none =>
     have hr := HR.out
     clear HR
     rw [hu] at hr
     have HR := Lib.hid hr
     clear hr
     refine (muntil_no w0 _ R _ S ⟨#[34]⟩ (k3 + 1) ov lg dp HM.out HX.out l3b hs hu).mono ?_
     rintro e W2 ⟨rfl, hM⟩
     clear HM
     (try clear W1)
     have HM := Lib.hid hM
     clear hM
     go_wp2_with (first | (refine mS ?_; clear HM; intro W1 HM) | (refine hal HM rfl ?_; clear HM; intro g1 W1 HM))
     (try simp only [Exit.inBlock, Exit.then])
     refine bodyPost_ret (res_box_tmp rfl HM.out 1 rfl rfl rfl rfl) rfl ?_
     rw [← HR.out]
     exact ⟨_, _, _, by (first | omega | (have : (⟨#[34]⟩ : ByteArray).size = 1 := rfl; have : (⟨#[39]⟩ : ByteArray).size = 1 := rfl; omega)), rfl, HM.out.sub (.cons_cons _ (.cons _ (.refl _)))⟩
    | some n =>
     have hr := HR.out
     clear HR
     rw [hu] at hr
     (try dsimp only at hr)
     have HR := Lib.hid hr
     clear hr
     have l4 := fndL_le (by simp) hu
     rw [List.length_drop, size_list] at l4
     simp only [List.length_cons, List.length_nil] at l4
     refine (muntil_yes w0 _ R _ S ⟨#[34]⟩ (k3 + 1) n ov lg dp HM.out HX.out l3b hs (by simp) hu).mono ?_
     rintro e W2 ⟨rfl, hM⟩
     clear HM hu
     (try clear W1)
     have HM := Lib.hid hM
     clear hM
     obtain ⟨X, hXe⟩ : ∃ X, S.extract (k3 + 1) (k3 + 1 + n) = X := ⟨_, rfl⟩
     have hXs : X.size ≤ 1073741824 := by rw [← hXe, ByteArray.size_extract]; omega
     have hr := HR.out
     clear HR
     rw [hXe] at hr
     have HR := Lib.hid hr
     clear hr
     rw [hXe]
     clear hXe
     go_wp2_with fail
     refine (unescape_any X true _ (HT.out.below HM.out.below) (HE.out.below HM.out.below) hXs).mono ?_
     rintro e W2 ⟨rfl, hb⟩
     have HM1 := Lib.hid (HM.out.next hb)
     clear HM hb
     (try clear W1)
     have HM := HM1
     clear HM1
     cases ho : unescO true X with
     | none =>
      have hr := HR.out
      clear HR
      rw [ho] at hr
      have HR := Lib.hid hr
      clear hr
      obtain ⟨c, hc0, hc⟩ := unescO_none ho
      rw [hc]
      have q0 : (c == 0) = false := by simpa using hc0
      clear hc ho hc0
      go_wp2_with (first | (refine mS ?_; clear HM; intro W1 HM) | (refine hal HM rfl ?_; clear HM; intro g1 W1 HM))
      (try simp only [Exit.inBlock, Exit.then])
      refine bodyPost_ret (res_box_tmp rfl HM.out 1 rfl rfl rfl rfl) rfl ?_
      rw [← HR.out]
      exact ⟨_, _, _, by (first | omega | (have : (⟨#[34]⟩ : ByteArray).size = 1 := rfl; have : (⟨#[39]⟩ : ByteArray).size = 1 := rfl; omega)), rfl, HM.out.sub (.cons_cons _ (.cons _ (.refl _)))⟩
     | some v =>
      have hr := HR.out
      clear HR
      rw [ho] at hr
      have HR := Lib.hid hr
      clear hr
      rw [unescO_some ho]
      clear ho
      go_wp2_with (first | (refine mS ?_; clear HM; intro W1 HM) | (refine hal HM rfl ?_; clear HM; intro g1 W1 HM))
      (try simp only [Exit.inBlock, Exit.then])
      refine bodyPost_ret (res_box_tmp rfl HM.out 1 rfl rfl rfl rfl) rfl ?_
      rw [← HR.out]
      exact ⟨rfl, HM.out.sub (.cons_cons _ (.cons _ (.refl _)))⟩
   | false =>
    refine (gnot ⟨#[34]⟩ _ rfl l3 hs h34 HM.out).mono ?_
    rintro e W2 ⟨rfl, hM⟩
    clear HM
    (try clear W1)
    have HM := Lib.hid hM
    clear hM
    go_wp2_with fail
    cases h39 : atP [39] S k3 with
    | true =>
     have hr := HR.out
     clear HR
     rw [show quoF S k3 = some 39 by unfold quoF; rw [if_neg (by rw [h34]; decide), if_pos h39]] at hr
     have HR := Lib.hid hr
     clear hr
     refine (gtake ⟨#[39]⟩ _ rfl l3 hs h39 HM.out).mono ?_
     rintro e W2 ⟨rfl, hM⟩
     clear HM
     (try clear W1)
     have HM := Lib.hid hM
     clear hM
     go_wp2_with fail
     have l3b : k3 + 1 ≤ S.size := atP_le l3 h39
     clear h34 h39
     have hr := HR.out
     clear HR
     (try dsimp only at hr)
     have HR := Lib.hid hr
     clear hr
     cases hu : fndL [39] (S.data.toList.drop (k3 + 1)) with
     | none =>
      have hr := HR.out
      clear HR
      rw [hu] at hr
      have HR := Lib.hid hr
      clear hr
      refine (muntil_no w0 _ R _ S ⟨#[39]⟩ (k3 + 1) ov lg dp HM.out HX.out l3b hs hu).mono ?_
      rintro e W2 ⟨rfl, hM⟩
      clear HM
      (try clear W1)
      have HM := Lib.hid hM
      clear hM
      go_wp2_with (first | (refine mS ?_; clear HM; intro W1 HM) | (refine hal HM rfl ?_; clear HM; intro g1 W1 HM))
      (try simp only [Exit.inBlock, Exit.then])
      refine bodyPost_ret (res_box_tmp rfl HM.out 1 rfl rfl rfl rfl) rfl ?_
      rw [← HR.out]
      exact ⟨_, _, _, by (first | omega | (have : (⟨#[34]⟩ : ByteArray).size = 1 := rfl; have : (⟨#[39]⟩ : ByteArray).size = 1 := rfl; omega)), rfl, HM.out.sub (.cons_cons _ (.cons _ (.refl _)))⟩
     | some n =>
      have hr := HR.out
      clear HR
      rw [hu] at hr
      (try dsimp only at hr)
      have HR := Lib.hid hr
      clear hr
      have l4 := fndL_le (by simp) hu
      rw [List.length_drop, size_list] at l4
      simp only [List.length_cons, List.length_nil] at l4
      refine (muntil_yes w0 _ R _ S ⟨#[39]⟩ (k3 + 1) n ov lg dp HM.out HX.out l3b hs (by simp) hu).mono ?_
      rintro e W2 ⟨rfl, hM⟩
      clear HM hu
      (try clear W1)
      have HM := Lib.hid hM
      clear hM
      obtain ⟨X, hXe⟩ : ∃ X, S.extract (k3 + 1) (k3 + 1 + n) = X := ⟨_, rfl⟩
      have hXs : X.size ≤ 1073741824 := by rw [← hXe, ByteArray.size_extract]; omega
      have hr := HR.out
      clear HR
      rw [hXe] at hr
      have HR := Lib.hid hr
      clear hr
      rw [hXe]
      clear hXe
      go_wp2_with fail
      refine (unescape_any X true _ (HT.out.below HM.out.below) (HE.out.below HM.out.below) hXs).mono ?_
      rintro e W2 ⟨rfl, hb⟩
      have HM1 := Lib.hid (HM.out.next hb)
      clear HM hb
      (try clear W1)
      have HM := HM1
      clear HM1
      cases ho : unescO true X with
      | none =>
       have hr := HR.out
       clear HR
       rw [ho] at hr
       have HR := Lib.hid hr
       clear hr
       obtain ⟨c, hc0, hc⟩ := unescO_none ho
       rw [hc]
       have q0 : (c == 0) = false := by simpa using hc0
       clear hc ho hc0
       go_wp2_with (first | (refine mS ?_; clear HM; intro W1 HM) | (refine hal HM rfl ?_; clear HM; intro g1 W1 HM))
       (try simp only [Exit.inBlock, Exit.then])
       refine bodyPost_ret (res_box_tmp rfl HM.out 1 rfl rfl rfl rfl) rfl ?_
       rw [← HR.out]
       exact ⟨_, _, _, by (first | omega | (have : (⟨#[34]⟩ : ByteArray).size = 1 := rfl; have : (⟨#[39]⟩ : ByteArray).size = 1 := rfl; omega)), rfl, HM.out.sub (.cons_cons _ (.cons _ (.refl _)))⟩
      | some v =>
       have hr := HR.out
       clear HR
       rw [ho] at hr
       have HR := Lib.hid hr
       clear hr
       rw [unescO_some ho]
       clear ho
       go_wp2_with (first | (refine mS ?_; clear HM; intro W1 HM) | (refine hal HM rfl ?_; clear HM; intro g1 W1 HM))
       (try simp only [Exit.inBlock, Exit.then])
       refine bodyPost_ret (res_box_tmp rfl HM.out 1 rfl rfl rfl rfl) rfl ?_
       rw [← HR.out]
       exact ⟨rfl, HM.out.sub (.cons_cons _ (.cons _ (.refl _)))⟩
    | false =>
     have hr := HR.out
     clear HR
     rw [show quoF S k3 = none by unfold quoF; rw [if_neg (by rw [h34]; decide), if_neg (by rw [h39]; decide)]] at hr
     have HR := Lib.hid hr
     clear hr
     refine (gnot ⟨#[39]⟩ _ rfl l3 hs h39 HM.out).mono ?_
     rintro e W2 ⟨rfl, hM⟩
     clear HM
     (try clear W1)
     have HM := Lib.hid hM
     clear hM
     skip
     go_wp2_with (first | (refine mS ?_; clear HM; intro W1 HM) | (refine hal HM rfl ?_; clear HM; intro g1 W1 HM))
     (try simp only [Exit.inBlock, Exit.then])
     refine bodyPost_ret (res_box_tmp rfl HM.out 1 rfl rfl rfl rfl) rfl ?_
     rw [← HR.out]
     exact ⟨_, _, _, by (first | omega | (have : (⟨#[34]⟩ : ByteArray).size = 1 := rfl; have : (⟨#[39]⟩ : ByteArray).size = 1 := rfl; omega)), rfl, HM.out.sub (.cons_cons _ (.cons _ (.refl _)))⟩
end Go.Proofs.YtanncakdlflopaaGreatDoor

namespace Go.Proofs.YtanncakdlflopaaGreatDoor
open Go.RowKit
set_option linter.unusedVariables false
set_option linter.unusedSimpArgs false
set_option maxRecDepth 100000

theorem ats_snoc (l : List AtD) (x : AtD) : (l.flatMap AtD.cs).take (l.length * 2) ++ [.string x.1, .string x.2] = (l ++ [x]).flatMap AtD.cs := by
 rw [List.take_of_length_le (by rw [flat_len AtD.cs 2 AtD.cs_len]; exact Nat.le_refl _), List.flatMap_append]
 simp [AtD.cs]
theorem any_next {l : List AtD} {k : Nat} {b : AtD} (f : AtD → Bool) (h : l[k]? = some b) : (l.take (k + 1)).any f = ((l.take k).any f || f b) := by
 rw [List.take_add_one, h, List.any_append]
 simp
set_option maxHeartbeats 8000000 in
theorem madd_any (w0 W : World) (R O : Nat) (T : List Res) (S nm : ByteArray) (i : Int) (ov : Value) (lg dp : Bool) (p : Option Addr) (c : Nat) (l : List AtD) (x : AtD) (hl : l.length ≤ 1048576) (h : Mem w0 W (.box R 85 [.string S, .int .i64 i, ov, .bool lg, .bool dp] :: .box O 57 [.int .i64 1, .string nm, .slice p l.length c, .string ⟨#[]⟩] :: .row p c 44 2 l.length (l.flatMap AtD.cs) :: T)) :
  Calls Tryz.prog 71 #[.pointer (some ⟨R, 0, none⟩), .pointer (some ⟨O, 0, none⟩), .agg #[.string x.1, .string x.2]] W fun e w' => e = .returned (.tuple #[]) ∧ ∃ p c, Mem w0 w' (.box R 85 [.string S, .int .i64 i, ov, .bool (lg || decide (16 < l.length + 1)), .bool (dp || l.any fun b => x.1.toList == b.1.toList)] :: .box O 57 [.int .i64 1, .string nm, .slice p (l.length + 1) c, .string ⟨#[]⟩] :: .row p c 44 2 (l.length + 1) ((l ++ [x]).flatMap AtD.cs) :: T) := by
 have HM := Lib.hid h
 have HS := Lib.hid (ats_snoc l x)
 obtain ⟨an, av⟩ := x
 have HL := Lib.hid hl
 obtain ⟨dr, hdr⟩ : ∃ r, (dp || l.any fun b => an.toList == b.1.toList) = r := ⟨_, rfl⟩
 dsimp only at HS ⊢
 rw [hdr]
 have HDr := Lib.hid hdr
 clear h hdr
 go_enter Tryz.func71, Tryz.ntmps71
 go_wp2_with (first | ((with_reducible refine skip_op ?_ ?_); exact rfl) | refine mP ?_ | (refine mS ?_; clear HM; intro W1 HM) | (refine mL ?_; clear HM; intro g1 W1 HM) | ((with_reducible refine iat 5 ?_); refine mB ?_; clear HM; intro g5 W1 HM) | (refine hal HM rfl ?_; clear HM; intro g1 W1 HM))
 go_loopw [7, 13, 14, 15, 16, 17, 18, 19, 20, 21, 22, 23, 24, 25, 26, 27, 28, 29, 30, 31] (fun _ iv _ _ _ _ _ _ _ _ _ _ _ _ _ _ _ _ _ _ wr => ∃ k : Nat, iv = .int .i64 k ∧ k ≤ l.length ∧ Hid (Mem w0 wr (.box g5 44 [.string an, .string av] :: .box R 85 [.string S, .int .i64 i, ov, .bool lg, .bool (dp || (l.take k).any fun b => an.toList == b.1.toList)] :: .box O 57 [.int .i64 1, .string nm, .slice p l.length c, .string ⟨#[]⟩] :: .row p c 44 2 l.length (l.flatMap AtD.cs) :: T))) (fun _ iv _ _ _ _ _ _ _ _ _ _ _ _ _ _ _ _ _ _ _ => l.length - (intOf iv).toNat)
 case atStart => exact ⟨0, rfl, by omega, by simpa using HM⟩
 case round =>
  clear HM
  obtain ⟨k, rfl, hk, HM⟩ := hrel
  by_cases hlt : k < l.length
  ·obtain ⟨⟨b1, b2⟩, hx⟩ : ∃ b, l[k]? = some b := ⟨_, List.getElem?_eq_getElem hlt⟩
   obtain ⟨g, rfl⟩ := row_some (HM.out.get (k := 3) rfl) (by omega)
   have d1 : decide ((k : Int) < l.length) = true := decide_eq_true (by omega)
   have hlt3 := Lib.hid (show k + 1 ≤ l.length from hlt)
   have hnx : (dp || (l.take (k + 1)).any fun b => an.toList == b.1.toList) = ((dp || (l.take k).any fun b => an.toList == b.1.toList) || (an.toList == b1.toList)) := by rw [any_next _ hx, Bool.or_assoc]
   have HNx := Lib.hid hnx
   have HXx := Lib.hid hx
   obtain ⟨d, hd⟩ : ∃ d, (dp || (l.take k).any fun b => an.toList == b.1.toList) = d := ⟨_, rfl⟩
   rw [hd] at HM HNx
   clear hx hnx hd
   cases d with
   | true =>
    go_wp2_with (first | ((with_reducible refine iat 15 ?_); (refine ixa rfl rfl rfl hlt ?_)) | ((with_reducible refine iat 16 ?_); (refine ldxW (vs := [.string b1, .string b2]) ((row_cells (HM.out.get (k := 3) rfl) 0).2.2.elem AtD.cs 2 AtD.cs_len HXx.out) rfl rfl ?_)) | ((with_reducible refine skip_op ?_ ?_); exact rfl) | refine mP ?_ | (refine mS ?_; clear HM; intro W1 HM) | (refine mL ?_; clear HM; intro g1 W1 HM) | (refine hal (dst := some 7) HM rfl ?_; clear HM; intro g7 W1 HM) | (refine mB ?_; clear HM; intro g1 W1 HM))
    go_roundw
    case rel => exact ⟨k + 1, by go_num, hlt3.out, by rw [HNx.out]; exact Lib.hid (HM.out.sub (.cons _ (.refl _)))⟩
    case measure => have := hlt3.out; simp [intOf]; omega
   | false =>
    go_wp2_with (first | ((with_reducible refine iat 15 ?_); (refine ixa rfl rfl rfl hlt ?_)) | ((with_reducible refine iat 16 ?_); (refine ldxW (vs := [.string b1, .string b2]) ((row_cells (HM.out.get (k := 3) rfl) 0).2.2.elem AtD.cs 2 AtD.cs_len HXx.out) rfl rfl ?_)) | ((with_reducible refine skip_op ?_ ?_); exact rfl) | refine mP ?_ | (refine mS ?_; clear HM; intro W1 HM) | (refine mL ?_; clear HM; intro g1 W1 HM) | (refine hal (dst := some 7) HM rfl ?_; clear HM; intro g7 W1 HM) | (refine mB ?_; clear HM; intro g1 W1 HM))
    go_roundw
    case rel => exact ⟨k + 1, by go_num, hlt3.out, by rw [HNx.out]; exact Lib.hid (HM.out.sub (.cons _ (.refl _)))⟩
    case measure => have := hlt3.out; simp [intOf]; omega
  ·obtain rfl : k = l.length := by omega
   have d1 : decide ((l.length : Int) < l.length) = false := by simp
   rw [List.take_length, HDr.out] at HM
   go_wp2_with fail
   have hl' := HL.out
   refine wp_region_mem3 10 [(0, 0), (0, 1), (0, 2), (0, 3), (0, 4), (0, 5), (2, 6), (2, 7), (1, 8), (1, 9), (3, 10)] (by kernel_rfl) (by kernel_rfl) rfl (by kernel_rfl) (fun _ _ _ _ _ h => h) HM.out _ (.cons_cons _ (.cons_cons _ (.cons_cons _ (.cons _ (List.nil_sublist _))))) ?_
   intro hNE W1 HM1; replace HM := Lib.hid HM1; clear HM1
   have HS0 := Lib.hid (HM.out.sub (.cons_cons _ (.cons_cons _ (.cons_cons _ (.cons _ (List.nil_sublist _))))))
   simp only [wpSteps3, List.getElem?_cons_succ, List.getElem?_cons_zero]
   (repeat (first | ((with_reducible refine wpQuiet_nil ?_); (try dsimp only)) | refine mQ ?_ | go_big_quiet_step (fail) | quiet_step (fail)))
   go_wp2_with (first | (refine mL ?_; clear HM; intro g1 W1 HM))
   refine ⟨⟨⟨_, HM.out.sub (by repeat (first | exact List.nil_sublist _ | with_reducible refine List.Sublist.cons_cons _ ?_ | refine List.Sublist.cons _ ?_))⟩, rfl⟩, ?_⟩
   (try dsimp only)
   go_wp2_with (first | (refine apb rfl HM.out 4 0 rfl rfl rfl rfl rfl rfl (by omega) (by omega) (by omega) ?_; intro p1 cap1 W1 HM1; replace HM := Lib.hid HM1; clear HM1; simp only [List.set] at HM))
   refine ⟨⟨⟨_, HM.out.sub (by repeat (first | exact List.nil_sublist _ | with_reducible refine List.Sublist.cons_cons _ ?_ | refine List.Sublist.cons _ ?_))⟩, rfl⟩, ?_⟩
   (try dsimp only)
   (repeat (first | ((with_reducible refine wpQuiet_nil ?_); (try dsimp only)) | refine mQ ?_ | go_big_quiet_step (fail) | quiet_step (fail)))
   go_wp2_with (first | (refine mS ?_; clear HM; intro W1 HM))
   refine ⟨trivial, ?_⟩
   (try dsimp only)
   clear HS0 hNE
   have HM1 := HM.out
   rw [HS.out] at HM1
   clear HM
   have HM := Lib.hid HM1
   clear HM1
   cases lg with
   | true =>
    go_wp2_with (first | ((with_reducible refine skip_op ?_ ?_); exact rfl) | refine mP ?_ | (refine mS ?_; clear HM; intro W1 HM) | (refine mL ?_; clear HM; intro g1 W1 HM) | (refine hal HM rfl ?_; clear HM; intro g1 W1 HM) | (refine mB ?_; clear HM; intro g1 W1 HM))
    go_end0
    exact ⟨rfl, p1, cap1, (HM.out.sub (.cons _ (.cons _ (.refl _))))⟩
   | false =>
    by_cases h16 : 16 < l.length + 1
    ·have q1 : decide ((16 : Int) < (l.length : Int) + 1) = true := decide_eq_true (by omega)
     have Q2 := Lib.hid (decide_eq_true h16)
     clear h16
     go_wp2_with (first | ((with_reducible refine skip_op ?_ ?_); exact rfl) | refine mP ?_ | (refine mS ?_; clear HM; intro W1 HM) | (refine mL ?_; clear HM; intro g1 W1 HM) | (refine hal HM rfl ?_; clear HM; intro g1 W1 HM) | (refine mB ?_; clear HM; intro g1 W1 HM))
     go_end0
     exact ⟨rfl, p1, cap1, by rw [Q2.out]; exact HM.out.sub (.cons _ (.cons _ (.refl _)))⟩
    ·have q1 : decide ((16 : Int) < (l.length : Int) + 1) = false := decide_eq_false (by omega)
     have Q2 := Lib.hid (decide_eq_false h16)
     clear h16
     go_wp2_with (first | ((with_reducible refine skip_op ?_ ?_); exact rfl) | refine mP ?_ | (refine mS ?_; clear HM; intro W1 HM) | (refine mL ?_; clear HM; intro g1 W1 HM) | (refine hal HM rfl ?_; clear HM; intro g1 W1 HM) | (refine mB ?_; clear HM; intro g1 W1 HM))
     go_end0
     exact ⟨rfl, p1, cap1, by rw [Q2.out]; exact HM.out.sub (.cons _ (.cons _ (.refl _)))⟩
end Go.Proofs.YtanncakdlflopaaGreatDoor

namespace Go.Proofs.YtanncakdlflopaaGreatDoor
open Go.RowKit
set_option linter.unusedVariables false
set_option linter.unusedSimpArgs false
set_option maxRecDepth 100000

theorem cut_lt : ∀ {l m t : List UInt8}, cutL 60 l = some (m, t) → l.takeWhile notLt = m
 | [], m, t, h => by simp [cutL] at h
 | x :: r, m, t, h => by
  unfold cutL at h
  by_cases hx : x = 60
  ·rw [if_pos hx] at h
   simp only [Option.some.injEq, Prod.mk.injEq] at h
   rw [List.takeWhile_cons, if_neg (by simp [notLt, hx]), h.1]
  ·rw [if_neg hx] at h
   cases hc : cutL 60 r with
   | none => rw [hc] at h; cases h
   | some q =>
    obtain ⟨m', t'⟩ := q
    rw [hc] at h
    simp only [Option.map_some, Option.some.injEq, Prod.mk.injEq] at h
    rw [List.takeWhile_cons, if_pos (by simpa [notLt] using hx), cut_lt hc, h.1]
theorem tw_all {f : UInt8 → Bool} : ∀ {l : List UInt8}, (∀ x ∈ l, f x = true) → l.takeWhile f = l
 | [], _ => rfl
 | x :: r, h => by rw [List.takeWhile_cons, if_pos (h x (by simp)), tw_all fun y hy => h y (by simp [hy])]
theorem cut_lt_none {l : List UInt8} (h : cutL 60 l = none) : l.takeWhile notLt = l :=
 tw_all fun x hx => by
  have := cutL_none h
  simp only [notLt, bne_iff_ne]
  rintro rfl
  exact this hx
/-- What data, end leave. -/
def FPost (r : Option (List Value × Nat)) (w0 : World) (R : Nat) (T : List Res) (S : ByteArray) (n : Nat) (cs : List Value) (lg dp : Bool) (e : Ending) (w' : World) : Prop :=
 match r with
 | none => ∃ (ov : Value) (j : Nat) (T' : List Res), j ≤ S.size ∧ e = .returned (.bool false) ∧ Mem w0 w' (.box R 85 [.string S, .int .i64 j, ov, .bool lg, .bool dp] :: T')
 | some (vs, j) => e = .returned (.bool true) ∧ ∃ p c, Mem w0 w' (.box R 85 [.string S, .int .i64 j, .slice p (n + 1) c, .bool lg, .bool dp] :: .row p c 57 4 (n + 1) (cs ++ vs) :: T)
theorem cs_all {cs : List Value} {n : Nat} (h : cs.length = n * 4) (x : List Value) : cs.take (n * 4) ++ x = cs ++ x := by rw [List.take_of_length_le (by omega)]

set_option maxHeartbeats 8000000 in
theorem mdata_any (w0 W : World) (R : Nat) (T : List Res) (S : ByteArray) (i n c : Nat) (p : Option Addr) (cs : List Value) (lg dp : Bool) (hcs : cs.length = n * 4) (hn : n ≤ 1048576) (hT : U8 w0) (hE : ErrsAt w0) (hi : i ≤ S.size) (hs : S.size ≤ 1048576) (h : Mem w0 W (.box R 85 [.string S, .int .i64 i, .slice p n c, .bool lg, .bool dp] :: .row p c 57 4 n cs :: T)) :
  Calls Tryz.prog 66 #[.pointer (some ⟨R, 0, none⟩)] W (FPost ((dataF S i).map fun x => ([.int .i64 3, .string ⟨#[]⟩, .slice none 0 0, .string x.1], x.2)) w0 R T S n cs lg dp) := by
 have HM := Lib.hid h
 have HT := Lib.hid hT
 have HE := Lib.hid hE
 have HCs := Lib.hid (cs_all hcs)
 clear h hT hE hcs
 obtain ⟨X, hX⟩ : ∃ X, S.extract i S.size = X := ⟨_, rfl⟩
 have hXl : X.data.toList = S.data.toList.drop i := by rw [← hX, Lib.extract_data]; exact List.take_of_length_le (by simp)
 have hXs : X.size = S.size - i := by rw [← hX, ByteArray.size_extract]; omega
 obtain ⟨e, he⟩ : ∃ e, spE notLt S.data.toList i = e := ⟨_, rfl⟩
 obtain ⟨Y, hY⟩ : ∃ Y, S.extract i e = Y := ⟨_, rfl⟩
 have hel := spE_le (p := notLt) (l := S.data.toList) (i := i) (by rw [size_list]; exact hi)
 rw [he, size_list] at hel
 have hYs : Y.size = e - i := by rw [← hY, ByteArray.size_extract]; omega
 have hYs2 : Y.size ≤ 1073741824 := by omega
 have HIx := Lib.hid (fun W => (by have := Tryz.strings_IndexByte X 60 W; rw [show ((60 : Int)).toNat.toUInt8 = 60 from rfl, hXl, idx_cut] at this; exact this.mono fun e w' ⟨h1, h2⟩ => ⟨h1, h2.symm⟩ : Calls Tryz.prog 96 #[.string X, .int .u8 60] W fun e w' => e = .returned (.int .i64 (match cutL 60 (S.data.toList.drop i) with | some p => (p.1.length : Int) | none => -1)) ∧ W = w'))
 have hr : dataF S i = match unescO false Y with | none => none | some v => some (v, e) := by unfold dataF; rw [he, hY]; rfl
 have HX := Lib.hid hX
 rw [hr]
 clear hr
 obtain ⟨r, hrr⟩ : ∃ r, ((match unescO false Y with | none => none | some v => some (v, e) : Option (ByteArray × Nat)).map fun x => (([.int .i64 3, .string ⟨#[]⟩, .slice none 0 0, .string x.1] : List Value), x.2)) = r := ⟨_, rfl⟩
 have HR0 := Lib.hid (show unescO false Y = none → r = none from fun h => by rw [← hrr, h]; rfl)
 have HR1 := Lib.hid (show ∀ v, unescO false Y = some v → r = some ([.int .i64 3, .string ⟨#[]⟩, .slice none 0 0, .string v], e) from fun v h => by rw [← hrr, h]; rfl)
 rw [hrr]
 clear hrr
 have fin : ∀ (W : World) (K : Ending → World → Prop), (∀ w', unescO false Y = none → ∀ c : Int, (c == 0) = false → Below W.heap.size W w' → K (.returned (.tuple #[.string ⟨#[]⟩, .int .i64 c])) w') → (∀ w' v, unescO false Y = some v → Below W.heap.size W w' → K (.returned (.tuple #[.string v, .int .i64 0])) w') → U8 W → ErrsAt W → Calls Tryz.prog 98 #[.string Y, .bool false] W K := by
  intro W K h1 h2 hT hE
  cases ho : unescO false Y with
  | none =>
   obtain ⟨c, hc0, hc⟩ := unescO_none ho
   refine (unescape_any Y false W hT hE hYs2).mono ?_
   rintro e w' ⟨rfl, hb⟩
   rw [hc]
   exact h1 w' ho c (by simpa using hc0) hb
  | some v =>
   refine (unescape_any Y false W hT hE hYs2).mono ?_
   rintro e w' ⟨rfl, hb⟩
   rw [unescO_some ho]
   exact h2 w' v ho hb
 have HFin := Lib.hid fin
 have hji : ((i : Int) + (Y.size : Int)) = (e : Int) := by rw [hYs]; omega
 have HJi := Lib.hid hji
 have HEl := Lib.hid hel.2
 cases hc : cutL 60 (S.data.toList.drop i) with
 | none =>
  have hXY : X = Y := by
   rw [← hX, ← hY, ← he]; unfold spE; rw [cut_lt_none hc, List.length_drop, size_list, show i + (S.size - i) = S.size by omega]
  rw [hc] at HIx
  have HXY := Lib.hid hXY
  clear hc hXY hX hXl hXs he hY hel hYs fin hji
  go_enter Tryz.func66, Tryz.ntmps66
  go_wp2_with fail
  refine wp_region_mem (by kernel_rfl) (by kernel_rfl) HM.out ?_; intro hNE; (repeat (any_goals (first | ((with_reducible refine qgd ?_); (with_reducible refine skip_q ?_ ?_ ?_); (exact rfl); (rotate_left; (exact (hNE.elim fun p => ⟨p.W, p, rfl⟩)))) | refine mQ ?_ | ((with_reducible refine qat 15 ?_); (refine qsslf rfl rfl (i := i) rfl hi ?_; rw [HX.out])) | go_big_quiet_step (fail) | quiet_step (fail)))); clear hNE; refine wpQuiet_nil ?_; intro W1 HM1; replace HM := Lib.hid HM1; clear HM1
  go_wp2_with (first | (go_at_call 96; with_reducible refine cQ (HIx.out _) ?_))
  rw [HXY.out]
  refine HFin.out _ _ ?_ ?_ (HT.out.below HM.out.below) (HE.out.below HM.out.below)
  ·intro W2 ho c2 q0 hb
   have HM1 := Lib.hid (HM.out.next hb)
   obtain rfl := HR0.out ho
   clear HM hb ho HFin HR0 HR1
   have HM := HM1
   clear HM1
   go_wp2_with (first | (refine apb rfl HM.out 2 0 rfl rfl rfl rfl rfl rfl (by omega) (by omega) (by omega) ?_; intro p1 cap1 W1 HM1; replace HM := Lib.hid HM1; clear HM1; simp only [List.set] at HM) | refine mP ?_ | (refine mS ?_; clear HM; intro W1 HM) | (refine mL ?_; clear HM; intro g1 W1 HM))
   go_ret
   exact ⟨_, i, _, hi, rfl, HM.out.sub (.cons _ (.cons_cons _ (.refl _)))⟩
  ·intro W2 v ho hb
   have HM1 := Lib.hid (HM.out.next hb)
   obtain rfl := HR1.out v ho
   clear HM hb ho HFin HR0 HR1
   have HM := HM1
   clear HM1
   go_wp2_with (first | (refine apb rfl HM.out 2 0 rfl rfl rfl rfl rfl rfl (by omega) (by omega) (by omega) ?_; intro p1 cap1 W1 HM1; replace HM := Lib.hid HM1; clear HM1; simp only [List.set] at HM) | refine mP ?_ | (refine mS ?_; clear HM; intro W1 HM) | (refine mL ?_; clear HM; intro g1 W1 HM))
   go_ret
   have HM2 := HM.out
   rw [HCs.out, HJi.out] at HM2
   exact ⟨rfl, p1, cap1, HM2.sub (.cons _ (.refl _))⟩
 | some q =>
  obtain ⟨m, t⟩ := q
  have hm := cut_lt hc
  have hme : m.length = Y.size := by rw [hYs, ← he]; unfold spE; rw [hm]; omega
  have hXY : X.extract 0 Y.size = Y := by
   rw [← hX, ByteArray.extract_extract, Nat.add_zero, show min (i + Y.size) S.size = e by omega, hY]
  have hmx : Y.size ≤ X.size := by omega
  rw [hc] at HIx
  dsimp only at HIx
  rw [hme] at HIx
  have HXY := Lib.hid hXY
  have HMx := Lib.hid hmx
  have HDg := Lib.hid (show decide ((Y.size : Int) ≥ 0) = true from decide_eq_true (by omega))
  clear hc hXY hX hXl hXs he hY hel hYs fin hji hm hme hmx
  go_enter Tryz.func66, Tryz.ntmps66
  go_wp2_with fail
  refine wp_region_mem (by kernel_rfl) (by kernel_rfl) HM.out ?_; intro hNE; (repeat (any_goals (first | ((with_reducible refine qgd ?_); (with_reducible refine skip_q ?_ ?_ ?_); (exact rfl); (rotate_left; (exact (hNE.elim fun p => ⟨p.W, p, rfl⟩)))) | refine mQ ?_ | ((with_reducible refine qat 15 ?_); (refine qsslf rfl rfl (i := i) rfl hi ?_; rw [HX.out])) | go_big_quiet_step (fail) | quiet_step (fail)))); clear hNE; refine wpQuiet_nil ?_; intro W1 HM1; replace HM := Lib.hid HM1; clear HM1
  go_wp2_with (first | (go_at_call 96; with_reducible refine cQ (HIx.out _) ?_) | ((with_reducible refine iat 22 ?_); (refine sslh rfl rfl (j := Y.size) rfl HMx.out ?_; rw [HXY.out])))
  refine HFin.out _ _ ?_ ?_ (HT.out.below HM.out.below) (HE.out.below HM.out.below)
  ·intro W2 ho c2 q0 hb
   have HM1 := Lib.hid (HM.out.next hb)
   obtain rfl := HR0.out ho
   clear HM hb ho HFin HR0 HR1
   have HM := HM1
   clear HM1
   go_wp2_with (first | (refine apb rfl HM.out 2 0 rfl rfl rfl rfl rfl rfl (by omega) (by omega) (by omega) ?_; intro p1 cap1 W1 HM1; replace HM := Lib.hid HM1; clear HM1; simp only [List.set] at HM) | refine mP ?_ | (refine mS ?_; clear HM; intro W1 HM) | (refine mL ?_; clear HM; intro g1 W1 HM))
   go_ret
   exact ⟨_, i, _, hi, rfl, HM.out.sub (.cons _ (.cons_cons _ (.refl _)))⟩
  ·intro W2 v ho hb
   have HM1 := Lib.hid (HM.out.next hb)
   obtain rfl := HR1.out v ho
   clear HM hb ho HFin HR0 HR1
   have HM := HM1
   clear HM1
   go_wp2_with (first | (refine apb rfl HM.out 2 0 rfl rfl rfl rfl rfl rfl (by omega) (by omega) (by omega) ?_; intro p1 cap1 W1 HM1; replace HM := Lib.hid HM1; clear HM1; simp only [List.set] at HM) | refine mP ?_ | (refine mS ?_; clear HM; intro W1 HM) | (refine mL ?_; clear HM; intro g1 W1 HM))
   go_ret
   have HM2 := HM.out
   rw [HCs.out, HJi.out] at HM2
   exact ⟨rfl, p1, cap1, HM2.sub (.cons _ (.refl _))⟩
end Go.Proofs.YtanncakdlflopaaGreatDoor

namespace Go.Proofs.YtanncakdlflopaaGreatDoor
open Go.RowKit
set_option linter.unusedVariables false
set_option linter.unusedSimpArgs false
set_option maxRecDepth 100000

set_option maxHeartbeats 8000000 in
theorem mend_any (w0 W : World) (R : Nat) (T : List Res) (S : ByteArray) (i n c : Nat) (p : Option Addr) (cs : List Value) (lg dp : Bool) (r : Option (List Value × Nat)) (hr : ((endF S i).map fun x => (([.int .i64 2, .string x.1, .slice none 0 0, .string ⟨#[]⟩] : List Value), x.2)) = r) (hcs : cs.length = n * 4) (hn : n ≤ 1048576) (hi : i ≤ S.size) (hs : S.size ≤ 1048576) (h : Mem w0 W (.box R 85 [.string S, .int .i64 i, .slice p n c, .bool lg, .bool dp] :: .row p c 57 4 n cs :: T)) :
  Calls Tryz.prog 67 #[.pointer (some ⟨R, 0, none⟩)] W (FPost r w0 R T S n cs lg dp) := by
 have HM := Lib.hid h
 have HCs := Lib.hid (cs_all hcs)
 clear h hcs
 unfold endF at hr
 obtain ⟨k1, hk1⟩ : ∃ k, insE S i = k := ⟨_, rfl⟩
 have l1 := (insE_le hi).2
 rw [hk1] at hr l1
 obtain ⟨k2, hk2⟩ : ∃ k, blkE S k1 = k := ⟨_, rfl⟩
 have l2 := (blkE_le l1).2
 rw [hk2] at hr l2
 obtain ⟨N, hN⟩ : ∃ N, S.extract i k1 = N := ⟨_, rfl⟩
 rw [hN] at hr
 have HK1 := Lib.hid hk1
 have HK2 := Lib.hid hk2
 have HN := Lib.hid hN
 have HR := Lib.hid hr
 clear hk1 hk2 hN hr
 cases hnm : nameM N with
 | false =>
  have hr := HR.out
  rw [if_pos hnm] at hr
  subst hr
  clear HR
  go_enter Tryz.func67, Tryz.ntmps67
  go_wp2_with fail
  refine (gword _ rfl hi hs HK1.out HN.out hnm HM.out).mono ?_
  rintro e W2 ⟨rfl, hM⟩
  clear HM
  have HM := Lib.hid hM
  clear hM hnm
  go_wp2_with fail
  go_ret
  exact ⟨_, k1, _, l1, rfl, HM.out⟩
 | true =>
  have hr := HR.out
  rw [if_neg (by rw [hnm]; decide)] at hr
  clear HR
  have HR := Lib.hid hr
  clear hr
  go_enter Tryz.func67, Tryz.ntmps67
  go_wp2_with fail
  refine (gword _ rfl hi hs HK1.out HN.out hnm HM.out).mono ?_
  rintro e W2 ⟨rfl, hM⟩
  clear HM
  have HM := Lib.hid hM
  clear hM hnm
  go_wp2_with fail
  refine (gblanks _ rfl l1 hs HK2.out HM.out).mono ?_
  rintro e W2 ⟨rfl, hM⟩
  clear HM
  have HM := Lib.hid hM
  clear hM
  go_wp2_with (first | (refine apb rfl HM.out 2 0 rfl rfl rfl rfl rfl rfl (by omega) (by omega) (by omega) ?_; intro p1 cap1 W1 HM1; replace HM := Lib.hid HM1; clear HM1; simp only [List.set] at HM) | refine mP ?_ | (refine mS ?_; clear HM; intro W1 HM) | (refine mL ?_; clear HM; intro g1 W1 HM))
  have HM2 := HM.out
  rw [HCs.out] at HM2
  clear HM
  have HM := Lib.hid (HM2.sub (.cons _ (.refl _)))
  clear HM2
  cases h62 : atP [62] S k2 with
  | false =>
   have hr := HR.out
   rw [if_neg (by rw [h62]; decide)] at hr
   subst hr
   clear HR
   refine (gnot ⟨#[62]⟩ _ rfl l2 hs h62 HM.out).mono ?_
   rintro e W2 ⟨rfl, hM⟩
   clear HM
   have HM := Lib.hid hM
   clear hM
   go_wp2_with fail
   go_ret
   exact ⟨_, k2, _, l2, rfl, HM.out⟩
  | true =>
   have hr := HR.out
   rw [if_pos h62] at hr
   subst hr
   clear HR
   refine (gtake ⟨#[62]⟩ _ rfl l2 hs h62 HM.out).mono ?_
   rintro e W2 ⟨rfl, hM⟩
   clear HM
   have HM := Lib.hid hM
   clear hM
   go_wp2_with fail
   go_ret
   exact ⟨rfl, _, _, HM.out⟩
end Go.Proofs.YtanncakdlflopaaGreatDoor
