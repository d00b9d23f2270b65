/- The reference's digits: Cut, half, number. (fast) -/
import Derived.Test.YtinkdemjjnfphaaGreatDoorRefDig
import Derived.Test.YtinkdemjjnfphaaGreatDoorSepSl
import Derived.Test.YtinkdemjjnfphaaGreatDoorLexBytes
import Derived.Test.YtinkdemjjnfphaaGreatDoorTypes
namespace Go.Proofs.YtinkdemjjnfphaaGreatDoor
open Go.RowKit
set_option linter.unusedVariables false
set_option linter.unusedSimpArgs false
set_option maxRecDepth 100000

/-- Digits as they lie. -/
def nV (l : List Nat) : List Value := l.map fun x => .int .i64 (x : Nat)
theorem nV_len (l : List Nat) : (nV l).length = l.length := by unfold nV; simp
theorem nV_at {l : List Nat} {i x : Nat} (h : l[i]? = some x) : (nV l)[i]? = some (.int .i64 (x : Nat)) := by unfold nV; rw [List.getElem?_map, h]; rfl
theorem nV_take (l : List Nat) (k : Nat) : (nV l).take k = nV (l.take k) := by unfold nV; rw [List.map_take]
theorem cutL_step {l : List Nat} {k x : Nat} (h : l[k]? = some x) : l.take (k + 1) = l.take k ++ [x] := by rw [List.take_add_one, h]; rfl

set_option maxHeartbeats 4000000 in
theorem rCut (p : Option Addr) (c n : Nat) (ds : List Nat) (w : World) (hn : ds.length = n) (hS : Sl w p (nV ds)) (hc : n ≤ c) (hb : n ≤ 1000000) :
    Calls Tryz.prog 59 #[.slice p n c] w fun e w' => e = .returned (.slice p (cutL ds).length c) ∧ Below w.heap.size w w' := by
  have HM := Lib.hid (Mem.start w)
  have HS := Lib.hid hS
  have HL := Lib.hid hn
  obtain ⟨r, hr⟩ : ∃ r, (cutL ds).length = r := ⟨_, rfl⟩
  rw [hr]
  have HR := Lib.hid (show (cutL (ds.take n)).length = r by rw [List.take_of_length_le (by omega), hr])
  clear hS hn hr
  go_enter Tryz.func59, Tryz.ntmps59
  go_wp2_with fail
  go_loopw [3] (fun iv wr => ∃ k : Nat, iv = .int .i64 k ∧ k ≤ n ∧ Hid ((cutL (ds.take k)).length = r) ∧ Hid (Mem w wr [])) (fun iv _ => (intOf iv).toNat)
  case atStart => exact ⟨n, rfl, Nat.le_refl _, HR, HM⟩
  case round =>
    clear HM HR
    obtain ⟨k, rfl, hk, HR, HM⟩ := hrel
    rcases Nat.eq_zero_or_pos k with rfl | hpos
    · have HR2 := Lib.hid (show 0 = r by rw [← HR.out]; rfl)
      go_wp2_with (first | ((with_reducible refine iat 20 ?_); (refine slx rfl rfl (m := 0) rfl (Nat.zero_le _) ?_)))
      go_ret
      exact ⟨by rw [← HR2.out]; rfl, HM.out.below⟩
    · obtain ⟨j, rfl⟩ : ∃ j, k = j + 1 := ⟨k - 1, by omega⟩
      obtain ⟨x, hx⟩ : ∃ x, ds[j]? = some x := ⟨_, List.getElem?_eq_getElem (by rw [HL.out]; omega)⟩
      obtain ⟨b, rfl, hbC⟩ := HS.out.some (by intro e; have := congrArg List.length e; rw [nV_len, HL.out] at this; simp at this; omega)
      have HX := Lib.hid (hbC j _ (nV_at hx))
      have hjn : j < n := by omega
      have hjc : j + 1 ≤ c := by omega
      have hcast : ((j + 1 : Nat) : Int) - 1 = (j : Int) := by omega
      by_cases h0 : x = 0
      · subst h0
        have HR2 := Lib.hid (show (cutL (ds.take j)).length = r by rw [← HR.out, cutL_step hx, cutL_zero])
        have hj2 := Lib.hid (show j ≤ n by omega)
        clear hbC hx
        go_wp2_with (first | ((with_reducible refine iat 12 ?_); (refine ixa rfl rfl (i := j) (by omega) hjn ?_)) | ((with_reducible refine iat 13 ?_); (refine ldx1 (HM.out.old HX.out) (by first | rfl | (rw [Nat.mul_one]; rfl)) ?_)))
        go_roundw
        case rel => exact ⟨j, by go_num, hj2.out, HR2, HM⟩
        case measure => simp [intOf]
      · have HR2 := Lib.hid (show j + 1 = r by rw [← HR.out, cutL_step hx, cutL_top h0, List.length_append, List.length_take, HL.out]; simp; omega)
        have q0 : ((x : Int) == 0) = false := by simpa using h0
        clear hbC hx
        go_wp2_with (first | ((with_reducible refine iat 12 ?_); (refine ixa rfl rfl (i := j) (by omega) hjn ?_)) | ((with_reducible refine iat 13 ?_); (refine ldx1 (HM.out.old HX.out) (by first | rfl | (rw [Nat.mul_one]; rfl)) ?_)) | ((with_reducible refine iat 20 ?_); (refine slx rfl rfl (m := j + 1) (by simp) hjc ?_)))
        go_ret
        exact ⟨by rw [← HR2.out]; rfl, HM.out.below⟩

theorem hf_drop {l : List Nat} {j x : Nat} (h : l[j]? = some x) : hfL (l.drop j) = ((10 * (hfL (l.drop (j + 1))).2 + x) / 2 :: (hfL (l.drop (j + 1))).1, (10 * (hfL (l.drop (j + 1))).2 + x) % 2) := by
  have hi : j < l.length := (List.getElem?_eq_some_iff.1 h).1
  rw [List.drop_eq_getElem_cons hi]
  rw [List.getElem?_eq_getElem hi] at h
  rw [Option.some.inj h]
  rfl
theorem hf_le : ∀ l : List Nat, (hfL l).2 ≤ 1
  | [] => by show 0 ≤ 1; omega
  | x :: xs => by show (10 * (hfL xs).2 + x) % 2 ≤ 1; omega
theorem hf_set (k y : Nat) (l : List Value) : (List.replicate (k + 1) (Value.int .i64 0) ++ l).set k (.int .i64 (y : Nat)) = List.replicate k (.int .i64 0) ++ (.int .i64 (y : Nat)) :: l := by
  rw [List.replicate_succ', List.append_assoc, List.set_append_right _ _ (by simp)]
  simp

set_option maxHeartbeats 4000000 in
theorem rHalf (p : Option Addr) (c m n : Nat) (w : World) (hm : (dgt n).length = m) (hS : Sl w p (nV (dgt n))) (hb : m ≤ 1000) :
    Calls Tryz.prog 92 #[.slice p m c] w fun e w' => ∃ (p2 : Option Addr) (c2 : Nat), e = .returned (.tuple #[.slice p2 (dgt (n / 2)).length c2, .int .i64 (n % 2 : Nat)]) ∧ Mem w w' [.row p2 c2 3 1 (dgt (n / 2)).length (nV (dgt (n / 2)))] := by
  have HM := Lib.hid (Mem.start w)
  obtain ⟨ds, hds⟩ : ∃ ds, dgt n = ds := ⟨_, rfl⟩
  have H9 := Lib.hid (hds ▸ dgt_nine n)
  have H1 := Lib.hid (show cutL (hfL ds).1 = dgt (n / 2) from hds ▸ (half_dgt n).1)
  have H2 := Lib.hid (show (hfL ds).2 = n % 2 from hds ▸ (half_dgt n).2)
  rw [hds] at hm hS
  have HS := Lib.hid hS
  have HL := Lib.hid hm
  obtain ⟨h2, hh2⟩ : ∃ h2, dgt (n / 2) = h2 := ⟨_, rfl⟩
  rw [hh2] at H1 ⊢
  obtain ⟨r2, hr2⟩ : ∃ r2, n % 2 = r2 := ⟨_, rfl⟩
  rw [hr2] at H2 ⊢
  have hbn : 8 * m ≤ 140737488355328 := by omega
  clear hds hm hS hh2 hr2
  go_enter Tryz.func92, Tryz.ntmps92
  go_wp2_with (first | (refine mks rfl HM.out rfl rfl rfl rfl rfl hbn (by omega) ?_; intro gd W1 HM1; replace HM := Lib.hid HM1; clear HM1))
  go_loopw [6, 5] (fun iv lv wr => ∃ k : Nat, iv = .int .i64 ((k : Int) - 1) ∧ k ≤ m ∧ lv = .int .i64 ((hfL (ds.drop k)).2 : Nat) ∧ Hid (Mem w wr [.row (some ⟨gd, 0, none⟩) m 3 1 m (List.replicate k (.int .i64 0) ++ nV (hfL (ds.drop k)).1)])) (fun iv _ _ => (intOf iv + 1).toNat)
  case atStart => exact ⟨m, rfl, Nat.le_refl _, by rw [List.drop_of_length_le (by rw [HL.out]; exact Nat.le_refl _)]; rfl, by rw [List.drop_of_length_le (by rw [HL.out]; exact Nat.le_refl _)]; show Hid (Mem _ _ [.row _ _ _ _ _ (_ ++ [])]); rw [List.append_nil]; exact HM⟩
  case round =>
    clear HM
    obtain ⟨k, rfl, hk, rfl, HM⟩ := hrel
    rcases Nat.eq_zero_or_pos k with rfl | hpos
    · have hl1 : (hfL ds).1.length = m := by rw [hfL_len, HL.out]
      have HC := Lib.hid (fun W (h : Sl W (some ⟨gd, 0, none⟩) (nV (hfL ds).1)) => rCut (some ⟨gd, 0, none⟩) m m (hfL ds).1 W hl1 h (Nat.le_refl _) (by omega))
      have hml : h2.length ≤ m := by rw [← H1.out, ← hl1]; exact cutL_le _
      have HT := Lib.hid (show (nV (hfL ds).1).take (h2.length * 1) = nV h2 by rw [nV_take, Nat.mul_one, ← H1.out, ← cutL_take])
      rw [H1.out] at HC
      rw [show List.replicate 0 (Value.int .i64 0) ++ nV (hfL (ds.drop 0)).1 = nV (hfL ds).1 from rfl] at HM
      rw [show (hfL (ds.drop 0)).2 = r2 from H2.out]
      clear hl1
      go_wp2_with (first | (go_at_call 59; (with_reducible refine (HC.out _ (row_sl (HM.out.get (k := 0) rfl))).mono ?_); rintro e W1 ⟨rfl, hb⟩; replace HM := Lib.hid (HM.out.next hb); clear hb))
      go_ret2
      have h3 := HM.out.trunc (k := 0) rfl hml
      rw [HT.out] at h3
      exact ⟨_, _, rfl, h3⟩
    · obtain ⟨j, rfl⟩ : ∃ j, k = j + 1 := ⟨k - 1, by omega⟩
      obtain ⟨x, hx⟩ : ∃ x, ds[j]? = some x := ⟨_, List.getElem?_eq_getElem (by rw [HL.out]; omega)⟩
      obtain ⟨b, rfl, hbC⟩ := HS.out.some (by intro e; have := congrArg List.length e; rw [nV_len, HL.out] at this; simp at this; omega)
      have HX := Lib.hid (hbC j _ (nV_at hx))
      have hjn : j < m := by omega
      have h9 : x ≤ 9 := H9.out x (List.mem_of_getElem? hx)
      have HD := Lib.hid (hf_drop hx)
      have hcast : ((j + 1 : Nat) : Int) - 1 = (j : Int) := by omega
      obtain ⟨lf, hlf⟩ : ∃ lf, (hfL (ds.drop (j + 1))).2 = lf := ⟨_, rfl⟩
      have hle : lf ≤ 1 := hlf ▸ hf_le _
      rw [hlf] at HD ⊢
      clear hlf hbC hx
      rw [hcast]
      have hsl : j < (List.replicate (j + 1) (Value.int .i64 0) ++ nV (hfL (ds.drop (j + 1))).1).length := by simp; omega
      go_wp2_with (first | ((with_reducible refine iat 22 ?_); (refine ixa rfl rfl (i := j) rfl hjn ?_)) | ((with_reducible refine iat 29 ?_); (refine ixa rfl rfl (i := j) rfl hjn ?_)) | ((with_reducible refine iat 23 ?_); (refine ldx1 (HM.out.old HX.out) (by first | rfl | (rw [Nat.mul_one]; rfl)) ?_)) | ((with_reducible refine istore ?_); refine strw (v := .int _ _) (i := j) rfl HM.out 0 rfl (by first | rfl | (rw [Nat.mul_one]; rfl)) rfl rfl hsl ?_; intro W1 HM1; replace HM := Lib.hid HM1; clear HM1; simp only [List.set] at HM))
      go_roundw
      case rel =>
        refine ⟨j, rfl, by omega, ?_, ?_⟩
        · rw [HD.out]; push_cast; rfl
        · rw [HD.out]; rw [show ((10 * (lf : Int) + (x : Int)) / 2) = (((10 * lf + x) / 2 : Nat) : Int) by push_cast; rfl, hf_set] at HM; exact HM
      case measure => simp [intOf]
end Go.Proofs.YtinkdemjjnfphaaGreatDoor
