/- mark.Read on any document. (short) The reference of mark: Blank, blanks, begins, name, find. (short) Pieces that are spelled by the grammar are what the document says. No program in sight. -/
import Derived.Test.YtanncakdlflopaaGreatDoorMarkQ
import Derived.OwnWalk
import Derived.Test.YtanncakdlflopaaGreatDoorMarkPlain
import Derived.Test.YtanncakdlflopaaGreatDoorEscWalkA
namespace Go.Proofs.YtanncakdlflopaaGreatDoor
open Go.RowKit
set_option linter.unusedVariables false
set_option linter.unusedSimpArgs false
set_option maxRecDepth 100000

/-- What mark.Read answers. -/
def MPost (r : Option (List EvD) × Int) (w0 : World) (S : ByteArray) (e : Ending) (w' : World) : Prop :=
  match r with
  | (none, c) => ∃ j : Nat, j ≤ S.size ∧ (c == 0) = false ∧ e = .returned (.tuple #[.slice none 0 0, .int .i64 j, .int .i64 c]) ∧ Below w0.heap.size w0 w'
  | (some l, _) => ∃ (ms : List EvM) (p : Option Addr) (c : Nat), outD ms = l ∧ ms.length ≤ S.size ∧ e = .returned (.tuple #[.slice p ms.length c, .int .i64 0, .int .i64 0]) ∧ Mem w0 w' (.row p c 57 4 ms.length (outC ms) :: outR ms)
set_option maxHeartbeats 8000000 in
theorem mRead_any (S : ByteArray) (W : World) (r : Option (List EvD) × Int) (hr : markF S = r) (hT : U8 W) (hE : ErrsAt W) (hX : MaxAt W) (hs : S.size ≤ 1048576) :
    Calls Tryz.prog 22 #[.string S] W (MPost r W S) := by
  have HM := Lib.hid (Mem.start W)
  have HT := Lib.hid hT
  have HE := Lib.hid hE
  have HX := Lib.hid hX
  have HR := Lib.hid hr
  clear hT hE hX hr
  by_cases h3 : 300000 < S.size
  · have d1 : decide ((300000 : Int) < (S.size : Int)) = true := decide_eq_true (by omega)
    have hrn : r = (none, 6) := by rw [← HR.out]; unfold markF; rw [if_pos h3]
    have HS := Lib.hid h3
    subst hrn
    clear h3 HR
    go_enter Tryz.func22, Tryz.ntmps22
    go_wp2_with fail
    go_ret3
    exact ⟨300000, by have := HS.out; omega, rfl, rfl, HM.out.below⟩
  have d1 : decide ((300000 : Int) < (S.size : Int)) = false := decide_eq_false (by omega)
  have HV := Lib.hid (fun W h => valid_any S W (by omega) h)
  cases hv : textB S with
  | false =>
    have hrn : r = (none, 2) := by rw [← HR.out]; unfold markF; rw [if_neg h3, if_pos hv]
    subst hrn
    rw [hv] at HV
    clear h3 HR hv
    go_enter Tryz.func22, Tryz.ntmps22
    go_wp2_with (first | (go_at_call 41; (with_reducible refine cB HM (HV.out _ (HT.out.below HM.out.below)) ?_); clear HM; intro W1 HM))
    go_ret3
    exact ⟨0, by omega, rfl, rfl, HM.out.below⟩
  | true =>
    obtain ⟨q, hq⟩ : ∃ q, bodyF S = q := ⟨_, rfl⟩
    have HRd := Lib.hid (fun W2 R h => mread_any W W2 R S q hq HT.out HE.out HX.out hs h)
    have hr2 := HR.out
    unfold markF at hr2
    rw [if_neg h3, if_neg (by rw [hv]; decide), hq] at hr2
    rw [hv] at HV
    clear HR hv hq
    go_enter Tryz.func22, Tryz.ntmps22
    go_wp2_with (first | (go_at_call 41; (with_reducible refine cB HM (HV.out _ (HT.out.below HM.out.below)) ?_); clear HM; intro W1 HM) | refine mP ?_ | ((with_reducible refine iat 14 ?_); refine mB ?_; clear HM; intro g14 W1 HM))
    have HR := Lib.hid hr2
    clear hr2
    have hc := HRd.out _ _ HM.out
    clear HRd
    cases q with
    | none =>
      have hrn : r = (none, 5) := by rw [← HR.out]
      subst hrn
      clear HR
      refine hc.mono ?_
      rintro e W2 ⟨ov, j, lg, dp, T, hj, rfl, hM⟩
      clear hc HM
      have HM := Lib.hid hM
      clear hM
      go_wp2_with fail
      refine wp_region_mem (by kernel_rfl) (by kernel_rfl) HM.out ?_; intro hNE; (repeat (any_goals (first | ((with_reducible refine qgd ?_); (with_reducible refine skip_q ?_ ?_ ?_); (exact rfl); (rotate_left; (exact (hNE.elim fun p => ⟨p.W, p, rfl⟩)))) | refine mQ ?_ | go_big_quiet_step (fail) | quiet_step (fail)))); clear hNE; refine wpQuiet_nil ?_; intro W1 HM1; replace HM := Lib.hid HM1; clear HM1
      go_wp2_with fail
      go_ret3
      exact ⟨j, hj, rfl, rfl, HM.out.below⟩
    | some l =>
      refine hc.mono ?_
      rintro e W2 ⟨rfl, ms, p, c, hl, hms, hM⟩
      clear hc HM
      have HM := Lib.hid hM
      have HL := Lib.hid hl
      clear hM hl
      have hr2 := HR.out
      clear HR
      dsimp only at hr2
      obtain ⟨lg, hlg⟩ : ∃ b, longB l = b := ⟨_, rfl⟩
      obtain ⟨dp, hdp⟩ : ∃ b, dupB l = b := ⟨_, rfl⟩
      rw [hlg, hdp] at HM hr2
      clear hlg hdp
      cases lg with
      | true =>
        rw [if_pos rfl] at hr2
        subst hr2
        go_wp2_with (first | refine mP ?_ | (refine mB ?_; clear HM; intro g1 W1 HM))
        go_ret3
        exact ⟨S.size, by omega, rfl, rfl, HM.out.below⟩
      | false =>
        rw [if_neg (by decide)] at hr2
        cases dp with
        | true =>
          rw [if_pos rfl] at hr2
          subst hr2
          go_wp2_with (first | refine mP ?_ | (refine mB ?_; clear HM; intro g1 W1 HM))
          go_ret3
          exact ⟨S.size, by omega, rfl, rfl, HM.out.below⟩
        | false =>
          rw [if_neg (by decide)] at hr2
          subst hr2
          go_wp2_with (first | refine mP ?_ | (refine mB ?_; clear HM; intro g1 W1 HM))
          go_ret3
          exact ⟨ms, p, c, HL.out, hms, rfl, HM.out.sub (.cons _ (.refl _))⟩
end Go.Proofs.YtanncakdlflopaaGreatDoor

namespace Go.Proofs.YtanncakdlflopaaGreatDoor
open Go.RowKit
set_option linter.unusedVariables false
set_option linter.unusedSimpArgs false
set_option maxRecDepth 100000

theorem u8_eq (b c : UInt8) : ((b.toNat : Int) == (c.toNat : Int)) = (b == c) := by
  by_cases h : b = c
  · subst h; simp
  · rw [beq_eq_false_iff_ne.2 h]
    exact beq_eq_false_iff_ne.2 fun e => h (UInt8.toNat_inj.1 (by omega))
theorem rblank_any (b : UInt8) (w : World) : Calls Tryz.prog 53 #[.int .u8 b.toNat] w fun e w' => e = .returned (.bool (blkB b)) ∧ w = w' := by
  cases h32 : (b == 32) with
  | true =>
    have q32 : ((b.toNat : Int) == 32) = true := (u8_eq b 32).trans h32
    have HB := Lib.hid (show blkB b = true by unfold blkB; rw [h32]; simp)
    clear h32
    rw [HB.out]
    go_enter Tryz.func53, Tryz.ntmps53
    go_wp2_with fail
    go_ret
    exact ⟨rfl, rfl⟩
  | false =>
    have q32 : ((b.toNat : Int) == 32) = false := (u8_eq b 32).trans h32
    cases h9 : (b == 9) with
    | true =>
      have q9 : ((b.toNat : Int) == 9) = true := (u8_eq b 9).trans h9
      have HB := Lib.hid (show blkB b = true by unfold blkB; rw [h32, h9]; simp)
      clear h32 h9
      rw [HB.out]
      go_enter Tryz.func53, Tryz.ntmps53
      go_wp2_with fail
      go_ret
      exact ⟨rfl, rfl⟩
    | false =>
      have q9 : ((b.toNat : Int) == 9) = false := (u8_eq b 9).trans h9
      cases h10 : (b == 10) with
      | true =>
        have q10 : ((b.toNat : Int) == 10) = true := (u8_eq b 10).trans h10
        have HB := Lib.hid (show blkB b = true by unfold blkB; rw [h32, h9, h10]; simp)
        clear h32 h9 h10
        rw [HB.out]
        go_enter Tryz.func53, Tryz.ntmps53
        go_wp2_with fail
        go_ret
        exact ⟨rfl, rfl⟩
      | false =>
        have q10 : ((b.toNat : Int) == 10) = false := (u8_eq b 10).trans h10
        cases h13 : (b == 13) with
        | true =>
          have q13 : ((b.toNat : Int) == 13) = true := (u8_eq b 13).trans h13
          have HB := Lib.hid (show blkB b = true by unfold blkB; rw [h32, h9, h10, h13]; simp)
          clear h32 h9 h10 h13
          rw [HB.out]
          go_enter Tryz.func53, Tryz.ntmps53
          go_wp2_with fail
          go_ret
          exact ⟨rfl, rfl⟩
        | false =>
          have q13 : ((b.toNat : Int) == 13) = false := (u8_eq b 13).trans h13
          have HB := Lib.hid (show blkB b = false by unfold blkB; rw [h32, h9, h10, h13]; rfl)
          clear h32 h9 h10 h13
          rw [HB.out]
          go_enter Tryz.func53, Tryz.ntmps53
          go_wp2_with fail
          go_ret
          exact ⟨rfl, rfl⟩

set_option maxHeartbeats 4000000 in
theorem rblanks_any (S : ByteArray) (i : Nat) (w : World) (hi : i ≤ S.size) (hs : S.size ≤ 1048576) :
    Calls Tryz.prog 56 #[.string S, .int .i64 i] w fun e w' => e = .returned (.int .i64 (blkE S i : Nat)) ∧ w = w' := by
  obtain ⟨r, hr⟩ : ∃ r, blkE S i = r := ⟨_, rfl⟩
  rw [hr]
  have HR := Lib.hid hr
  clear hr
  go_enter Tryz.func56, Tryz.ntmps56
  go_wp2_with fail
  go_loopw [1] (fun iv wr => ∃ k : Nat, iv = .int .i64 k ∧ k ≤ S.size ∧ Hid (blkE S k = r) ∧ w = wr) (fun iv _ => S.size - (intOf iv).toNat)
  case atStart => exact ⟨i, rfl, hi, HR, by trivial⟩
  case round =>
    clear HR
    obtain ⟨k, rfl, hk, HR, rfl⟩ := hrel
    by_cases hlt : k < S.size
    · obtain ⟨b, hb⟩ : ∃ b, S.data.toList[k]? = some b := ⟨_, List.getElem?_eq_getElem (by rw [size_list]; exact hlt)⟩
      have HBi := Lib.hid hb
      have d1 : decide ((k : Int) < S.size) = true := decide_eq_true (by omega)
      have HBl := Lib.hid (fun W => rblank_any b W)
      cases hp : blkB b with
      | true =>
        have HR2 := Lib.hid (show blkE S (k + 1) = r by rw [← HR.out]; exact spE_yes hb hp)
        rw [hp] at HBl
        clear hb hp
        go_wp2_with (first | ((with_reducible refine iat 12 ?_); (refine six rfl rfl rfl HBi.out ?_)) | (go_at_call 53; with_reducible refine cQ (HBl.out _) ?_))
        go_roundw
        case rel => exact ⟨k + 1, by go_num, by omega, HR2, by trivial⟩
        case measure => simp [intOf]; omega
      | false =>
        have HR2 := Lib.hid (show k = r by rw [← HR.out]; exact (spE_no hb hp).symm)
        rw [hp] at HBl
        clear hb hp
        go_wp2_with (first | ((with_reducible refine iat 12 ?_); (refine six rfl rfl rfl HBi.out ?_)) | (go_at_call 53; with_reducible refine cQ (HBl.out _) ?_))
        go_ret
        exact ⟨by rw [← HR2.out]; rfl, rfl⟩
    · have HR2 := Lib.hid (show k = r by rw [← HR.out]; exact (spE_end (by rw [size_list]; omega)).symm)
      have d1 : decide ((k : Int) < S.size) = false := decide_eq_false (by omega)
      go_wp2_with fail
      go_ret
      exact ⟨by rw [← HR2.out]; rfl, rfl⟩

/-- What the reference's name answers. -/
def nameR (S : ByteArray) (i : Nat) : Int := if nameM (S.extract i (insE S i)) then (insE S i : Int) else -1
set_option maxHeartbeats 4000000 in
theorem rname_at (S : ByteArray) (i : Nat) (w : World) (hi : i ≤ S.size) (hs : S.size ≤ 1048576) :
    Calls Tryz.prog 55 #[.string S, .int .i64 i] w fun e w' => e = .returned (.int .i64 (nameR S i)) ∧ w = w' := by
  have hle := insE_le hi
  obtain ⟨x, hx⟩ : ∃ x, nameR S i = x := ⟨_, rfl⟩
  rw [hx]
  unfold nameR at hx
  obtain ⟨r, hr⟩ : ∃ r, insE S i = r := ⟨_, rfl⟩
  rw [hr] at hle hx
  obtain ⟨N, hN⟩ : ∃ N, S.extract i r = N := ⟨_, rfl⟩
  rw [hN] at hx
  have HXt := Lib.hid (show nameM N = true → x = (r : Int) from fun h => by rw [← hx, if_pos h])
  have HXf := Lib.hid (show nameM N = false → x = -1 from fun h => by rw [← hx, h]; rfl)
  clear hx
  have hNs : N.size ≤ 1099511627776 := by rw [← hN, ByteArray.size_extract]; omega
  have HNm := Lib.hid (fun W => rmname_any N W hNs)
  have HN := Lib.hid hN
  have HR := Lib.hid hr
  have HLe := Lib.hid hle
  clear hr hN hNs hle
  go_enter Tryz.func55, Tryz.ntmps55
  go_wp2_with fail
  go_loopw [5] (fun iv wr => ∃ k : Nat, iv = .int .i64 k ∧ k ≤ S.size ∧ Hid (insE S k = r) ∧ w = wr) (fun iv _ => S.size - (intOf iv).toNat)
  case atStart => exact ⟨i, rfl, hi, HR, by trivial⟩
  case round =>
    clear HR
    obtain ⟨k, rfl, hk, HR, rfl⟩ := hrel
    by_cases hlt : k < S.size
    · obtain ⟨b, hb⟩ : ∃ b, S.data.toList[k]? = some b := ⟨_, List.getElem?_eq_getElem (by rw [size_list]; exact hlt)⟩
      have HBi := Lib.hid hb
      have d1 : decide ((k : Int) < S.size) = true := decide_eq_true (by omega)
      have HIn := Lib.hid (fun W => rinside_any (b.toNat : Int) W)
      cases hp : insU b with
      | true =>
        have HR2 := Lib.hid (show insE S (k + 1) = r by rw [← HR.out]; exact spE_yes hb hp)
        unfold insU at hp
        rw [hp] at HIn
        clear hb hp
        go_wp2_with (first | ((with_reducible refine iat 14 ?_); (refine six rfl rfl rfl HBi.out ?_)) | (go_at_call 82; with_reducible refine cQ ((HIn.out _)) ?_))
        go_roundw
        case rel => exact ⟨k + 1, by go_num, by omega, HR2, by trivial⟩
        case measure => simp [intOf]; omega
      | false =>
        have hR2 : k = r := by rw [← HR.out]; exact (spE_no hb hp).symm
        unfold insU at hp
        rw [hp] at HIn
        clear hb hp
        subst hR2
        have HL2 := HLe.out
        cases hn : nameM N with
        | true =>
          rw [hn] at HNm
          obtain rfl := HXt.out hn
          clear hn HXt HXf
          go_wp2_with (first | ((with_reducible refine iat 14 ?_); (refine six rfl rfl rfl HBi.out ?_)) | ((with_reducible refine iat 22 ?_); (refine ssls rfl rfl (i := i) rfl rfl (j := k) rfl HL2.1 HL2.2 ?_; rw [HN.out])) | (go_at_call 82; with_reducible refine cQ ((HIn.out _)) ?_) | (go_at_call 45; refine (HNm.out _).mono ?_; rintro e W2 ⟨rfl, rfl⟩))
          go_ret
          exact ⟨rfl, rfl⟩
        | false =>
          rw [hn] at HNm
          obtain rfl := HXf.out hn
          clear hn HXt HXf
          go_wp2_with (first | ((with_reducible refine iat 14 ?_); (refine six rfl rfl rfl HBi.out ?_)) | ((with_reducible refine iat 22 ?_); (refine ssls rfl rfl (i := i) rfl rfl (j := k) rfl HL2.1 HL2.2 ?_; rw [HN.out])) | (go_at_call 82; with_reducible refine cQ ((HIn.out _)) ?_) | (go_at_call 45; refine (HNm.out _).mono ?_; rintro e W2 ⟨rfl, rfl⟩))
          go_ret
          exact ⟨rfl, rfl⟩
    · have hR2 : k = r := by rw [← HR.out]; exact (spE_end (by rw [size_list]; omega)).symm
      have d1 : decide ((k : Int) < S.size) = false := decide_eq_false (by omega)
      subst hR2
      have HL2 := HLe.out
      cases hn : nameM N with
      | true =>
        rw [hn] at HNm
        obtain rfl := HXt.out hn
        clear hn HXt HXf
        go_wp2_with (first | ((with_reducible refine iat 14 ?_); (refine six rfl rfl rfl HBi.out ?_)) | ((with_reducible refine iat 22 ?_); (refine ssls rfl rfl (i := i) rfl rfl (j := k) rfl HL2.1 HL2.2 ?_; rw [HN.out])) | (go_at_call 82; with_reducible refine cQ ((HIn.out _)) ?_) | (go_at_call 45; refine (HNm.out _).mono ?_; rintro e W2 ⟨rfl, rfl⟩))
        go_ret
        exact ⟨rfl, rfl⟩
      | false =>
        rw [hn] at HNm
        obtain rfl := HXf.out hn
        clear hn HXt HXf
        go_wp2_with (first | ((with_reducible refine iat 14 ?_); (refine six rfl rfl rfl HBi.out ?_)) | ((with_reducible refine iat 22 ?_); (refine ssls rfl rfl (i := i) rfl rfl (j := k) rfl HL2.1 HL2.2 ?_; rw [HN.out])) | (go_at_call 82; with_reducible refine cQ ((HIn.out _)) ?_) | (go_at_call 45; refine (HNm.out _).mono ?_; rintro e W2 ⟨rfl, rfl⟩))
        go_ret
        exact ⟨rfl, rfl⟩

/-- begins: does t stand at the place? -/
theorem at_take {t : List UInt8} {S : ByteArray} {i : Nat} (h : i + t.length ≤ S.size) : ((S.extract i (i + t.length)).data.toList == t) = atP t S i := by
  rw [Lib.extract_data]
  have := Lib.occAt_iff_take S.data.toList t i (by rw [size_list]; exact h)
  unfold atP Lib.hasPrefix
  unfold Lib.occAt at this
  rw [this]
  congr 1
  simp
set_option maxHeartbeats 4000000 in
theorem rbegins_any (S t : ByteArray) (i : Nat) (w : World) (hi : i ≤ S.size) (hs : S.size ≤ 1048576) (ht : t.size ≤ 16) :
    Calls Tryz.prog 52 #[.string S, .int .i64 i, .string t] w fun e w' => e = .returned (.bool (atP t.data.toList S i)) ∧ w = w' := by
  by_cases hl : i + t.size ≤ S.size
  · obtain ⟨X, hX⟩ : ∃ X, S.extract i (i + t.size) = X := ⟨_, rfl⟩
    have he : (X.toList == t.toList) = atP t.data.toList S i := by
      rw [← at_take (by rw [size_list]; exact hl), size_list, hX, Lib.toList_data, Lib.toList_data]
    have HE := Lib.hid he
    have HX := Lib.hid hX
    have d1 : decide ((S.size : Int) - (i : Int) ≥ (t.size : Int)) = true := decide_eq_true (by omega)
    have d2 : decide ((t.size : Int) ≤ (S.size : Int) - (i : Int)) = true := decide_eq_true (by omega)
    have h1 : i ≤ i + t.size := by omega
    clear he hX
    go_enter Tryz.func52, Tryz.ntmps52
    go_wp2_with (first | ((with_reducible refine iat 21 ?_); (refine ssls rfl rfl (i := i) rfl rfl (j := i + t.size) (by simp) h1 hl ?_; rw [HX.out])))
    go_ret
    exact ⟨by rw [← HE.out]; rfl, rfl⟩
  · have he : atP t.data.toList S i = false := by
      cases h : atP t.data.toList S i with
      | false => rfl
      | true => have := atP_le hi h; rw [size_list] at this; omega
    have HE := Lib.hid he
    have d1 : decide ((S.size : Int) - (i : Int) ≥ (t.size : Int)) = false := decide_eq_false (by omega)
    have d2 : decide ((t.size : Int) ≤ (S.size : Int) - (i : Int)) = false := decide_eq_false (by omega)
    clear he
    go_enter Tryz.func52, Tryz.ntmps52
    go_wp2_with fail
    go_ret
    exact ⟨by rw [HE.out]; rfl, rfl⟩

theorem fnd_step {t : List UInt8} {S : ByteArray} {k : Nat} (hk : k + t.length ≤ S.size) (ht : t ≠ []) : fndL t (S.data.toList.drop k) = if atP t S k then some 0 else (fndL t (S.data.toList.drop (k + 1))).map (· + 1) := by
  have h0 : 0 < t.length := List.length_pos_iff.2 ht
  have hlt : k < S.data.toList.length := by rw [size_list]; omega
  rw [List.drop_eq_getElem_cons hlt, fndL_cons, ← List.drop_eq_getElem_cons hlt]
  rfl
theorem fnd_short {t : List UInt8} {l : List UInt8} (ht : t ≠ []) (h : l.length < t.length) : fndL t l = none := by
  cases hf : fndL t l with
  | none => rfl
  | some n => have := fndL_le ht hf; omega
/-- What find answers. -/
def fndR (t : ByteArray) (S : ByteArray) (i : Nat) : Int := match fndL t.data.toList (S.data.toList.drop i) with
  | some n => ((i + n : Nat) : Int)
  | none => -1
set_option maxHeartbeats 4000000 in
theorem rfind_any (S t : ByteArray) (i : Nat) (w : World) (hi : i ≤ S.size) (hs : S.size ≤ 1048576) (ht : t.size ≤ 16) (ht0 : t.data.toList ≠ []) :
    Calls Tryz.prog 54 #[.string S, .int .i64 i, .string t] w fun e w' => e = .returned (.int .i64 (fndR t S i)) ∧ w = w' := by
  obtain ⟨r, hr⟩ : ∃ r, fndR t S i = r := ⟨_, rfl⟩
  rw [hr]
  have HR := Lib.hid hr
  have HT0 := Lib.hid ht0
  clear hr ht0
  go_enter Tryz.func54, Tryz.ntmps54
  go_wp2_with fail
  go_loopw [1] (fun iv wr => ∃ k : Nat, iv = .int .i64 k ∧ k ≤ S.size ∧ Hid (fndR t S k = r) ∧ w = wr) (fun iv _ => S.size - (intOf iv).toNat)
  case atStart => exact ⟨i, rfl, hi, HR, by trivial⟩
  case round =>
    clear HR
    obtain ⟨k, rfl, hk, HR, rfl⟩ := hrel
    by_cases hlt : k + t.size ≤ S.size
    · have d1 : decide ((k : Int) ≤ (S.size : Int) - (t.size : Int)) = true := decide_eq_true (by omega)
      obtain ⟨X, hX⟩ : ∃ X, S.extract k (k + t.size) = X := ⟨_, rfl⟩
      have he : (X.toList == t.toList) = atP t.data.toList S k := by
        rw [← at_take (by rw [size_list]; exact hlt), size_list, hX, Lib.toList_data, Lib.toList_data]
      have hst := fnd_step (S := S) (k := k) (by rw [size_list]; exact hlt) HT0.out
      have HX := Lib.hid hX
      have h1 : k ≤ k + t.size := by omega
      have hpos : 0 < t.size := by rw [← size_list]; exact List.length_pos_iff.2 HT0.out
      cases hp : atP t.data.toList S k with
      | true =>
        rw [hp] at he hst
        have HR2 := Lib.hid (show r = (k : Int) by rw [← HR.out]; unfold fndR; rw [hst]; rfl)
        clear hX hst hp
        go_wp2_with (first | ((with_reducible refine iat 22 ?_); (refine ssls rfl rfl (i := k) rfl rfl (j := k + t.size) (by simp) h1 hlt ?_; rw [HX.out])))
        go_ret
        exact ⟨by rw [HR2.out]; rfl, rfl⟩
      | false =>
        rw [hp] at he hst
        have HR2 := Lib.hid (show fndR t S (k + 1) = r by
          rw [← HR.out]; unfold fndR; rw [hst]
          cases fndL t.data.toList (S.data.toList.drop (k + 1)) with
          | none => rfl
          | some n => show ((k + 1 + n : Nat) : Int) = ((k + (n + 1) : Nat) : Int); congr 1; omega)
        clear hX hst hp
        go_wp2_with (first | ((with_reducible refine iat 22 ?_); (refine ssls rfl rfl (i := k) rfl rfl (j := k + t.size) (by simp) h1 hlt ?_; rw [HX.out])))
        go_roundw
        case rel => exact ⟨k + 1, by go_num, by omega, HR2, by trivial⟩
        case measure => simp [intOf]; omega
    · have d1 : decide ((k : Int) ≤ (S.size : Int) - (t.size : Int)) = false := decide_eq_false (by omega)
      have HR2 := Lib.hid (show r = -1 by rw [← HR.out]; unfold fndR; rw [fnd_short HT0.out (by rw [List.length_drop, size_list, size_list]; omega)])
      go_wp2_with fail
      go_ret
      exact ⟨by rw [HR2.out]; rfl, rfl⟩
end Go.Proofs.YtanncakdlflopaaGreatDoor

namespace Go.Proofs.YtanncakdlflopaaGreatDoor
open Go.RowKit
set_option linter.unusedVariables false
set_option linter.unusedSimpArgs false
set_option maxRecDepth 100000

/-- A piece: its kind, name, value, text. -/
structure PartD where
  k : Int
  n : ByteArray
  v : ByteArray
  t : ByteArray
/-- Can it be spelled? -/
def spOk (p : PartD) : Bool := (chars p.v.data.toList).isSome && (chars p.t.data.toList).isSome && (!(decide (p.k = 1) || decide (p.k = 2)) || nameM p.n)
/-- Its text. -/
def spT (B : List UInt8) (q : UInt8) (p : PartD) : List UInt8 :=
  if p.k = 1 then 60 :: (p.n.data.toList ++ 32 :: (B ++ (p.n.data.toList ++ (B ++ 61 :: (B ++ q :: (escT true p.v.data.toList ++ q :: (B ++ [62])))))))
  else if p.k = 2 then 60 :: 47 :: (p.n.data.toList ++ (B ++ [62]))
  else if p.k = 3 then (if p.t.data.toList = [] then [] else escT false p.t.data.toList ++ [60, 33, 45, 45, 45, 45, 62])
  else 60 :: 33 :: 45 :: 45 :: (B ++ [45, 45, 62])
/-- Its events. -/
def spV (p : PartD) : List EvD :=
  if p.k = 1 then [evOpen p.n [(p.n, p.v)]]
  else if p.k = 2 then [evClose p.n]
  else if p.k = 3 then (if p.t.data.toList = [] then [] else [evData p.t])
  else []

theorem drop_app {T a X : List UInt8} {i : Nat} (h : T.drop i = a ++ X) : T.drop (i + a.length) = X := by
  rw [← List.drop_drop, h, List.drop_left]
theorem drop_one {T X : List UInt8} {b : UInt8} {i : Nat} (h : T.drop i = b :: X) : T.drop (i + 1) = X := drop_app (a := [b]) h
theorem drop_lt {T X : List UInt8} {b : UInt8} {i : Nat} (h : T.drop i = b :: X) : i < T.length := by
  have := congrArg List.length h
  rw [List.length_drop, List.length_cons] at this
  omega
theorem atP_of {t X : List UInt8} {S : ByteArray} {i : Nat} (h : S.data.toList.drop i = t ++ X) : atP t S i = true := by
  unfold atP Lib.hasPrefix; rw [h]; exact List.isPrefixOf_iff_prefix.2 (List.prefix_append t X)
theorem atP_no {c b : UInt8} {t X : List UInt8} {S : ByteArray} {i : Nat} (h : S.data.toList.drop i = b :: X) (hb : c ≠ b) : atP (c :: t) S i = false := by
  unfold atP Lib.hasPrefix; rw [h, List.isPrefixOf, beq_eq_false_iff_ne.2 hb]; rfl
theorem atP_no2 {c d b : UInt8} {t X : List UInt8} {S : ByteArray} {i : Nat} (h : S.data.toList.drop i = c :: b :: X) (hb : d ≠ b) : atP (c :: d :: t) S i = false := by
  unfold atP Lib.hasPrefix; rw [h, List.isPrefixOf, List.isPrefixOf, beq_eq_false_iff_ne.2 hb]; simp
theorem atP_nil {c : UInt8} {t : List UInt8} {S : ByteArray} {i : Nat} (h : S.data.toList.drop i = []) : atP (c :: t) S i = false := by
  unfold atP Lib.hasPrefix; rw [h]; rfl
theorem spE_of {p : UInt8 → Bool} {T a X : List UInt8} {i : Nat} (h : T.drop i = a ++ X) (ha : ∀ b ∈ a, p b = true) (hX : ∀ b ∈ X.head?, p b = false) : spE p T i = i + a.length := by
  unfold spE
  rw [h]
  clear h
  congr 2
  induction a with
  | nil =>
    cases X with
    | nil => rfl
    | cons x r => rw [List.nil_append, List.takeWhile_cons, if_neg (by rw [hX x rfl]; decide)]
  | cons b a ih => rw [List.cons_append, List.takeWhile_cons, if_pos (ha b (by simp)), ih (fun c hc => ha c (by simp [hc]))]
theorem ext_of {S : ByteArray} {a X : List UInt8} {i : Nat} (h : S.data.toList.drop i = a ++ X) : S.extract i (i + a.length) = ⟨a.toArray⟩ := by
  apply ByteArray.ext
  apply Array.toList_inj.1
  rw [ByteArray.data_extract, Array.toList_extract, List.extract_eq_take_drop, h]
  simp
theorem fnd_of {c : UInt8} {t X : List UInt8} : ∀ {a : List UInt8}, c ∉ a → fndL (c :: t) (a ++ (c :: t) ++ X) = some a.length
  | [], _ => by
    rw [List.nil_append, List.cons_append, fndL_cons, if_pos]
    · rfl
    · rw [← List.cons_append]; exact List.isPrefixOf_iff_prefix.2 (List.prefix_append _ X)
  | b :: a, h => by
    rw [List.cons_append, List.cons_append, fndL_cons, if_neg, fnd_of (fun hc => h (by simp [hc]))]
    · rfl
    · rw [List.isPrefixOf, beq_eq_false_iff_ne.2 (fun e => h (by simp [e]))]; simp

theorem insN {b : UInt8} (h : insU b = true) : b ≠ 60 ∧ b ≠ 62 ∧ b ≠ 47 ∧ b ≠ 61 ∧ b ≠ 33 ∧ b ≠ 63 ∧ blkB b = false ∧ b.toNat < 128 ∧ charB b.toNat = true := by
  have h1 : ∀ n : Fin 256, insU (UInt8.ofNat n.val) = true → UInt8.ofNat n.val ≠ 60 ∧ UInt8.ofNat n.val ≠ 62 ∧ UInt8.ofNat n.val ≠ 47 ∧ UInt8.ofNat n.val ≠ 61 ∧ UInt8.ofNat n.val ≠ 33 ∧ UInt8.ofNat n.val ≠ 63 ∧ blkB (UInt8.ofNat n.val) = false ∧ (UInt8.ofNat n.val).toNat < 128 ∧ charB (UInt8.ofNat n.val).toNat = true := by decide +kernel
  have := h1 ⟨b.toNat, b.toNat_lt⟩
  simp only [UInt8.ofNat_toNat] at this
  exact this h
theorem blkN {b : UInt8} (h : blkB b = true) : insU b = false ∧ b ≠ 45 ∧ b.toNat < 128 ∧ charB b.toNat = true := by
  have h1 : ∀ n : Fin 256, blkB (UInt8.ofNat n.val) = true → insU (UInt8.ofNat n.val) = false ∧ UInt8.ofNat n.val ≠ 45 ∧ (UInt8.ofNat n.val).toNat < 128 ∧ charB (UInt8.ofNat n.val).toNat = true := by decide +kernel
  have := h1 ⟨b.toNat, b.toNat_lt⟩
  simp only [UInt8.ofNat_toNat] at this
  exact this h
theorem escN (b : UInt8) : 34 ∉ escC true b ∧ (39 ∈ escC true b → b = 39) ∧ (60 : UInt8) ∉ escC false b := by
  have h1 : ∀ n : Fin 256, 34 ∉ escC true (UInt8.ofNat n.val) ∧ (39 ∈ escC true (UInt8.ofNat n.val) → UInt8.ofNat n.val = 39) ∧ (60 : UInt8) ∉ escC false (UInt8.ofNat n.val) := by decide +kernel
  have := h1 ⟨b.toNat, b.toNat_lt⟩
  simpa only [UInt8.ofNat_toNat] using this
theorem name_has {n : ByteArray} (h : nameM n = true) : (∃ x r, n.data.toList = x :: r) ∧ ∀ b ∈ n.data.toList, insU b = true := by
  unfold nameM at h
  simp only [Bool.and_eq_true, Bool.not_eq_true', decide_eq_true_eq, List.all_eq_true] at h
  obtain ⟨⟨⟨h1, _⟩, _⟩, h4⟩ := h
  refine ⟨?_, h4⟩
  rw [Lib.toList_data] at h1
  cases hq : n.data.toList with
  | nil => rw [hq] at h1; cases h1
  | cons x r => exact ⟨x, r, rfl⟩

/-- A text of characters. -/
def Txt (l : List UInt8) : Prop := ∃ cs : List Nat, l = cs.flatMap encL ∧ ∀ c ∈ cs, charB c = true
theorem Txt.app {a b : List UInt8} (h1 : Txt a) (h2 : Txt b) : Txt (a ++ b) := by
  obtain ⟨x, rfl, hx⟩ := h1
  obtain ⟨y, rfl, hy⟩ := h2
  exact ⟨x ++ y, by rw [List.flatMap_append], by intro c hc; rcases List.mem_append.1 hc with h | h; exact hx c h; exact hy c h⟩
theorem Txt.ascii : ∀ {l : List UInt8}, (∀ b ∈ l, b.toNat < 128 ∧ charB b.toNat = true) → Txt l
  | [], _ => ⟨[], rfl, by simp⟩
  | b :: l, h => by
    have h1 := h b (by simp)
    have h2 : Txt l := Txt.ascii (fun c hc => h c (by simp [hc]))
    refine Txt.app (a := [b]) ⟨[b.toNat], ?_, by simpa using h1.2⟩ h2
    rw [List.flatMap_cons, encL_ascii h1.1]; simp
theorem Txt.cons {b : UInt8} {l : List UInt8} (hb : b.toNat < 128 ∧ charB b.toNat = true) (h : Txt l) : Txt (b :: l) := Txt.app (a := [b]) (Txt.ascii (by intro c hc; simp at hc; rw [hc]; exact hb)) h
theorem Txt.esc {a : Bool} {s : ByteArray} (h : (chars s.data.toList).isSome = true) : Txt (escT a s.data.toList) := by
  obtain ⟨cs, hc⟩ := Option.isSome_iff_exists.1 h
  obtain ⟨h1, h2, _⟩ := chars_parts hc
  obtain ⟨ds, hd⟩ := escT_text a h1 h2
  obtain ⟨h3, h4⟩ := chars_bytes _ _ ds (Nat.le_refl _) hd
  exact ⟨ds, h3, h4⟩
theorem Txt.ok {S : ByteArray} (h : Txt S.data.toList) : textB S = true := by
  obtain ⟨cs, h1, h2⟩ := h
  rw [textB_chars, h1, chars_of _ h2]; rfl
theorem unesc_esc {a : Bool} {s : ByteArray} (h : (chars s.data.toList).isSome = true) : unescO a ⟨(escT a s.data.toList).toArray⟩ = some s := by
  obtain ⟨cs, hc⟩ := Option.isSome_iff_exists.1 h
  obtain ⟨h1, h2, _⟩ := chars_parts hc
  obtain ⟨ds, hd⟩ := escT_text a h1 h2
  unfold unescO
  rw [show (⟨(escT a s.data.toList).toArray⟩ : ByteArray).data.toList = escT a s.data.toList from List.toList_toArray, hd]
  show (unes (plainL a (escT a s.data.toList))).map _ = _
  rw [esc_back]; rfl

section
variable {S : ByteArray} {B : List UInt8} {q : UInt8}
theorem name_at {n : ByteArray} {X : List UInt8} {i : Nat} (hn : nameM n = true) (h : S.data.toList.drop i = n.data.toList ++ X) (hX : ∀ b ∈ X.head?, insU b = false) : insE S i = i + n.data.toList.length ∧ S.extract i (insE S i) = n := by
  have e := spE_of h (name_has hn).2 hX
  refine ⟨e, ?_⟩
  show S.extract i (spE insU S.data.toList i) = n
  rw [e, ext_of h]
theorem blk_at {X : List UInt8} {i : Nat} (hB : ∀ b ∈ B, blkB b = true) (h : S.data.toList.drop i = B ++ X) (hX : ∀ b ∈ X.head?, blkB b = false) : blkE S i = i + B.length := spE_of h hB hX
theorem blank_head {x : UInt8} {X : List UInt8} (hB : ∀ b ∈ B, blkB b = true) (hx : insU x = false) : ∀ b ∈ (B ++ x :: X).head?, insU b = false := by
  cases B with
  | nil => intro b hb; cases hb; exact hx
  | cons c B => intro b hb; cases hb; exact (blkN (hB c (by simp))).1
theorem note_spelled {X : List UInt8} {i : Nat} (hB : ∀ b ∈ B, blkB b = true) (h : S.data.toList.drop i = 60 :: 33 :: 45 :: 45 :: (B ++ 45 :: 45 :: 62 :: X)) : pieceF S i = some ([], i + (B.length + 7)) := by
  unfold pieceF
  rw [if_pos (atP_of (X := B ++ 45 :: 45 :: 62 :: X) h)]
  have h4 : S.data.toList.drop (i + 4) = B ++ [45, 45] ++ (62 :: X) := by
    have e : S.data.toList.drop (i + 4) = B ++ 45 :: 45 :: 62 :: X := drop_app (a := [60, 33, 45, 45]) h
    rw [e]; simp
  unfold noteF
  rw [h4, fnd_of (fun hc => (blkN (hB _ hc)).2.1 rfl)]
  have h5 : S.data.toList.drop (i + 4 + B.length + 2) = [62] ++ X := by
    have := drop_app (a := B ++ [45, 45]) h4
    rw [List.length_append, ← Nat.add_assoc] at this
    exact this
  dsimp only
  rw [if_pos (atP_of h5)]
  simp only [Option.map_some, Option.some.injEq, Prod.mk.injEq, true_and]
  omega
theorem data_spelled {t : ByteArray} {X : List UInt8} {i : Nat} (ht : (chars t.data.toList).isSome = true) (hne : t.data.toList ≠ []) (h : S.data.toList.drop i = escT false t.data.toList ++ 60 :: X) : pieceF S i = some ([evData t], i + (escT false t.data.toList).length) := by
  have h60 : ∀ b ∈ escT false t.data.toList, b ≠ 60 := by
    rw [escT_map]
    intro b hb e
    obtain ⟨c, _, hc⟩ := List.mem_flatMap.1 hb
    rw [e] at hc
    exact (escN c).2.2 hc
  have e := spE_of (p := notLt) h (fun b hb => by unfold notLt; simpa using h60 b hb) (by intro b hb; cases hb; rfl)
  obtain ⟨b, r, hb⟩ : ∃ b r, escT false t.data.toList = b :: r := by
    cases hq : escT false t.data.toList with
    | cons b r => exact ⟨b, r, rfl⟩
    | nil =>
      exfalso
      have := esc_back false t.data.toList
      rw [plain_esc, hq, unes_nil] at this
      exact hne (Option.some.inj this).symm
  have hb1 := h60 b (by rw [hb]; simp)
  have h' : S.data.toList.drop i = b :: (r ++ 60 :: X) := by rw [h, hb]; rfl
  unfold pieceF
  rw [if_neg (by rw [atP_no h' (fun e => hb1 e.symm)]; decide), if_neg (by rw [atP_no h' (fun e => hb1 e.symm)]; decide), if_neg (by rw [atP_no h' (fun e => hb1 e.symm)]; decide)]
  unfold dataF
  rw [e, ext_of h, unesc_esc ht]
  rfl
theorem end_spelled {n : ByteArray} {X : List UInt8} {i : Nat} (hn : nameM n = true) (hB : ∀ b ∈ B, blkB b = true) (h : S.data.toList.drop i = 60 :: 47 :: (n.data.toList ++ (B ++ 62 :: X))) : pieceF S i = some ([evClose n], i + (n.data.toList.length + B.length + 3)) := by
  unfold pieceF
  rw [if_neg (by rw [atP_no2 h (by decide)]; decide), if_pos (atP_of (X := n.data.toList ++ (B ++ 62 :: X)) h)]
  have h2 : S.data.toList.drop (i + 2) = n.data.toList ++ (B ++ 62 :: X) := drop_app (a := [60, 47]) h
  obtain ⟨e1, e2⟩ := name_at hn h2 (blank_head hB (by decide +kernel))
  unfold endF
  rw [e2, if_neg (by rw [hn]; decide)]
  have h3 := drop_app h2
  rw [← e1] at h3
  rw [blk_at hB h3 (by intro b hb; cases hb; rfl)]
  have h4 := drop_app h3
  rw [if_pos (atP_of (t := [62]) h4)]
  simp only [Option.map_some, Option.some.injEq, Prod.mk.injEq, true_and]
  omega
theorem open_spelled {n v : ByteArray} {X : List UInt8} {i : Nat} (hn : nameM n = true) (hv : (chars v.data.toList).isSome = true) (hB : ∀ b ∈ B, blkB b = true) (hq : q = 34 ∨ q = 39 ∧ 39 ∉ v.data.toList)
    (h : S.data.toList.drop i = 60 :: (n.data.toList ++ 32 :: (B ++ (n.data.toList ++ (B ++ 61 :: (B ++ q :: (escT true v.data.toList ++ q :: (B ++ 62 :: X)))))))) :
    pieceF S i = some ([evOpen n [(n, v)]], i + (2 * n.data.toList.length + (escT true v.data.toList).length + 4 * B.length + 6)) := by
  obtain ⟨⟨x, r, hx⟩, hins⟩ := name_has hn
  have hx1 := insN (hins x (by rw [hx]; simp))
  have hqe : q ∉ escT true v.data.toList := by
    rw [escT_map]
    intro hm
    obtain ⟨c, hc, hcm⟩ := List.mem_flatMap.1 hm
    rcases hq with rfl | ⟨rfl, h39⟩
    · exact (escN c).1 hcm
    · exact h39 ((escN c).2.1 hcm ▸ hc)
  have h0 : S.data.toList.drop i = 60 :: x :: (r ++ 32 :: (B ++ (n.data.toList ++ (B ++ 61 :: (B ++ q :: (escT true v.data.toList ++ q :: (B ++ 62 :: X))))))) := by
    conv at h => rhs; arg 2; arg 1; rw [hx]
    exact h
  unfold pieceF
  rw [if_neg (by rw [atP_no2 h0 (fun e => hx1.2.2.2.2.1 e.symm)]; decide), if_neg (by rw [atP_no2 h0 (fun e => hx1.2.2.1 e.symm)]; decide), if_pos (atP_of (t := [60]) h)]
  have h1 := drop_one h
  obtain ⟨e1, e2⟩ := name_at hn h1 (by intro b hb; cases hb; decide +kernel)
  unfold openF
  rw [e2, if_neg (by rw [hn]; decide), show S.size + 1 = (S.size - 1) + 1 + 1 from by have := drop_lt h; rw [size_list] at this; omega]
  have h2 := drop_app h1
  rw [← e1] at h2
  -- the attribute's place
  have h3 : S.data.toList.drop (insE S (i + 1)) = (32 :: B) ++ (n.data.toList ++ (B ++ 61 :: (B ++ q :: (escT true v.data.toList ++ q :: (B ++ 62 :: X))))) := h2
  have e3 := blk_at (S := S) (B := 32 :: B) (by intro b hb; rcases List.mem_cons.1 hb with rfl | hb; rfl; exact hB b hb) h3 (by rw [hx]; intro b hb; cases hb; exact hx1.2.2.2.2.2.2.1)
  have h4 := drop_app h3
  rw [← e3] at h4
  have h4' := h4
  rw [hx, List.cons_append] at h4'
  rw [attrsF, if_neg (by rw [atP_no h4' (fun e => hx1.2.1 e.symm)]; decide), if_neg (by rw [atP_no h4' (fun e => hx1.2.2.1 e.symm)]; decide), if_neg (by rw [e3, List.length_cons]; omega)]
  have ha : attrF S (blkE S (insE S (i + 1))) = some ((n, v), blkE S (insE S (i + 1)) + n.data.toList.length + B.length + 1 + B.length + 1 + (escT true v.data.toList).length + 1) := by
    generalize blkE S (insE S (i + 1)) = k at h4
    obtain ⟨f1, f2⟩ := name_at hn h4 (blank_head hB (by decide +kernel))
    unfold attrF
    rw [f2, if_neg (by rw [hn]; decide), f1]
    have h5 := drop_app h4
    have f3 := blk_at hB h5 (by intro b hb; cases hb; rfl)
    have h6 := drop_app h5
    rw [f3, if_neg (by rw [atP_of (t := [61]) h6]; decide)]
    have h7 := drop_one h6
    have hq2 : blkB q = false := by rcases hq with rfl | ⟨rfl, _⟩ <;> rfl
    have f4 := blk_at hB h7 (by intro b hb; cases hb; exact hq2)
    have h8 := drop_app h7
    have f5 : quoF S (k + n.data.toList.length + B.length + 1 + B.length) = some q := by
      unfold quoF
      rcases hq with rfl | ⟨rfl, _⟩
      · rw [if_pos (atP_of (t := [34]) h8)]
      · rw [if_neg (by rw [atP_no h8 (by decide)]; decide), if_pos (atP_of (t := [39]) h8)]
    rw [f4, f5]
    dsimp only
    have h9 := drop_one h8
    have f6 : fndL [q] (escT true v.data.toList ++ q :: (B ++ 62 :: X)) = some (escT true v.data.toList).length := by
      have := fnd_of (c := q) (t := []) (X := B ++ 62 :: X) hqe
      rwa [List.append_assoc] at this
    rw [h9, f6]
    dsimp only
    rw [ext_of h9, unesc_esc hv]
  rw [ha]
  dsimp only
  have hb : S.data.toList.drop (blkE S (insE S (i + 1)) + n.data.toList.length + B.length + 1 + B.length + 1 + (escT true v.data.toList).length + 1) = B ++ 62 :: X := by
    exact drop_one (drop_app (drop_one (drop_app (drop_one (drop_app (drop_app h4))))))
  have e5 := blk_at hB hb (by intro b hb; cases hb; rfl)
  have h10 := drop_app hb
  rw [attrsF, e5, if_pos (atP_of (t := [62]) h10)]
  simp only [Option.map_some, Option.some.injEq, Prod.mk.injEq]
  refine ⟨rfl, ?_⟩
  rw [e3, e1, List.length_cons]
  omega
end

theorem sp_len {p : PartD} {B : List UInt8} {q : UInt8} : spT B q p = [] ∨ 2 ≤ (spT B q p).length := by
  unfold spT
  split
  · right; simp; omega
  split
  · right; simp
  split
  · split
    · left; rfl
    · right; simp
  · right; simp
theorem sp_txt {p : PartD} {B : List UInt8} {q : UInt8} (hp : spOk p = true) (hB : ∀ b ∈ B, blkB b = true) (hq : q = 34 ∨ q = 39) : Txt (spT B q p) := by
  unfold spOk at hp
  simp only [Bool.and_eq_true] at hp
  obtain ⟨⟨hv, ht⟩, hn⟩ := hp
  have hBt : Txt B := Txt.ascii (fun b hb => (blkN (hB b hb)).2.2)
  have hnt : nameM p.n = true → Txt p.n.data.toList := fun h => Txt.ascii (fun b hb => (insN ((name_has h).2 b hb)).2.2.2.2.2.2.2)
  have hqt : q.toNat < 128 ∧ charB q.toNat = true := by rcases hq with rfl | rfl <;> decide
  have h0 : Txt [] := Txt.ascii (by simp)
  have a1 : ∀ b : UInt8, b = 60 ∨ b = 62 ∨ b = 32 ∨ b = 61 ∨ b = 47 ∨ b = 33 ∨ b = 45 → b.toNat < 128 ∧ charB b.toNat = true := by
    rintro b (rfl | rfl | rfl | rfl | rfl | rfl | rfl) <;> decide
  unfold spT
  split
  · rename_i h1
    have hn := hnt (by simpa [h1] using hn)
    exact .cons (a1 _ (by simp)) (hn.app (.cons (a1 _ (by simp)) (hBt.app (hn.app (hBt.app (.cons (a1 _ (by simp)) (hBt.app (.cons hqt ((Txt.esc hv).app (.cons hqt (hBt.app (.cons (a1 _ (by simp)) h0))))))))))))
  split
  · rename_i h1
    have hn := hnt (by simpa [h1] using hn)
    exact .cons (a1 _ (by simp)) (.cons (a1 _ (by simp)) (hn.app (hBt.app (.cons (a1 _ (by simp)) h0))))
  split
  · split
    · exact h0
    · exact (Txt.esc ht).app (Txt.ascii (by decide))
  · exact .cons (a1 _ (by simp)) (.cons (a1 _ (by simp)) (.cons (a1 _ (by simp)) (.cons (a1 _ (by simp)) (hBt.app (Txt.ascii (by decide))))))
theorem sp_txts {B : List UInt8} {q : UInt8} (hB : ∀ b ∈ B, blkB b = true) (hq : q = 34 ∨ q = 39) : ∀ {ps : List PartD}, (∀ p ∈ ps, spOk p = true) → Txt (ps.flatMap (spT B q))
  | [], _ => Txt.ascii (by simp)
  | p :: ps, h => by
    rw [List.flatMap_cons]
    exact (sp_txt (h p (by simp)) hB hq).app (sp_txts hB hq (fun r hr => h r (by simp [hr])))
theorem doc_step {S : ByteArray} {f i j : Nat} {b : UInt8} {X : List UInt8} {out l : List EvD} (h : S.data.toList.drop i = b :: X) (hp : pieceF S i = some (l, j)) : docG S (f + 1) i out = docG S f j (out ++ l) := by
  have := drop_lt h
  rw [size_list] at this
  rw [docG, if_neg (by omega), hp]
theorem doc_spelled {S : ByteArray} {B : List UInt8} {q : UInt8} (hB : ∀ b ∈ B, blkB b = true) : ∀ (ps : List PartD) (f i : Nat) (out : List EvD), (∀ p ∈ ps, spOk p = true) → (q = 34 ∨ q = 39 ∧ ∀ p ∈ ps, 39 ∉ p.v.data.toList) →
    S.data.toList.drop i = ps.flatMap (spT B q) → i ≤ S.size → S.size - i < f → docG S f i out = some (out ++ ps.flatMap spV)
  | [], f, i, out, _, _, h, hi, hf => by
    have hl := congrArg List.length h
    rw [List.length_drop, size_list, List.flatMap_nil, List.length_nil] at hl
    obtain ⟨f, rfl⟩ : ∃ g, f = g + 1 := ⟨f - 1, by omega⟩
    rw [docG, if_pos (by omega)]
    simp
  | p :: ps, f, i, out, hok, hq, h, hi, hf => by
    rw [List.flatMap_cons] at h
    have hp := hok p (by simp)
    have hq1 : q = 34 ∨ q = 39 ∧ 39 ∉ p.v.data.toList := by
      rcases hq with h | ⟨h, h2⟩
      · exact .inl h
      · exact .inr ⟨h, h2 p (by simp)⟩
    have hq2 : q = 34 ∨ q = 39 ∧ ∀ p ∈ ps, 39 ∉ p.v.data.toList := by
      rcases hq with h | ⟨h, h2⟩
      · exact .inl h
      · exact .inr ⟨h, fun r hr => h2 r (by simp [hr])⟩
    have hnext := drop_app h
    have hlen := congrArg List.length h
    rw [List.length_drop, size_list, List.length_append] at hlen
    have IH := fun (f : Nat) (out : List EvD) (hf : S.size - (i + (spT B q p).length) < f) => doc_spelled hB ps f (i + (spT B q p).length) out (fun r hr => hok r (by simp [hr])) hq2 hnext (by omega) hf
    unfold spOk at hp
    simp only [Bool.and_eq_true] at hp
    obtain ⟨⟨hv, ht⟩, hn⟩ := hp
    rw [List.flatMap_cons]
    by_cases k1 : p.k = 1
    · have hn : nameM p.n = true := by simpa [k1] using hn
      have eT : spT B q p = 60 :: (p.n.data.toList ++ 32 :: (B ++ (p.n.data.toList ++ (B ++ 61 :: (B ++ q :: (escT true p.v.data.toList ++ q :: (B ++ [62]))))))) := by unfold spT; rw [if_pos k1]
      have eL : (spT B q p).length = 2 * p.n.data.toList.length + (escT true p.v.data.toList).length + 4 * B.length + 6 := by rw [eT]; simp; omega
      obtain ⟨f, rfl⟩ : ∃ g, f = g + 1 := ⟨f - 1, by omega⟩
      have h' := h
      rw [eT] at h'
      simp only [List.cons_append, List.append_assoc, List.nil_append] at h'
      rw [doc_step h' (open_spelled hn hv hB hq1 h'), ← eL, IH f _ (by omega), show spV p = [evOpen p.n [(p.n, p.v)]] from by unfold spV; rw [if_pos k1]]
      simp
    by_cases k2 : p.k = 2
    · have hn : nameM p.n = true := by simpa [k2] using hn
      have eT : spT B q p = 60 :: 47 :: (p.n.data.toList ++ (B ++ [62])) := by unfold spT; rw [if_neg k1, if_pos k2]
      have eL : (spT B q p).length = p.n.data.toList.length + B.length + 3 := by rw [eT]; simp; omega
      obtain ⟨f, rfl⟩ : ∃ g, f = g + 1 := ⟨f - 1, by omega⟩
      have h' := h
      rw [eT] at h'
      simp only [List.cons_append, List.append_assoc, List.nil_append] at h'
      rw [doc_step h' (end_spelled hn hB h'), ← eL, IH f _ (by omega), show spV p = [evClose p.n] from by unfold spV; rw [if_neg k1, if_pos k2]]
      simp
    by_cases k3 : p.k = 3
    · by_cases k0 : p.t.data.toList = []
      · have eT : spT B q p = [] := by unfold spT; rw [if_neg k1, if_neg k2, if_pos k3, if_pos k0]
        have := IH f out (by rw [eT]; simpa using hf)
        rw [eT] at this
        rw [show spV p = [] from by unfold spV; rw [if_neg k1, if_neg k2, if_pos k3, if_pos k0]]
        exact this
      · have eT : spT B q p = escT false p.t.data.toList ++ [60, 33, 45, 45, 45, 45, 62] := by unfold spT; rw [if_neg k1, if_neg k2, if_pos k3, if_neg k0]
        have eL : (spT B q p).length = (escT false p.t.data.toList).length + 7 := by rw [eT]; simp
        obtain ⟨f, rfl⟩ : ∃ g, f = g + 1 + 1 := ⟨f - 2, by omega⟩
        have h' := h
        rw [eT] at h'
        simp only [List.append_assoc, List.cons_append, List.nil_append] at h'
        have h2 := drop_app h'
        obtain ⟨b, X, hb⟩ : ∃ b X, S.data.toList.drop i = b :: X := by
          cases hq : S.data.toList.drop i with
          | cons b X => exact ⟨b, X, rfl⟩
          | nil => rw [hq] at h'; have := congrArg List.length h'; simp at this
        rw [doc_step hb (data_spelled ht k0 h'), doc_step h2 (note_spelled (B := []) (by simp) h2), List.append_nil]
        have := IH f (out ++ [evData p.t]) (by omega)
        rw [eL] at this
        rw [show spV p = [evData p.t] from by unfold spV; rw [if_neg k1, if_neg k2, if_pos k3, if_neg k0]]
        simp only [List.length_nil, Nat.zero_add, Nat.add_assoc, List.append_assoc] at this ⊢
        exact this
    · have eT : spT B q p = 60 :: 33 :: 45 :: 45 :: (B ++ [45, 45, 62]) := by unfold spT; rw [if_neg k1, if_neg k2, if_neg k3]
      have eL : (spT B q p).length = B.length + 7 := by rw [eT]; simp
      obtain ⟨f, rfl⟩ : ∃ g, f = g + 1 := ⟨f - 1, by omega⟩
      have h' := h
      rw [eT] at h'
      simp only [List.cons_append, List.append_assoc, List.nil_append] at h'
      rw [doc_step h' (note_spelled hB h'), ← eL, List.append_nil, IH f _ (by omega), show spV p = [] from by unfold spV; rw [if_neg k1, if_neg k2, if_neg k3]]
      rfl
theorem sp_first {B : List UInt8} {q : UInt8} {p : PartD} (hp : spOk p = true) {X : List UInt8} (hX : ∀ r, X ≠ 60 :: 63 :: r) : ∀ r, spT B q p ++ X ≠ 60 :: 63 :: r := by
  intro r
  unfold spOk at hp
  simp only [Bool.and_eq_true] at hp
  obtain ⟨⟨hv, ht⟩, hn⟩ := hp
  unfold spT
  split
  · rename_i h1
    have hn : nameM p.n = true := by simpa [h1] using hn
    obtain ⟨⟨x, y, hx⟩, hins⟩ := name_has hn
    have hx1 := insN (hins x (by rw [hx]; simp))
    rw [hx]
    intro e
    simp only [List.cons_append, List.cons.injEq] at e
    exact hx1.2.2.2.2.2.1 e.2.1
  split
  · intro e
    simp only [List.cons_append, List.cons.injEq] at e
    exact absurd e.2.1 (by decide)
  split
  · split
    · exact hX r
    · rename_i k0
      intro e
      cases hq : escT false p.t.data.toList with
      | nil => rw [hq] at e; simp only [List.nil_append, List.cons_append, List.cons.injEq] at e; exact absurd e.2.1 (by decide)
      | cons b l =>
        rw [hq] at e
        simp only [List.cons_append, List.cons.injEq] at e
        have hb : b ∈ escT false p.t.data.toList := by rw [hq]; simp
        rw [escT_map] at hb
        obtain ⟨c, _, hc⟩ := List.mem_flatMap.1 hb
        rw [e.1] at hc
        exact (escN c).2.2 hc
  · intro e
    simp only [List.cons_append, List.cons.injEq] at e
    exact absurd e.2.1 (by decide)
theorem sps_first {B : List UInt8} {q : UInt8} : ∀ {ps : List PartD}, (∀ p ∈ ps, spOk p = true) → ∀ r, ps.flatMap (spT B q) ≠ 60 :: 63 :: r
  | [], _, r => by simp
  | p :: ps, h, r => by
    rw [List.flatMap_cons]
    exact sp_first (h p (by simp)) (sps_first (fun r hr => h r (by simp [hr]))) r
theorem spV_small (p : PartD) : ∀ e ∈ spV p, e.l.length ≤ 1 := by
  unfold spV
  intro e he
  split at he
  · simp at he; rw [he]; simp [evOpen]
  split at he
  · simp at he; rw [he]; simp [evClose]
  split at he
  · split at he
    · simp at he
    · simp at he; rw [he]; simp [evData]
  · simp at he
/-- Spelled pieces are read as they are. -/
theorem mark_spells {S : ByteArray} {B : List UInt8} {q : UInt8} {ps : List PartD} (hB : ∀ b ∈ B, blkB b = true) (hok : ∀ p ∈ ps, spOk p = true) (hq : q = 34 ∨ q = 39 ∧ ∀ p ∈ ps, 39 ∉ p.v.data.toList)
    (h : S.data.toList = ps.flatMap (spT B q)) (hs : S.size ≤ 300000) : markF S = (some (ps.flatMap spV), 0) := by
  have hq3 : q = 34 ∨ q = 39 := by rcases hq with h | ⟨h, _⟩; exact .inl h; exact .inr h
  have ht : textB S = true := by apply Txt.ok; rw [h]; exact sp_txts hB hq3 hok
  have hp : prologF S = some 0 := by
    unfold prologF
    rw [if_pos]
    unfold atP Lib.hasPrefix
    rw [List.drop_zero, h]
    apply Bool.eq_false_iff.2
    intro e
    obtain ⟨r, hr⟩ := List.isPrefixOf_iff_prefix.1 e
    exact sps_first hok _ hr.symm
  have hb : bodyF S = some (ps.flatMap spV) := by
    unfold bodyF
    rw [hp]
    dsimp only
    have := doc_spelled hB ps (S.size + 1) 0 [] hok hq (by rw [List.drop_zero]; exact h) (by omega) (by omega)
    simpa using this
  have hl : ∀ e ∈ ps.flatMap spV, e.l.length ≤ 1 := by
    intro e he
    obtain ⟨p, _, hp⟩ := List.mem_flatMap.1 he
    exact spV_small p e hp
  have h1 : longB (ps.flatMap spV) = false := by
    unfold longB
    rw [List.any_eq_false]
    intro e he
    have := hl e he
    simp only [decide_eq_true_eq]
    omega
  have h2 : dupB (ps.flatMap spV) = false := by
    unfold dupB
    rw [List.any_eq_false]
    intro e he
    have := hl e he
    unfold dupA
    match hq : e.l, this with
    | [], _ => simp
    | [a], _ => simp
    | a :: b :: r, this => simp at this
  unfold markF
  rw [if_neg (by omega), if_neg (by rw [ht]; decide), hb]
  dsimp only
  rw [h1, h2]
  rfl
end Go.Proofs.YtanncakdlflopaaGreatDoor
