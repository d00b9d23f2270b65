/- The walk over the law of the days' texts, and its plain law: the text of a day is read as that day. -/
import Derived.Test.YteigpfdnecfejaaDoorDateTold
import Derived.Test.YteigpfdnecfejaaDoorDateParse2
namespace Go.Proofs.YteigpfdnecfejaaDoor
open Go.RowKit Go.Sort
set_option linter.unusedVariables false

def oct (k : Nat) : UInt8 := UInt8.ofNat (48 + k)
theorem oct_nat {k : Nat} (h : k ≤ 9) : (oct k).toNat = 48 + k := by
  unfold oct
  rw [UInt8.toNat_ofNat']
  omega
theorem oct_dig {k : Nat} (h : k ≤ 9) : Cal.digB (oct k) = true := (Cal.digB_iff _).2 (by rw [oct_nat h]; omega)
theorem oct_val {k : Nat} (h : k ≤ 9) : Lib.digitVal (oct k) = some k := by
  unfold Lib.digitVal
  rw [oct_nat h, if_pos (by omega)]
  congr 1
  omega

theorem val_two {a b : Nat} (ha : a ≤ 9) (hb : b ≤ 9) : Cal.val [oct a, oct b] = a * 10 + b := by
  simp only [Cal.val, Lib.decFrom, oct_val ha, oct_val hb, Option.getD_some]
  omega

theorem val_four {a b c d : Nat} (ha : a ≤ 9) (hb : b ≤ 9) (hc : c ≤ 9) (hd : d ≤ 9) : Cal.val [oct a, oct b, oct c, oct d] = ((a * 10 + b) * 10 + c) * 10 + d := by
  simp only [Cal.val, Lib.decFrom, oct_val ha, oct_val hb, oct_val hc, oct_val hd, Option.getD_some]
  omega

theorem told_list (y m d : Nat) (hy : y ≤ 9999) (hm : m ≤ 99) (hd : d ≤ 99) : (toldB y m d).data.toList = [oct (y / 100 / 10), oct (y / 100 % 10), oct (y % 100 / 10), oct (y % 100 % 10), 45, oct (m / 10), oct (m % 10), 45, oct (d / 10), oct (d % 10)] := by
  unfold toldB
  rw [two_list _ (by omega), two_list _ (by omega), two_list m hm, two_list d hd]
  rfl

theorem told_back (y m d : Nat) (hy : y ≤ 9999) (hm : m ≤ 99) (hd : d ≤ 99) : Cal.shapeB (toldB y m d).data.toList = true ∧ Cal.parY (toldB y m d).data.toList = (y : Int) ∧ Cal.parM (toldB y m d).data.toList = (m : Int) ∧ Cal.parD (toldB y m d).data.toList = (d : Int) := by
  have e1 := oct_dig (show y / 100 / 10 ≤ 9 by omega)
  have e2 := oct_dig (show y / 100 % 10 ≤ 9 by omega)
  have e3 := oct_dig (show y % 100 / 10 ≤ 9 by omega)
  have e4 := oct_dig (show y % 10 ≤ 9 by omega)
  have e5 := oct_dig (show m / 10 ≤ 9 by omega)
  have e6 := oct_dig (show m % 10 ≤ 9 by omega)
  have e7 := oct_dig (show d / 10 ≤ 9 by omega)
  have e8 := oct_dig (show d % 10 ≤ 9 by omega)
  rw [told_list y m d hy hm hd]
  refine ⟨?_, ?_, ?_, ?_⟩
  · simp [Cal.shapeB, Cal.digs, e1, e2, e3, e4, e5, e6, e7, e8]
  · show (Cal.val [oct (y / 100 / 10), oct (y / 100 % 10), oct (y % 100 / 10), oct (y % 100 % 10)] : Int) = y
    rw [val_four (by omega) (by omega) (by omega) (by omega)]
    omega
  · show (Cal.val [oct (m / 10), oct (m % 10)] : Int) = m
    rw [val_two (by omega) (by omega)]
    omega
  · show (Cal.val [oct (d / 10), oct (d % 10)] : Int) = d
    rw [val_two (by omega) (by omega)]
    omega

theorem parse_day {n : Int} (hb : Cal.isB n = true) : Cal.parseV (dayB n).data.toList = n ∧ Cal.parseE (dayB n).data.toList = 0 := by
  obtain ⟨y1, y2, m1, m2, d1, d2⟩ := spl_bd hb
  have hday := Cal.spl_isDay hb
  obtain ⟨y, hy⟩ := Int.eq_ofNat_of_zero_le (show 0 ≤ Cal.splY n by omega)
  obtain ⟨m, hm⟩ := Int.eq_ofNat_of_zero_le (show 0 ≤ Cal.splM n by omega)
  obtain ⟨d, hd⟩ := Int.eq_ofNat_of_zero_le (show 0 ≤ Cal.splD n by omega)
  rw [hy] at y1 y2
  rw [hm] at m1 m2
  rw [hd] at d1 d2
  have HS : dayB n = toldB y m d := by unfold dayB; rw [hb, if_pos rfl, hy, hm, hd, told_eq y m d (by omega) (by omega) (by omega)]
  rw [hy, hm, hd] at hday
  rw [HS]
  obtain ⟨h1, h2, h3, h4⟩ := told_back y m d (by omega) (by omega) (by omega)
  unfold Cal.parseV Cal.parseE Cal.dayV
  rw [h1, h2, h3, h4, if_pos rfl, if_pos rfl, hday.vld, if_pos rfl, if_pos rfl]
  exact ⟨hday.num, rfl⟩

theorem below2 {w a b : World} (h1 : Below w.heap.size w a) (h2 : Below a.heap.size a b) : Below w.heap.size w b := h1.trans (h2.mono h1.size)

set_option maxHeartbeats 1000000 in
theorem dateTexts_walk (s : ByteArray) (n : Int) (w : World) (htab : Lib.TabIs Tryd.prog w "internal/strconv.uint64pow10" .u64 Lib.pow10Tab) :
    Calls Tryd.prog 7 #[.string s, .int .i64 n] w fun e w' => e = .returned (.bool true) ∧ Below w.heap.size w w' := by
  have HT := Lib.hid htab
  clear htab
  have hc : (Hid (Cal.splE n = 1)) ∨ (Hid (Cal.splE n = 0) ∧ Hid (Cal.parseV (dayB n).data.toList = n ∧ Cal.parseE (dayB n).data.toList = 0)) := by
    cases hb : Cal.isB n
    · exact Or.inl (show Cal.splE n = 1 by unfold Cal.splE; rw [hb]; rfl)
    · exact Or.inr ⟨show Cal.splE n = 0 by unfold Cal.splE; rw [hb]; rfl, parse_day hb⟩
  rcases hc with HE | ⟨HE, HP⟩
  all_goals
    go_enter Tryd.func7, Tryd.ntmps7
    go_wp2_with fail
    refine (known_any _ HT.out).mono ?_
    rintro e w1 ⟨rfl, hb1⟩
    have HT1 := Lib.hid (tab_below hb1 HT.out)
    go_wp2_with fail
    refine (rparse_any _ _).mono ?_
    rintro e w' ⟨rfl, rfl⟩
    go_wp2_with fail
    refine (parse_any _ _).mono ?_
    rintro e w2 ⟨rfl, hb2⟩
    have hb12 := below2 hb1 hb2
    have HT2 := Lib.hid (tab_below hb2 HT1.out)
    go_wp2_with fail
    refine (rprint_any _ _).mono ?_
    rintro e w3 ⟨rfl, hb3⟩
    have hb13 := below2 hb12 hb3
    have HT3 := Lib.hid (tab_below hb3 HT2.out)
    go_wp2_with fail
    refine (print_any _ _ HT3.out).mono ?_
    rintro e w4 ⟨rfl, hb4⟩
    have hb14 := below2 hb13 hb4
    rw [HE.out]
  · go_wp2
    go_ret
    exact ⟨rfl, hb14⟩
  · go_wp2_with fail
    refine (parse_any _ _).mono ?_
    rintro e w5 ⟨rfl, hb5⟩
    have hb15 := below2 hb14 hb5
    rw [HP.out.1, HP.out.2]
    go_wp2
    go_ret
    exact ⟨rfl, hb15⟩

end Go.Proofs.YteigpfdnecfejaaDoor
