/- Names, and the fields that a kind leaves zero: both sides. (short) -/
import Derived.Test.YtgobdcmoelcckaaGreatDoorValA
namespace Go.Proofs.YtgobdcmoelcckaaGreatDoor
open Go.RowKit
set_option linter.unusedVariables false
set_option linter.unusedSimpArgs false
set_option maxRecDepth 100000

set_option maxHeartbeats 4000000 in
theorem index_any (p : Option Addr) (c : Nat) (l : List ByteArray) (s : ByteArray) (w : World) (hS : Sl w p (l.flatMap strL)) (hl : l.length ≤ 1048576) : Calls Tryz.prog 60 #[.slice p l.length c, .string s] w fun e w' => e = .returned (.int .i64 (idxI l s)) ∧ RowKit.Below w.heap.size w w' := by
  have HM := Lib.hid (Mem.start w)
  have HS := Lib.hid hS
  obtain ⟨r, hr⟩ : ∃ r, idxI l s = r := ⟨_, rfl⟩
  rw [hr]
  have HR := Lib.hid hr
  clear hS hr
  go_enter Tryz.func60, Tryz.ntmps60
  go_wp2_with fail
  go_loopw [8] (fun iv wr => ∃ i : Nat, iv = .int .i64 i ∧ i ≤ l.length ∧ Hid (∀ j u, j < i → l[j]? = some u → u.toList ≠ s.toList) ∧ Hid (Mem w wr [])) (fun iv _ => l.length - (intOf iv).toNat)
  case atStart => exact ⟨0, rfl, by omega, Lib.hid (fun j u h => by omega), HM⟩
  case round =>
    clear HM
    obtain ⟨i, rfl, hi0, HI, HM⟩ := hrel
    by_cases hlt : i < l.length
    · obtain ⟨x, hx⟩ : ∃ x, l[i]? = some x := ⟨_, List.getElem?_eq_getElem hlt⟩
      obtain ⟨b, rfl, hb⟩ := HS.out.some_at strL_len (by decide) hlt
      have HE := Lib.hid (hb.elem strL 1 strL_len hx)
      have q1 : decide ((i : Int) < l.length) = true := decide_eq_true (by omega)
      by_cases he : s.toList = x.toList
      · have q2 : (s.toList == x.toList) = true := beq_iff_eq.2 he
        have HD := Lib.hid (show (i : Int) = r by rw [← HR.out]; unfold idxI; rw [findS_hit hx he.symm HI.out])
        clear he hx hb
        go_wp2_with (first | (refine ixa rfl rfl rfl hlt ?_) | (refine ldx0 (HM.out.olds HE.out) rfl rfl ?_))
        go_ret
        exact ⟨by rw [← HD.out]; rfl, HM.out.below⟩
      · have q2 : (s.toList == x.toList) = false := beq_false_of_ne he
        have HD := Lib.hid (show ∀ j u, j < i + 1 → l[j]? = some u → u.toList ≠ s.toList from fun j u hj hu => by
          by_cases e : j = i
          · subst e; rw [hx] at hu; rw [← Option.some.inj hu]; exact fun h => he h.symm
          · exact HI.out j u (by omega) hu)
        clear he hx hb
        go_wp2_with (first | (refine ixa rfl rfl rfl hlt ?_) | (refine ldx0 (HM.out.olds HE.out) rfl rfl ?_))
        go_roundw
        case rel => exact ⟨i + 1, by go_num, by omega, HD, HM⟩
        case measure => simp [intOf]; omega
    · obtain rfl : i = l.length := by omega
      have HD := Lib.hid (show (-1 : Int) = r by rw [← HR.out]; unfold idxI; rw [findS_miss HI.out])
      go_wp2
      go_ret
      exact ⟨by rw [← HD.out]; rfl, HM.out.below⟩

set_option maxHeartbeats 4000000 in
theorem contains_any (p : Option Addr) (c n : Nat) (l : List ByteArray) (s : ByteArray) (w : World) (hS : Sl w p (l.flatMap strL)) (hl : l.length ≤ 1048576) (hn : n = l.length) : Calls Tryz.prog 110 #[.slice p n c, .string s] w fun e w' => e = .returned (.bool (decide (0 ≤ idxI l s))) ∧ RowKit.Below w.heap.size w w' := by
  subst hn
  have HM := Lib.hid (Mem.start w)
  obtain ⟨r, hr⟩ : ∃ r, idxI l s = r := ⟨_, rfl⟩
  have HC := Lib.hid (fun W (hb : RowKit.Below w.heap.size w W) => hr ▸ index_any p c l s W (hS.below' hb) hl)
  rw [hr]
  clear hr hS
  go_enter Tryz.func110, Tryz.ntmps110
  by_cases h0 : 0 ≤ r
  · have q1 : decide (0 ≤ r) = true := decide_eq_true h0
    go_wp2_with (first | (go_at_call 60; (with_reducible refine cB HM (HC.out _ HM.out.below) ?_); clear HM; intro W1 HM))
    go_ret
    exact ⟨by simp [h0], HM.out.below⟩
  · have q1 : decide (0 ≤ r) = false := decide_eq_false h0
    go_wp2_with (first | (go_at_call 60; (with_reducible refine cB HM (HC.out _ HM.out.below) ?_); clear HM; intro W1 HM))
    go_ret
    exact ⟨by simp [h0], HM.out.below⟩

set_option maxHeartbeats 4000000 in
theorem vnames_any (p : Option Addr) (c : Nat) (l : List ByteArray) (w : World) (hS : Sl w p (l.flatMap strL)) (hl : l.length ≤ 1048576) (hc : l.length ≤ c) : Calls Tryz.prog 68 #[.slice p l.length c] w fun e w' => e = .returned (.bool (namesB l)) ∧ RowKit.Below w.heap.size w w' := by
  have HM := Lib.hid (Mem.start w)
  have HS := Lib.hid hS
  obtain ⟨r, hr⟩ : ∃ r, namesB l = r := ⟨_, rfl⟩
  rw [hr]
  have HR := Lib.hid hr
  clear hS hr
  go_enter Tryz.func68, Tryz.ntmps68
  go_wp2_with fail
  go_loopw [7] (fun iv wr => ∃ i : Nat, iv = .int .i64 i ∧ i ≤ l.length ∧ Hid (namesB (l.take i) = true) ∧ Hid (Mem w wr [])) (fun iv _ => l.length - (intOf iv).toNat)
  case atStart => exact ⟨0, rfl, by omega, Lib.hid (by simp [namesB]), HM⟩
  case round =>
    clear HM
    obtain ⟨i, rfl, hi0, HI, HM⟩ := hrel
    by_cases hlt : i < l.length
    · obtain ⟨x, hx⟩ : ∃ x, l[i]? = some x := ⟨_, List.getElem?_eq_getElem hlt⟩
      obtain ⟨b, rfl, hb⟩ := HS.out.some_at strL_len (by decide) hlt
      have HE := Lib.hid (hb.elem strL 1 strL_len hx)
      have HT := Lib.hid (take_get hx)
      have q1 : decide ((i : Int) < l.length) = true := decide_eq_true (by omega)
      obtain ⟨a1, h1⟩ : ∃ a, nameB x = a := ⟨_, rfl⟩
      obtain ⟨a2, h2⟩ : ∃ a, decide (0 ≤ idxI (l.take i) x) = a := ⟨_, rfl⟩
      have HN := Lib.hid (show namesB (l.take (i + 1)) = (a1 && !a2) by rw [HT.out, namesB_snoc, HI.out, h1, h2]; simp)
      have HC1 := Lib.hid (fun W => h1 ▸ name_any x W)
      have HC2 := Lib.hid (fun W (hb : RowKit.Below w.heap.size w W) => h2 ▸ contains_any (some b) c i (l.take i) x W ((HS.out.pre i).below' hb) (by rw [List.length_take]; omega) (by rw [List.length_take]; omega))
      clear h1 h2 hx hb
      cases a1 with
      | false =>
        have HD := Lib.hid (show r = false by
          cases h : r with
          | false => rfl
          | true =>
            have h3 := HR.out.trans h
            rw [← List.take_append_drop (i + 1) l] at h3
            rw [namesB_pre h3] at HN
            cases HN.out)
        go_wp2_with (first | (refine ixa rfl rfl rfl hlt ?_) | (refine ldx0 (HM.out.olds HE.out) rfl rfl ?_) | (go_at_call 109; with_reducible refine cQ (HC1.out _) ?_))
        go_ret
        exact ⟨by rw [HD.out]; rfl, HM.out.below⟩
      | true =>
        cases a2 with
        | true =>
          have HD := Lib.hid (show r = false by
            cases h : r with
            | false => rfl
            | true =>
              have h3 := HR.out.trans h
              rw [← List.take_append_drop (i + 1) l] at h3
              rw [namesB_pre h3] at HN
              cases HN.out)
          go_wp2_with (first | (refine ixa rfl rfl rfl hlt ?_) | (refine ldx0 (HM.out.olds HE.out) rfl rfl ?_) | (refine sltx rfl rfl (m := i) rfl (by omega) ?_) | (go_at_call 109; with_reducible refine cQ (HC1.out _) ?_) | (go_at_call 110; (with_reducible refine cB HM (HC2.out _ HM.out.below) ?_); clear HM; intro W1 HM))
          go_ret
          exact ⟨by rw [HD.out]; rfl, HM.out.below⟩
        | false =>
          go_wp2_with (first | (refine ixa rfl rfl rfl hlt ?_) | (refine ldx0 (HM.out.olds HE.out) rfl rfl ?_) | (refine sltx rfl rfl (m := i) rfl (by omega) ?_) | (go_at_call 109; with_reducible refine cQ (HC1.out _) ?_) | (go_at_call 110; (with_reducible refine cB HM (HC2.out _ HM.out.below) ?_); clear HM; intro W1 HM))
          go_roundw
          case rel => exact ⟨i + 1, by go_num, by omega, HN, HM⟩
          case measure => simp [intOf]; omega
    · obtain rfl : i = l.length := by omega
      have HD := Lib.hid (show r = true by rw [← HR.out]; have := HI.out; rwa [List.take_length] at this)
      go_wp2
      go_ret
      exact ⟨by rw [HD.out]; rfl, HM.out.below⟩
end Go.Proofs.YtgobdcmoelcckaaGreatDoor
