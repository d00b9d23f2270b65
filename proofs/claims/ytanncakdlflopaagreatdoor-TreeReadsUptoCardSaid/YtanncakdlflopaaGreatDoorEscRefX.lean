/- The reference's plain, escape and DocEscape. (short) The reference's digit, number and Bytes. (short) -/
import Derived.Test.YtanncakdlflopaaGreatDoorEscPlain
import Derived.Test.YtanncakdlflopaaGreatDoorTrieB
import Derived.Test.YtanncakdlflopaaGreatDoorReplA
import Derived.Test.YtanncakdlflopaaGreatDoorNumA
namespace Go.Proofs.YtanncakdlflopaaGreatDoor
open Go.RowKit
set_option linter.unusedVariables false
set_option linter.unusedSimpArgs false
set_option maxRecDepth 100000

/-- A byte of an attribute. -/
def sp1 (at_ : Bool) (c : UInt8) : UInt8 := if at_ then spB c else c
def nl1 (c : UInt8) (r : List UInt8) : List UInt8 := if c = 13 then (if r.head? = some 10 then [] else [10]) else [c]
theorem plain_cons (at_ : Bool) (c : UInt8) (r : List UInt8) : plainL at_ (c :: r) = (nl1 c r).map (sp1 at_) ++ plainL at_ r := by
  unfold plainL sp1
  show (if at_ = true then (nl1 c r ++ nlL r).map spB else nl1 c r ++ nlL r) = _
  cases at_ with
  | false => simp
  | true => simp
theorem plain_skip {at_ : Bool} {L o r : List UInt8} (h : plainL at_ L = o ++ plainL at_ (13 :: r)) (h10 : r.head? = some 10) : plainL at_ L = o ++ plainL at_ r := by
  rw [h, plain_cons]; simp [nl1, h10]
theorem plain_cr {at_ : Bool} {L o r : List UInt8} (h : plainL at_ L = o ++ plainL at_ (13 :: r)) (h10 : r.head? ≠ some 10) : plainL at_ L = (o ++ [sp1 at_ 10]) ++ plainL at_ r := by
  rw [h, plain_cons]; simp [nl1, h10]
theorem plain_byte {at_ : Bool} {c : UInt8} {L o r : List UInt8} (h : plainL at_ L = o ++ plainL at_ (c :: r)) (hc : c ≠ 13) : plainL at_ L = (o ++ [sp1 at_ c]) ++ plainL at_ r := by
  rw [h, plain_cons]; simp [nl1, hc]
theorem take_bC (o : List UInt8) : (bC o).take (o.length * 1) = bC o := List.take_of_length_le (by rw [bC_len]; omega)
/-- A byte put behind the row. -/
theorem put_row {w0 W : World} {g : Nat} {e : TypeId} {p : Option Addr} {cap : Nat} {o : List UInt8} {X : Int} (h : Mem w0 W [.box g e [.int .u8 X], .row p cap 5 1 (o.length + 1) ((bC o).take (o.length * 1) ++ [.int .u8 X])]) (x : UInt8) (hx : (x.toNat : Int) = X) :
    Mem w0 W [.row p cap 5 1 (o ++ [x]).length (bC (o ++ [x]))] := by
  have h1 := h.sub (.cons _ (.refl _))
  rw [take_bC] at h1
  rw [bC_append, List.length_append]
  subst hx
  exact h1
theorem at_byte3 {s : ByteArray} {k : Nat} (h : k < s.size) : s.data.toList[k]? = some s[k] := by
  rw [List.getElem?_eq_getElem (by simpa using h)]; rfl
theorem ne13 {c : UInt8} {k : UInt8} (h : c ≠ k) : ((c.toNat : Int) == (k.toNat : Int)) = false := by
  rw [beq_eq_false_iff_ne]
  intro e
  exact h (UInt8.toNat_inj.1 (by omega))

set_option maxHeartbeats 16000000 in
theorem rplain_any (s : ByteArray) (at_ : Bool) (w : World) (hs : s.size ≤ 1099511627776) :
    Calls Tryz.prog 92 #[.string s, .bool at_] w fun e w' => e = .returned (.string ⟨(plainL at_ s.data.toList).toArray⟩) ∧ Below w.heap.size w w' := by
  have HM := Lib.hid (Mem.start w)
  have HM := Lib.hid (HM.out.row0 5 1)
  go_enter Tryz.func92, Tryz.ntmps92
  go_wp2_with fail
  go_loopw [5, 6, 7] (fun ov iv _ wr => ∃ (k : Nat) (o : List UInt8) (p : Option Addr) (cap : Nat), ov = .slice p o.length cap ∧ iv = .int .i64 k ∧ k ≤ s.size ∧ o.length ≤ k ∧ Hid (plainL at_ s.data.toList = o ++ plainL at_ (s.data.toList.drop k)) ∧ Hid (Mem w wr [.row p cap 5 1 o.length (bC o)])) (fun _ iv _ _ => s.size - (intOf iv).toNat)
  case atStart => exact ⟨0, [], none, 0, rfl, rfl, by omega, by simp, Lib.hid (by simp), HM⟩
  case round =>
    clear HM
    obtain ⟨k, o, p, cap, rfl, rfl, hk, hol, HP, HM⟩ := hrel
    by_cases hlt : k < s.size
    · have HAt := Lib.hid (at_byte3 hlt)
      have hdr : s.data.toList.drop k = s[k] :: s.data.toList.drop (k + 1) := by rw [List.drop_eq_getElem_cons (by simpa using hlt)]; rfl
      have hP := HP.out
      rw [hdr] at hP
      clear hdr HP
      generalize s[k] = c at *
      by_cases h13 : c = 13
      · subst h13
        have hhd : (s.data.toList.drop (k + 1)).head? = s.data.toList[k + 1]? := by rw [List.head?_drop]
        by_cases hn : k + 1 < s.size
        · have HAt2 := Lib.hid (at_byte3 hn)
          rw [HAt2.out] at hhd
          generalize s[k + 1] = d at *
          have q1 : decide ((k : Int) < (s.size : Int) - 1) = true := decide_eq_true (by omega)
          by_cases h10 : d = 10
          · subst h10
            as_aux_lemma =>
            have HN := Lib.hid (plain_skip hP hhd)
            clear hP hhd
            go_wp2_with (first | ((with_reducible refine iat 16 ?_); (refine six rfl rfl rfl HAt.out ?_)) | ((with_reducible refine iat 28 ?_); (refine six rfl rfl (i := k + 1) rfl HAt2.out ?_)))
            go_roundw
            case rel => exact ⟨k + 1, o, p, cap, rfl, by go_num, by omega, by omega, HN, HM⟩
            case measure => simp [intOf]; omega
          · have q2 : ((d.toNat : Int) == 10) = false := ne13 h10
            have HN := Lib.hid (plain_cr hP (by rw [hhd]; simpa using h10))
            clear hP hhd
            cases at_ with
            | false =>
              as_aux_lemma =>
              go_wp2_with (first | ((with_reducible refine iat 16 ?_); (refine six rfl rfl rfl HAt.out ?_)) | ((with_reducible refine iat 28 ?_); (refine six rfl rfl (i := k + 1) rfl HAt2.out ?_)) | ((with_reducible refine skip_op ?_ ?_); exact rfl) | (refine mL ?_; clear HM; intro g1 W1 HM) | ((with_reducible refine iat 43 ?_); (refine apb rfl HM.out 1 0 rfl rfl rfl rfl rfl rfl (by omega) (by omega) (by omega) ?_; intro p1 cap1 W1 HM1; replace HM := Lib.hid HM1; clear HM1; simp only [List.set] at HM)))
              go_roundw
              case rel => exact ⟨k + 1, o ++ [10], p1, cap1, by simp, by go_num, by omega, by simp; omega, HN, Lib.hid (put_row HM.out 10 rfl)⟩
              case measure => simp [intOf]; omega
            | true =>
              as_aux_lemma =>
              go_wp2_with (first | ((with_reducible refine iat 16 ?_); (refine six rfl rfl rfl HAt.out ?_)) | ((with_reducible refine iat 28 ?_); (refine six rfl rfl (i := k + 1) rfl HAt2.out ?_)) | ((with_reducible refine skip_op ?_ ?_); exact rfl) | (refine mL ?_; clear HM; intro g1 W1 HM) | ((with_reducible refine iat 43 ?_); (refine apb rfl HM.out 1 0 rfl rfl rfl rfl rfl rfl (by omega) (by omega) (by omega) ?_; intro p1 cap1 W1 HM1; replace HM := Lib.hid HM1; clear HM1; simp only [List.set] at HM)))
              go_roundw
              case rel => exact ⟨k + 1, o ++ [32], p1, cap1, by simp, by go_num, by omega, by simp; omega, HN, Lib.hid (put_row HM.out 32 rfl)⟩
              case measure => simp [intOf]; omega
        · have q1 : decide ((k : Int) < (s.size : Int) - 1) = false := decide_eq_false (by omega)
          have HN := Lib.hid (plain_cr hP (by rw [hhd, List.getElem?_eq_none (by rw [size_list]; omega)]; simp))
          clear hP hhd
          cases at_ with
          | false =>
            as_aux_lemma =>
            go_wp2_with (first | ((with_reducible refine iat 16 ?_); (refine six rfl rfl rfl HAt.out ?_)) | ((with_reducible refine skip_op ?_ ?_); exact rfl) | (refine mL ?_; clear HM; intro g1 W1 HM) | ((with_reducible refine iat 43 ?_); (refine apb rfl HM.out 1 0 rfl rfl rfl rfl rfl rfl (by omega) (by omega) (by omega) ?_; intro p1 cap1 W1 HM1; replace HM := Lib.hid HM1; clear HM1; simp only [List.set] at HM)))
            go_roundw
            case rel => exact ⟨k + 1, o ++ [10], p1, cap1, by simp, by go_num, by omega, by simp; omega, HN, Lib.hid (put_row HM.out 10 rfl)⟩
            case measure => simp [intOf]; omega
          | true =>
            as_aux_lemma =>
            go_wp2_with (first | ((with_reducible refine iat 16 ?_); (refine six rfl rfl rfl HAt.out ?_)) | ((with_reducible refine skip_op ?_ ?_); exact rfl) | (refine mL ?_; clear HM; intro g1 W1 HM) | ((with_reducible refine iat 43 ?_); (refine apb rfl HM.out 1 0 rfl rfl rfl rfl rfl rfl (by omega) (by omega) (by omega) ?_; intro p1 cap1 W1 HM1; replace HM := Lib.hid HM1; clear HM1; simp only [List.set] at HM)))
            go_roundw
            case rel => exact ⟨k + 1, o ++ [32], p1, cap1, by simp, by go_num, by omega, by simp; omega, HN, Lib.hid (put_row HM.out 32 rfl)⟩
            case measure => simp [intOf]; omega
      · have q0 : ((c.toNat : Int) == 13) = false := ne13 h13
        have HN := Lib.hid (plain_byte hP h13)
        clear hP
        have hb1 := c.toNat_lt
        cases at_ with
        | false =>
          as_aux_lemma =>
          go_wp2_with (first | ((with_reducible refine iat 16 ?_); (refine six rfl rfl rfl HAt.out ?_)) | ((with_reducible refine skip_op ?_ ?_); exact rfl) | (refine mL ?_; clear HM; intro g1 W1 HM) | ((with_reducible refine iat 43 ?_); (refine apb rfl HM.out 1 0 rfl rfl rfl rfl rfl rfl (by omega) (by omega) (by omega) ?_; intro p1 cap1 W1 HM1; replace HM := Lib.hid HM1; clear HM1; simp only [List.set] at HM)))
          go_roundw
          case rel => exact ⟨k + 1, o ++ [c], p1, cap1, by simp, by go_num, by omega, by simp; omega, HN, Lib.hid (put_row HM.out c rfl)⟩
          case measure => simp [intOf]; omega
        | true =>
          by_cases h9 : c = 9
          · subst h9
            as_aux_lemma =>
            go_wp2_with (first | ((with_reducible refine iat 16 ?_); (refine six rfl rfl rfl HAt.out ?_)) | ((with_reducible refine skip_op ?_ ?_); exact rfl) | (refine mL ?_; clear HM; intro g1 W1 HM) | ((with_reducible refine iat 43 ?_); (refine apb rfl HM.out 1 0 rfl rfl rfl rfl rfl rfl (by omega) (by omega) (by omega) ?_; intro p1 cap1 W1 HM1; replace HM := Lib.hid HM1; clear HM1; simp only [List.set] at HM)))
            go_roundw
            case rel => exact ⟨k + 1, o ++ [32], p1, cap1, by simp, by go_num, by omega, by simp; omega, HN, Lib.hid (put_row HM.out 32 rfl)⟩
            case measure => simp [intOf]; omega
          · by_cases h10 : c = 10
            · subst h10
              as_aux_lemma =>
              go_wp2_with (first | ((with_reducible refine iat 16 ?_); (refine six rfl rfl rfl HAt.out ?_)) | ((with_reducible refine skip_op ?_ ?_); exact rfl) | (refine mL ?_; clear HM; intro g1 W1 HM) | ((with_reducible refine iat 43 ?_); (refine apb rfl HM.out 1 0 rfl rfl rfl rfl rfl rfl (by omega) (by omega) (by omega) ?_; intro p1 cap1 W1 HM1; replace HM := Lib.hid HM1; clear HM1; simp only [List.set] at HM)))
              go_roundw
              case rel => exact ⟨k + 1, o ++ [32], p1, cap1, by simp, by go_num, by omega, by simp; omega, HN, Lib.hid (put_row HM.out 32 rfl)⟩
              case measure => simp [intOf]; omega
            · have HN2 := Lib.hid (show plainL true s.data.toList = (o ++ [c]) ++ plainL true (s.data.toList.drop (k + 1)) by have := HN.out; simp only [sp1, spB, h9, h10, if_true, or_self, if_false] at this; exact this)
              have q9 : ((c.toNat : Int) == 9) = false := ne13 h9
              have q10 : ((c.toNat : Int) == 10) = false := ne13 h10
              clear HN h9 h10 h13
              as_aux_lemma =>
              go_wp2_with (first | ((with_reducible refine iat 16 ?_); (refine six rfl rfl rfl HAt.out ?_)) | ((with_reducible refine skip_op ?_ ?_); exact rfl) | (refine mL ?_; clear HM; intro g1 W1 HM) | ((with_reducible refine iat 43 ?_); (refine apb rfl HM.out 1 0 rfl rfl rfl rfl rfl rfl (by omega) (by omega) (by omega) ?_; intro p1 cap1 W1 HM1; replace HM := Lib.hid HM1; clear HM1; simp only [List.set] at HM)))
              go_roundw
              case rel => exact ⟨k + 1, o ++ [c], p1, cap1, by simp, by go_num, by omega, by simp; omega, HN2, Lib.hid (put_row HM.out c rfl)⟩
              case measure => simp [intOf]; omega
    · have hend : s.data.toList.drop k = [] := List.drop_of_length_le (by rw [size_list]; omega)
      have HN := Lib.hid (show plainL at_ s.data.toList = o by have := HP.out; rw [hend] at this; simpa [plainL, nlL] using this)
      clear HP hend
      as_aux_lemma =>
      go_wp2_with (first | ((with_reducible refine iat 45 ?_); (refine cvr (l := o) (by kernel_rfl) (by kernel_rfl) (by kernel_rfl) rfl rfl (HM.out.get (k := 0) rfl) ?_)))
      go_ret
      exact ⟨by rw [HN.out]; rfl, HM.out.below⟩

set_option maxHeartbeats 8000000 in
theorem resc_any (c : UInt8) (at_ : Bool) (w : World) :
    Calls Tryz.prog 46 #[.int .u8 c.toNat, .bool at_] w fun e w' => e = .returned (.string ⟨(escC at_ c).toArray⟩) ∧ Below w.heap.size w w' := by
  have hcv := fun W t => conv_one W t c
  have hb1 := c.toNat_lt
  by_cases h38 : c = 38
  · subst h38
    cases at_ with
    | true =>
      as_aux_lemma =>
      go_enter Tryz.func46, Tryz.ntmps46
      go_wp2
      go_ret
      exact ⟨rfl, Below.refl _ _⟩
    | false =>
      as_aux_lemma =>
      have hcv2 : ∀ (W : World) (t : TypeId), (convert 62 9 (.slice (some ⟨W.heap.size, 0, none⟩) 1 1)).run Tryz.prog (W.alloc (.cells #[.int .u8 38] t)) = .ok (.string ⟨#[38]⟩) (W.alloc (.cells #[.int .u8 38] t)) := fun W t => conv_one W t 38
      go_enter Tryz.func46, Tryz.ntmps46
      go_wp2
      go_ret
      exact ⟨rfl, Below.refl _ _⟩
  by_cases h60 : c = 60
  · subst h60
    cases at_ with
    | true =>
      as_aux_lemma =>
      go_enter Tryz.func46, Tryz.ntmps46
      go_wp2
      go_ret
      exact ⟨rfl, Below.refl _ _⟩
    | false =>
      as_aux_lemma =>
      have hcv2 : ∀ (W : World) (t : TypeId), (convert 62 9 (.slice (some ⟨W.heap.size, 0, none⟩) 1 1)).run Tryz.prog (W.alloc (.cells #[.int .u8 60] t)) = .ok (.string ⟨#[60]⟩) (W.alloc (.cells #[.int .u8 60] t)) := fun W t => conv_one W t 60
      go_enter Tryz.func46, Tryz.ntmps46
      go_wp2
      go_ret
      exact ⟨rfl, Below.refl _ _⟩
  by_cases h62 : c = 62
  · subst h62
    cases at_ with
    | true =>
      as_aux_lemma =>
      go_enter Tryz.func46, Tryz.ntmps46
      go_wp2
      go_ret
      exact ⟨rfl, Below.refl _ _⟩
    | false =>
      as_aux_lemma =>
      have hcv2 : ∀ (W : World) (t : TypeId), (convert 62 9 (.slice (some ⟨W.heap.size, 0, none⟩) 1 1)).run Tryz.prog (W.alloc (.cells #[.int .u8 62] t)) = .ok (.string ⟨#[62]⟩) (W.alloc (.cells #[.int .u8 62] t)) := fun W t => conv_one W t 62
      go_enter Tryz.func46, Tryz.ntmps46
      go_wp2
      go_ret
      exact ⟨rfl, Below.refl _ _⟩
  by_cases h13 : c = 13
  · subst h13
    cases at_ with
    | true =>
      as_aux_lemma =>
      go_enter Tryz.func46, Tryz.ntmps46
      go_wp2
      go_ret
      exact ⟨rfl, Below.refl _ _⟩
    | false =>
      as_aux_lemma =>
      have hcv2 : ∀ (W : World) (t : TypeId), (convert 62 9 (.slice (some ⟨W.heap.size, 0, none⟩) 1 1)).run Tryz.prog (W.alloc (.cells #[.int .u8 13] t)) = .ok (.string ⟨#[13]⟩) (W.alloc (.cells #[.int .u8 13] t)) := fun W t => conv_one W t 13
      go_enter Tryz.func46, Tryz.ntmps46
      go_wp2
      go_ret
      exact ⟨rfl, Below.refl _ _⟩
  by_cases h34 : c = 34
  · subst h34
    cases at_ with
    | true =>
      as_aux_lemma =>
      go_enter Tryz.func46, Tryz.ntmps46
      go_wp2
      go_ret
      exact ⟨rfl, Below.refl _ _⟩
    | false =>
      as_aux_lemma =>
      have hcv2 : ∀ (W : World) (t : TypeId), (convert 62 9 (.slice (some ⟨W.heap.size, 0, none⟩) 1 1)).run Tryz.prog (W.alloc (.cells #[.int .u8 34] t)) = .ok (.string ⟨#[34]⟩) (W.alloc (.cells #[.int .u8 34] t)) := fun W t => conv_one W t 34
      go_enter Tryz.func46, Tryz.ntmps46
      go_wp2
      go_ret
      exact ⟨rfl, (Below.refl _ w).alloc (Nat.le_refl _) _⟩
  by_cases h9 : c = 9
  · subst h9
    cases at_ with
    | true =>
      as_aux_lemma =>
      go_enter Tryz.func46, Tryz.ntmps46
      go_wp2
      go_ret
      exact ⟨rfl, Below.refl _ _⟩
    | false =>
      as_aux_lemma =>
      have hcv2 : ∀ (W : World) (t : TypeId), (convert 62 9 (.slice (some ⟨W.heap.size, 0, none⟩) 1 1)).run Tryz.prog (W.alloc (.cells #[.int .u8 9] t)) = .ok (.string ⟨#[9]⟩) (W.alloc (.cells #[.int .u8 9] t)) := fun W t => conv_one W t 9
      go_enter Tryz.func46, Tryz.ntmps46
      go_wp2
      go_ret
      exact ⟨rfl, (Below.refl _ w).alloc (Nat.le_refl _) _⟩
  by_cases h10 : c = 10
  · subst h10
    cases at_ with
    | true =>
      as_aux_lemma =>
      go_enter Tryz.func46, Tryz.ntmps46
      go_wp2
      go_ret
      exact ⟨rfl, Below.refl _ _⟩
    | false =>
      as_aux_lemma =>
      have hcv2 : ∀ (W : World) (t : TypeId), (convert 62 9 (.slice (some ⟨W.heap.size, 0, none⟩) 1 1)).run Tryz.prog (W.alloc (.cells #[.int .u8 10] t)) = .ok (.string ⟨#[10]⟩) (W.alloc (.cells #[.int .u8 10] t)) := fun W t => conv_one W t 10
      go_enter Tryz.func46, Tryz.ntmps46
      go_wp2
      go_ret
      exact ⟨rfl, (Below.refl _ w).alloc (Nat.le_refl _) _⟩
  have hE : escC at_ c = [c] := by
    unfold escC
    simp [h38, h60, h62, h13, h34, h9, h10]
  have q38 : ((c.toNat : Int) == 38) = false := ne13 h38
  have q60 : ((c.toNat : Int) == 60) = false := ne13 h60
  have q62 : ((c.toNat : Int) == 62) = false := ne13 h62
  have q13 : ((c.toNat : Int) == 13) = false := ne13 h13
  have q34 : ((c.toNat : Int) == 34) = false := ne13 h34
  have q9 : ((c.toNat : Int) == 9) = false := ne13 h9
  have q10 : ((c.toNat : Int) == 10) = false := ne13 h10
  have HE := Lib.hid hE
  clear hE h38 h60 h62 h13 h34 h9 h10
  cases at_ with
  | true =>
    as_aux_lemma =>
    go_enter Tryz.func46, Tryz.ntmps46
    go_wp2
    go_ret
    exact ⟨by rw [HE.out]; rfl, (Below.refl _ w).alloc (Nat.le_refl _) _⟩
  | false =>
    as_aux_lemma =>
    go_enter Tryz.func46, Tryz.ntmps46
    go_wp2
    go_ret
    exact ⟨by rw [HE.out]; rfl, (Below.refl _ w).alloc (Nat.le_refl _) _⟩

/-- What Escape answers. -/
def escV (at_ : Bool) (s : ByteArray) : Value := match chars s.data.toList with
  | some _ => .tuple #[.string ⟨(escT at_ s.data.toList).toArray⟩, .int .i64 0]
  | none => .tuple #[.string ⟨#[]⟩, .int .i64 2]
theorem escV_some {at_ : Bool} {s : ByteArray} {cs : List Nat} (h : chars s.data.toList = some cs) : escV at_ s = .tuple #[.string ⟨(escT at_ s.data.toList).toArray⟩, .int .i64 0] := by unfold escV; rw [h]
theorem escV_none {at_ : Bool} {s : ByteArray} (h : chars s.data.toList = none) : escV at_ s = .tuple #[.string ⟨#[]⟩, .int .i64 2] := by unfold escV; rw [h]
theorem escT_take {at_ : Bool} {l : List UInt8} {k : Nat} {c : UInt8} (h : l[k]? = some c) : escT at_ (l.take (k + 1)) = escT at_ (l.take k) ++ escC at_ c := by
  rw [escT_map, escT_map, List.take_add_one, h]
  simp
theorem escC_len (at_ : Bool) (c : UInt8) : (escC at_ c).length ≤ 6 := by
  unfold escC
  repeat' split
  all_goals simp

set_option maxHeartbeats 8000000 in
theorem rescape_any (s : ByteArray) (at_ : Bool) (w : World) (hs : s.size ≤ 1073741824) :
    Calls Tryz.prog 31 #[.string s, .bool at_] w fun e w' => e = .returned (escV at_ s) ∧ Below w.heap.size w w' := by
  have HC := Lib.hid (rValid_any s w (by omega))
  cases hc : chars s.data.toList with
  | none =>
    have HT := Lib.hid (text_of_none hc)
    have HV := Lib.hid (escV_none (at_ := at_) hc)
    clear hc
    go_enter Tryz.func31, Tryz.ntmps31
    go_wp2_with fail
    refine HC.out.mono ?_
    rintro e w1 ⟨rfl, hb⟩
    rw [HT.out]
    go_wp2_with fail
    go_ret2
    exact ⟨(congrArg Ending.returned HV.out).symm, hb⟩
  | some cs =>
    have HT := Lib.hid (text_of_some hc)
    have HV := Lib.hid (escV_some (at_ := at_) hc)
    have HEs := Lib.hid (fun c W => resc_any c at_ W)
    clear hc
    go_enter Tryz.func31, Tryz.ntmps31
    go_wp2_with fail
    refine HC.out.mono ?_
    rintro e w1 ⟨rfl, hb⟩
    rw [HT.out]
    have HB1 := Lib.hid hb
    have HM := Lib.hid ((Mem.start w1).row0 5 1)
    clear hb HC
    go_wp2_with fail
    go_loopw [6, 7] (fun ov iv wr => ∃ (k : Nat) (o : List UInt8) (p : Option Addr) (cap : Nat), ov = .slice p o.length cap ∧ iv = .int .i64 k ∧ k ≤ s.size ∧ o.length ≤ 6 * k ∧ Hid (o = escT at_ (s.data.toList.take k)) ∧ Hid (Mem w1 wr [.row p cap 5 1 o.length (bC o)])) (fun _ iv _ => s.size - (intOf iv).toNat)
    case atStart => exact ⟨0, [], none, 0, rfl, rfl, by omega, by simp, Lib.hid (by cases at_ <;> rfl), HM⟩
    case round =>
      clear HM
      obtain ⟨k, o, p, cap, rfl, rfl, hk, hol, HO, HM⟩ := hrel
      by_cases hlt : k < s.size
      · as_aux_lemma =>
        have HAt := Lib.hid (at_byte3 hlt)
        have HO2 := Lib.hid (escT_take (at_ := at_) (at_byte3 hlt))
        have hel := escC_len at_ s[k]
        generalize s[k] = c at *
        have hel2 : (⟨(escC at_ c).toArray⟩ : ByteArray).size = (escC at_ c).length := mk_size _
        obtain ⟨E, hE⟩ : ∃ E : ByteArray, (⟨(escC at_ c).toArray⟩ : ByteArray) = E := ⟨_, rfl⟩
        have HEl := Lib.hid (show E.data.toList = escC at_ c by rw [← hE])
        have HEs2 := Lib.hid (fun W => by have := HEs.out c W; rw [hE] at this; exact this)
        rw [hE] at hel2
        clear hE
        go_wp2_with (first | ((with_reducible refine iat 20 ?_); (refine six rfl rfl rfl HAt.out ?_)) | (go_at_call 46; (refine (HEs2.out _).mono ?_); rintro e w2 ⟨rfl, hb⟩; have HM1 := HM.out.next hb; clear hb HM; have HM := Lib.hid HM1; clear HM1) | ((with_reducible refine iat 23 ?_); (refine aps rfl (by kernel_rfl) HM.out 0 rfl rfl rfl (by omega) ?_; intro p1 cap1 W1 HM1; replace HM := Lib.hid HM1; clear HM1; simp only [List.set] at HM)))
        go_roundw
        case rel => exact ⟨k + 1, o ++ E.data.toList, p1, cap1, by rw [List.length_append, size_list], by go_num, by omega, by rw [List.length_append, size_list]; omega, Lib.hid (by rw [HO2.out, HEl.out, HO.out]), Lib.hid (by rw [List.length_append, size_list, bC_append]; exact HM.out)⟩
        case measure => simp [intOf]; omega
      · have HN := Lib.hid (show escT at_ s.data.toList = o by rw [HO.out, List.take_of_length_le (by rw [size_list]; omega)])
        as_aux_lemma =>
        go_wp2_with (first | ((with_reducible refine iat 25 ?_); (refine cvr (l := o) (by kernel_rfl) (by kernel_rfl) (by kernel_rfl) rfl rfl (HM.out.get (k := 0) rfl) ?_)))
        go_ret2
        exact ⟨by rw [HV.out, HN.out]; rfl, HB1.out.trans (HM.out.below.mono HB1.out.size)⟩
end Go.Proofs.YtanncakdlflopaaGreatDoor

namespace Go.Proofs.YtanncakdlflopaaGreatDoor
open Go.RowKit
set_option linter.unusedVariables false
set_option linter.unusedSimpArgs false
set_option maxRecDepth 100000

def digI (c : UInt8) : Int := match digV c with | some d => (d : Int) | none => -1
theorem digI_some {c : UInt8} {d : Nat} (h : digV c = some d) : digI c = d := by unfold digI; rw [h]
theorem digI_none {c : UInt8} (h : digV c = none) : digI c = -1 := by unfold digI; rw [h]
theorem digV_not {c : UInt8} (h : ¬ (48 ≤ c.toNat ∧ c.toNat ≤ 57)) (h2 : ¬ (97 ≤ c.toNat ∧ c.toNat ≤ 102)) (h3 : ¬ (65 ≤ c.toNat ∧ c.toNat ≤ 70)) : digV c = none := by
  unfold digV; rw [if_neg h, if_neg h2, if_neg h3]

set_option maxHeartbeats 4000000 in
theorem rdig_any (c : UInt8) (w : World) :
    Calls Tryz.prog 125 #[.int .u8 c.toNat] w fun e w' => e = .returned (.int .i64 (digI c)) ∧ w' = w := by
  have hc := c.toNat_lt
  have hs : (48 ≤ c.toNat ∧ c.toNat ≤ 57) ∨ (97 ≤ c.toNat ∧ c.toNat ≤ 102) ∨ (65 ≤ c.toNat ∧ c.toNat ≤ 70) ∨ (c.toNat < 48) ∨ (57 < c.toNat ∧ c.toNat < 65) ∨ (70 < c.toNat ∧ c.toNat < 97) ∨ (102 < c.toNat) := by omega
  rcases hs with ⟨h1, h2⟩ | ⟨h1, h2⟩ | ⟨h1, h2⟩ | h1 | ⟨h1, h2⟩ | ⟨h1, h2⟩ | h1
  · have HV := Lib.hid (show digI c = (c.toNat : Int) - 48 by
      rw [digI_some (d := c.toNat - 48) (by unfold digV; rw [if_pos ⟨h1, h2⟩])]
      omega)
    as_aux_lemma =>
    rw [HV.out]
    obtain ⟨M, hM⟩ : ∃ M : Int, (c.toNat : Int) = M := ⟨_, rfl⟩
    have b1 : 48 ≤ M := by omega
    have b2 : M ≤ 57 := by omega
    rw [hM]
    clear h1 h2 hc HV hM
    go_enter Tryz.func125, Tryz.ntmps125
    go_wp2
    go_ret
    exact ⟨rfl, rfl⟩
  · have HV := Lib.hid (show digI c = (c.toNat : Int) - 97 + 10 by
      rw [digI_some (d := c.toNat - 87) (by unfold digV; rw [if_neg (by omega), if_pos ⟨h1, h2⟩])]
      omega)
    as_aux_lemma =>
    rw [HV.out]
    obtain ⟨M, hM⟩ : ∃ M : Int, (c.toNat : Int) = M := ⟨_, rfl⟩
    have b1 : 97 ≤ M := by omega
    have b2 : M ≤ 102 := by omega
    rw [hM]
    clear h1 h2 hc HV hM
    go_enter Tryz.func125, Tryz.ntmps125
    go_wp2
    go_ret
    exact ⟨rfl, rfl⟩
  · have HV := Lib.hid (show digI c = (c.toNat : Int) - 65 + 10 by
      rw [digI_some (d := c.toNat - 55) (by unfold digV; rw [if_neg (by omega), if_neg (by omega), if_pos ⟨h1, h2⟩])]
      omega)
    as_aux_lemma =>
    rw [HV.out]
    obtain ⟨M, hM⟩ : ∃ M : Int, (c.toNat : Int) = M := ⟨_, rfl⟩
    have b1 : 65 ≤ M := by omega
    have b2 : M ≤ 70 := by omega
    rw [hM]
    clear h1 h2 hc HV hM
    go_enter Tryz.func125, Tryz.ntmps125
    go_wp2
    go_ret
    exact ⟨rfl, rfl⟩
  · have HV := Lib.hid (digI_none (digV_not (c := c) (by omega) (by omega) (by omega)))
    as_aux_lemma =>
    rw [HV.out]
    obtain ⟨M, hM⟩ : ∃ M : Int, (c.toNat : Int) = M := ⟨_, rfl⟩
    have b1 : 0 ≤ M := by omega
    have b2 : M ≤ 47 := by omega
    rw [hM]
    clear h1 hc HV hM
    go_enter Tryz.func125, Tryz.ntmps125
    go_wp2
    go_ret
    exact ⟨rfl, rfl⟩
  · have HV := Lib.hid (digI_none (digV_not (c := c) (by omega) (by omega) (by omega)))
    as_aux_lemma =>
    rw [HV.out]
    obtain ⟨M, hM⟩ : ∃ M : Int, (c.toNat : Int) = M := ⟨_, rfl⟩
    have b1 : 58 ≤ M := by omega
    have b2 : M ≤ 64 := by omega
    rw [hM]
    clear h1 hc HV hM
    go_enter Tryz.func125, Tryz.ntmps125
    go_wp2
    go_ret
    exact ⟨rfl, rfl⟩
  · have HV := Lib.hid (digI_none (digV_not (c := c) (by omega) (by omega) (by omega)))
    as_aux_lemma =>
    rw [HV.out]
    obtain ⟨M, hM⟩ : ∃ M : Int, (c.toNat : Int) = M := ⟨_, rfl⟩
    have b1 : 71 ≤ M := by omega
    have b2 : M ≤ 96 := by omega
    rw [hM]
    clear h1 hc HV hM
    go_enter Tryz.func125, Tryz.ntmps125
    go_wp2
    go_ret
    exact ⟨rfl, rfl⟩
  · have HV := Lib.hid (digI_none (digV_not (c := c) (by omega) (by omega) (by omega)))
    as_aux_lemma =>
    rw [HV.out]
    obtain ⟨M, hM⟩ : ∃ M : Int, (c.toNat : Int) = M := ⟨_, rfl⟩
    have b1 : 103 ≤ M := by omega
    have b2 : M ≤ 255 := by omega
    rw [hM]
    clear h1 hc HV hM
    go_enter Tryz.func125, Tryz.ntmps125
    go_wp2
    go_ret
    exact ⟨rfl, rfl⟩

/-- As valL, kept at 1114112. -/
def valS (b : Nat) : Nat → List UInt8 → Option Nat
  | n, [] => some n
  | n, c :: r => match digV c with
    | some d => if d < b then valS b (min (n * b + d) 1114112) r else none
    | none => none
theorem valS_val {b : Nat} (hb : 1 ≤ b) : ∀ {l : List UInt8} (m : Nat), valS b (min m 1114112) l = (valL b m l).map (min · 1114112)
  | [], m => rfl
  | c :: r, m => by
    unfold valS valL
    cases digV c with
    | none => rfl
    | some d =>
      simp only
      by_cases h1 : d < b
      · rw [if_pos h1, if_pos h1, ← valS_val hb]
        congr 1
        by_cases hm : m ≤ 1114112
        · rw [Nat.min_eq_left hm]
        · have h2 : 1114112 * 1 ≤ 1114112 * b := Nat.mul_le_mul_left _ hb
          have h3 : m * 1 ≤ m * b := Nat.mul_le_mul_left _ hb
          have e1 : min m 1114112 = 1114112 := Nat.min_eq_right (by omega)
          have e2 : min (1114112 * b + d) 1114112 = 1114112 := Nat.min_eq_right (by omega)
          have e3 : min (m * b + d) 1114112 = 1114112 := Nat.min_eq_right (by omega)
          rw [e1, e2, e3]
      · rw [if_neg h1, if_neg h1]; rfl
theorem numL_sat {b : Nat} (hb : 1 ≤ b) {l : List UInt8} (h0 : l ≠ []) {n : Nat} (h : valS b 0 l = some n) : numL b l = if charB n then some (encL n) else none := by
  have h2 := valS_val hb (l := l) 0
  rw [Nat.zero_min, h] at h2
  unfold numL
  rw [if_neg h0]
  cases hv : valL b 0 l with
  | none => rw [hv] at h2; cases h2
  | some v =>
    rw [hv] at h2
    have hn : n = min v 1114112 := Option.some.inj h2
    simp only
    by_cases hb : v ≤ 1114111
    · rw [Nat.min_eq_left (by omega)] at hn; rw [hn]
    · rw [Nat.min_eq_right (by omega)] at hn
      have c1 : charB v = false := big_char (m := v) (by omega)
      have c2 : charB n = false := big_char (m := n) (by omega)
      rw [c1, c2]
      simp
theorem numL_satno {b : Nat} (hb : 1 ≤ b) {l : List UInt8} (h : valS b 0 l = none) : numL b l = none := by
  have h2 := valS_val hb (l := l) 0
  rw [Nat.zero_min, h] at h2
  unfold numL
  cases hv : valL b 0 l with
  | none => simp
  | some v => rw [hv] at h2; cases h2
theorem valS_step {b n d : Nat} {c : UInt8} {r : List UInt8} (hd : digV c = some d) (h1 : d < b) : valS b n (c :: r) = valS b (min (n * b + d) 1114112) r := by
  show (match digV c with | some d => if d < b then valS b (min (n * b + d) 1114112) r else none | none => none) = _
  rw [hd]; simp only; rw [if_pos h1]
theorem valS_big {b n d : Nat} {c : UInt8} {r : List UInt8} (hd : digV c = some d) (h1 : ¬ d < b) : valS b n (c :: r) = none := by
  show (match digV c with | some d => if d < b then valS b (min (n * b + d) 1114112) r else none | none => none) = _
  rw [hd]; simp only; rw [if_neg h1]
theorem valS_no {b n : Nat} {c : UInt8} {r : List UInt8} (hd : digV c = none) : valS b n (c :: r) = none := by
  show (match digV c with | some d => if d < b then valS b (min (n * b + d) 1114112) r else none | none => none) = _
  rw [hd]
theorem digV_lt {c : UInt8} {d : Nat} (h : digV c = some d) : d < 16 := by
  rcases dig_cases h with h | h | h <;> omega

/-- What number answers. -/
def RNum (b : Nat) (s : ByteArray) (e : Ending) : Prop :=
  (∃ n : Nat, charB n = true ∧ numL b s.data.toList = some (encL n) ∧ e = .returned (.tuple #[.int .i64 n, .bool true])) ∨ (numL b s.data.toList = none ∧ ∃ x : Int, e = .returned (.tuple #[.int .i64 x, .bool false]))

set_option maxHeartbeats 16000000 in
theorem rnum16 (s : ByteArray) (w : World) (hs : s.size ≤ 1099511627776) :
    Calls Tryz.prog 111 #[.string s, .int .i64 16] w fun e w' => RNum 16 s e ∧ w' = w := by
  go_enter Tryz.func111, Tryz.ntmps111
  go_wp2_with fail
  go_loopw [6, 7, 8] (fun nv iv _ wr => ∃ (k n : Nat) (A : Int), nv = .int .i64 A ∧ iv = .int .i64 k ∧ k ≤ s.size ∧ 0 ≤ A ∧ A ≤ 1114112 ∧ Hid (A = (n : Int) ∧ valS 16 0 s.data.toList = valS 16 n (s.data.toList.drop k)) ∧ w = wr) (fun _ iv _ _ => s.size - (intOf iv).toNat)
  case atStart => exact ⟨0, 0, 0, rfl, rfl, by omega, by omega, by omega, Lib.hid ⟨rfl, rfl⟩, rfl⟩
  case round =>
    obtain ⟨k, n, A, rfl, rfl, hk, a0, a1, HH, rfl⟩ := hrel
    by_cases hlt : k < s.size
    · have HAt := Lib.hid (at_byte3 hlt)
      have hdr : s.data.toList.drop k = s[k] :: s.data.toList.drop (k + 1) := by rw [List.drop_eq_getElem_cons (by simpa using hlt)]; rfl
      obtain ⟨hA, hV⟩ := HH.out
      rw [hdr] at hV
      clear hdr HH
      generalize s[k] = c at *
      cases hd : digV c with
      | none =>
        as_aux_lemma =>
        have HN := Lib.hid (numL_satno (by decide) (hV.trans (valS_no hd)))
        have HD := Lib.hid (fun W => by have := rdig_any c W; rw [digI_none hd] at this; exact this)
        clear hV hA hd
        go_wp2_with (first | ((with_reducible refine iat 17 ?_); (refine six rfl rfl rfl HAt.out ?_)) | (go_at_call 125; (refine (HD.out _).mono ?_); rintro e w2 ⟨rfl, rfl⟩))
        go_ret2
        exact ⟨.inr ⟨HN.out, _, rfl⟩, rfl⟩
      | some d =>
        have hd16 := digV_lt hd
        have HD := Lib.hid (fun W => by have := rdig_any c W; rw [digI_some hd] at this; exact this)
        obtain ⟨D, hD⟩ : ∃ D : Int, (d : Int) = D := ⟨_, rfl⟩
        have HDD := Lib.hid hD
        have d0 : 0 ≤ D := by omega
        have d1 : D ≤ 15 := by omega
        as_aux_lemma =>
        have HN := Lib.hid (show min (A * 16 + D) 1114112 = ((min (n * 16 + d) 1114112 : Nat) : Int) ∧ valS 16 0 s.data.toList = _ from ⟨by omega, hV.trans (valS_step hd (by omega))⟩)
        clear hV hA hd hd16 hD
        go_wp2_with (first | ((with_reducible refine iat 17 ?_); (refine six rfl rfl rfl HAt.out ?_)) | (go_at_call 125; (refine (HD.out _).mono ?_); rintro e w2 ⟨rfl, rfl⟩; rw [HDD.out]))
        go_roundw
        case rel => exact ⟨k + 1, min (n * 16 + d) 1114112, _, rfl, by go_num, by omega, by omega, by omega, HN, trivial⟩
        case measure => simp [intOf]; omega
    · have hend : s.data.toList.drop k = [] := List.drop_of_length_le (by rw [size_list]; omega)
      obtain ⟨hA, hV⟩ := HH.out
      rw [hend] at hV
      have hv : valS 16 0 s.data.toList = some n := hV
      clear HH hend hV
      by_cases h0 : s.size = 0
      · as_aux_lemma =>
        have hl : s.data.toList = [] := List.eq_nil_of_length_eq_zero (by rw [size_list]; exact h0)
        have q0 : (s.toList != []) = false := by rw [Lib.toList_data, hl]; rfl
        have q1 : (s.toList == []) = true := by rw [Lib.toList_data, hl]; rfl
        have HN := Lib.hid (show numL 16 s.data.toList = none by rw [hl]; rfl)
        clear hv hl
        go_wp2_with fail
        go_ret2
        exact ⟨.inr ⟨HN.out, _, rfl⟩, rfl⟩
      · have hl : s.data.toList ≠ [] := fun e => h0 (by rw [← size_list, e]; rfl)
        have q1 : (s.toList == []) = false := by rw [Lib.toList_data]; exact beq_eq_false_iff_ne.2 hl
        have q0 : (s.toList != []) = true := by rw [bne, q1]; rfl
        have hN := numL_sat (by decide) hl hv
        have HCh := Lib.hid (fun W => rChar_any n W (by omega))
        subst hA
        cases hch : charB n with
        | true =>
          as_aux_lemma =>
          rw [hch] at hN HCh
          have HN := Lib.hid hN
          have Hch := Lib.hid hch
          clear hN hch hv hl
          go_wp2_with (first | (go_at_call 90; (refine (HCh.out _).mono ?_); rintro e w2 ⟨rfl, rfl⟩))
          go_ret2
          exact ⟨.inl ⟨n, Hch.out, HN.out, rfl⟩, rfl⟩
        | false =>
          as_aux_lemma =>
          rw [hch] at hN HCh
          have HN := Lib.hid hN
          clear hN hch hv hl
          go_wp2_with (first | (go_at_call 90; (refine (HCh.out _).mono ?_); rintro e w2 ⟨rfl, rfl⟩))
          go_ret2
          exact ⟨.inr ⟨HN.out, _, rfl⟩, rfl⟩

set_option maxHeartbeats 16000000 in
theorem rnum10 (s : ByteArray) (w : World) (hs : s.size ≤ 1099511627776) :
    Calls Tryz.prog 111 #[.string s, .int .i64 10] w fun e w' => RNum 10 s e ∧ w' = w := by
  go_enter Tryz.func111, Tryz.ntmps111
  go_wp2_with fail
  go_loopw [6, 7, 8] (fun nv iv _ wr => ∃ (k n : Nat) (A : Int), nv = .int .i64 A ∧ iv = .int .i64 k ∧ k ≤ s.size ∧ 0 ≤ A ∧ A ≤ 1114112 ∧ Hid (A = (n : Int) ∧ valS 10 0 s.data.toList = valS 10 n (s.data.toList.drop k)) ∧ w = wr) (fun _ iv _ _ => s.size - (intOf iv).toNat)
  case atStart => exact ⟨0, 0, 0, rfl, rfl, by omega, by omega, by omega, Lib.hid ⟨rfl, rfl⟩, rfl⟩
  case round =>
    obtain ⟨k, n, A, rfl, rfl, hk, a0, a1, HH, rfl⟩ := hrel
    by_cases hlt : k < s.size
    · have HAt := Lib.hid (at_byte3 hlt)
      have hdr : s.data.toList.drop k = s[k] :: s.data.toList.drop (k + 1) := by rw [List.drop_eq_getElem_cons (by simpa using hlt)]; rfl
      obtain ⟨hA, hV⟩ := HH.out
      rw [hdr] at hV
      clear hdr HH
      generalize s[k] = c at *
      cases hd : digV c with
      | none =>
        as_aux_lemma =>
        have HN := Lib.hid (numL_satno (by decide) (hV.trans (valS_no hd)))
        have HD := Lib.hid (fun W => by have := rdig_any c W; rw [digI_none hd] at this; exact this)
        clear hV hA hd
        go_wp2_with (first | ((with_reducible refine iat 17 ?_); (refine six rfl rfl rfl HAt.out ?_)) | (go_at_call 125; (refine (HD.out _).mono ?_); rintro e w2 ⟨rfl, rfl⟩))
        go_ret2
        exact ⟨.inr ⟨HN.out, _, rfl⟩, rfl⟩
      | some d =>
        have hd16 := digV_lt hd
        have HD := Lib.hid (fun W => by have := rdig_any c W; rw [digI_some hd] at this; exact this)
        obtain ⟨D, hD⟩ : ∃ D : Int, (d : Int) = D := ⟨_, rfl⟩
        have HDD := Lib.hid hD
        have d0 : 0 ≤ D := by omega
        by_cases h10 : d < 10
        · have d1 : D ≤ 9 := by omega
          as_aux_lemma =>
          have HN := Lib.hid (show min (A * 10 + D) 1114112 = ((min (n * 10 + d) 1114112 : Nat) : Int) ∧ valS 10 0 s.data.toList = _ from ⟨by omega, hV.trans (valS_step hd h10)⟩)
          clear hV hA hd hd16 hD
          go_wp2_with (first | ((with_reducible refine iat 17 ?_); (refine six rfl rfl rfl HAt.out ?_)) | (go_at_call 125; (refine (HD.out _).mono ?_); rintro e w2 ⟨rfl, rfl⟩; rw [HDD.out]))
          go_roundw
          case rel => exact ⟨k + 1, min (n * 10 + d) 1114112, _, rfl, by go_num, by omega, by omega, by omega, HN, trivial⟩
          case measure => simp [intOf]; omega
        · have d1 : 10 ≤ D := by omega
          as_aux_lemma =>
          have HN := Lib.hid (numL_satno (by decide) (hV.trans (valS_big hd h10)))
          clear hV hA hd hd16 hD h10
          go_wp2_with (first | ((with_reducible refine iat 17 ?_); (refine six rfl rfl rfl HAt.out ?_)) | (go_at_call 125; (refine (HD.out _).mono ?_); rintro e w2 ⟨rfl, rfl⟩; rw [HDD.out]))
          go_ret2
          exact ⟨.inr ⟨HN.out, _, rfl⟩, rfl⟩
    · have hend : s.data.toList.drop k = [] := List.drop_of_length_le (by rw [size_list]; omega)
      obtain ⟨hA, hV⟩ := HH.out
      rw [hend] at hV
      have hv : valS 10 0 s.data.toList = some n := hV
      clear HH hend hV
      by_cases h0 : s.size = 0
      · as_aux_lemma =>
        have hl : s.data.toList = [] := List.eq_nil_of_length_eq_zero (by rw [size_list]; exact h0)
        have q0 : (s.toList != []) = false := by rw [Lib.toList_data, hl]; rfl
        have q1 : (s.toList == []) = true := by rw [Lib.toList_data, hl]; rfl
        have HN := Lib.hid (show numL 10 s.data.toList = none by rw [hl]; rfl)
        clear hv hl
        go_wp2_with fail
        go_ret2
        exact ⟨.inr ⟨HN.out, _, rfl⟩, rfl⟩
      · have hl : s.data.toList ≠ [] := fun e => h0 (by rw [← size_list, e]; rfl)
        have q1 : (s.toList == []) = false := by rw [Lib.toList_data]; exact beq_eq_false_iff_ne.2 hl
        have q0 : (s.toList != []) = true := by rw [bne, q1]; rfl
        have hN := numL_sat (by decide) hl hv
        have HCh := Lib.hid (fun W => rChar_any n W (by omega))
        subst hA
        cases hch : charB n with
        | true =>
          as_aux_lemma =>
          rw [hch] at hN HCh
          have HN := Lib.hid hN
          have Hch := Lib.hid hch
          clear hN hch hv hl
          go_wp2_with (first | (go_at_call 90; (refine (HCh.out _).mono ?_); rintro e w2 ⟨rfl, rfl⟩))
          go_ret2
          exact ⟨.inl ⟨n, Hch.out, HN.out, rfl⟩, rfl⟩
        | false =>
          as_aux_lemma =>
          rw [hch] at hN HCh
          have HN := Lib.hid hN
          clear hN hch hv hl
          go_wp2_with (first | (go_at_call 90; (refine (HCh.out _).mono ?_); rintro e w2 ⟨rfl, rfl⟩))
          go_ret2
          exact ⟨.inr ⟨HN.out, _, rfl⟩, rfl⟩
end Go.Proofs.YtanncakdlflopaaGreatDoor
