/- strings.Cut at one byte. (short) Numbers of a row of digits, kept below 2^32: plain. strconv.ParseUint at the bases 10 and 16, 32 bits. (short) -/
import Derived.Test.YtanncakdlflopaaGreatDoorShelf
import Derived.Test.YtanncakdlflopaaGreatDoorEscPlain
import Derived.Test.YtanncakdlflopaaGreatDoorTypes
import Derived.Test.YtanncakdlflopaaGreatDoorTrieB
import Derived.Lib.SlTrimSet
import Derived.Test.YtanncakdlflopaaGreatDoorByteBR
namespace Go.Proofs.YtanncakdlflopaaGreatDoor
open Go.RowKit
set_option linter.unusedVariables false
set_option linter.unusedSimpArgs false
set_option maxRecDepth 100000

theorem idx_cut (c : UInt8) : ∀ l : List UInt8, Lib.indexByte l c = match cutL c l with | some p => (p.1.length : Int) | none => -1
 | [] => rfl
 | x :: r => by
  unfold Lib.indexByte cutL
  by_cases h : x = c
  ·rw [if_pos h, if_pos (by simp [h])]; rfl
  ·rw [if_neg h, if_neg (by simp [h]), idx_cut c r]
   cases cutL c r with
   | none => rfl
   | some p =>
    have : ((p.1.length : Int) == -1) = false := by rw [beq_eq_false_iff_ne]; omega
    simp only [this, Option.map_some]
    simp
def cutV (c : UInt8) (s : ByteArray) : Value := match cutL c s.data.toList with
 | some p => .tuple #[.string ⟨p.1.toArray⟩, .string ⟨p.2.toArray⟩, .bool true]
 | none => .tuple #[.string s, .string ⟨#[]⟩, .bool false]
theorem cutV_none {c : UInt8} {s : ByteArray} (h : cutL c s.data.toList = none) : cutV c s = .tuple #[.string s, .string ⟨#[]⟩, .bool false] := by unfold cutV; rw [h]
theorem cutV_some {c : UInt8} {s : ByteArray} {p : List UInt8 × List UInt8} (h : cutL c s.data.toList = some p) : cutV c s = .tuple #[.string ⟨p.1.toArray⟩, .string ⟨p.2.toArray⟩, .bool true] := by unfold cutV; rw [h]

set_option maxHeartbeats 4000000 in
theorem cut0_any (s : ByteArray) (c : UInt8) (w : World) (hs : s.size ≤ 1099511627776) :
  Calls Tryz.prog 130 #[.string s, .string ⟨#[c]⟩] w fun e w' => e = .returned (cutV c s) ∧ Below w.heap.size w w' := by
 have HI := Lib.hid (fun W => Tryz.stringslite_Index_one s c W)
 cases hc : cutL c s.data.toList with
 | none =>
  have hi : Lib.indexByte s.data.toList c = -1 := by rw [idx_cut, hc]
  rw [hi] at HI
  have HV := Lib.hid (cutV_none hc)
  clear hc hi
  go_enter Tryz.func130, Tryz.ntmps130
  go_wp2_with (first | (go_at_call 114; (refine (HI.out _).mono ?_); rintro e w2 ⟨rfl, rfl⟩))
  go_ret3
  exact ⟨congrArg Ending.returned HV.out.symm, Below.refl _ _⟩
 | some p =>
  have hi : Lib.indexByte s.data.toList c = (p.1.length : Int) := by rw [idx_cut, hc]
  obtain ⟨he, hn⟩ := cutL_some (m := p.1) (t := p.2) hc
  have hsz : p.1.length + 1 ≤ s.size := by
   have := congrArg List.length he
   simp at this
   omega
  have h1 : s.extract 0 p.1.length = ⟨p.1.toArray⟩ := ba_eq (by rw [Lib.extract_data, he]; simp)
  have h2 : s.extract (p.1.length + 1) s.size = ⟨p.2.toArray⟩ := ba_eq (by
   rw [Lib.extract_data, List.take_of_length_le (by simp)]
   rw [he, List.drop_append]
   simp)
  rw [hi] at HI
  have H1 := Lib.hid h1
  have H2 := Lib.hid h2
  have HV := Lib.hid (cutV_some hc)
  have HM := Lib.hid (Mem.start w)
  have hge : decide (0 ≤ (p.1.length : Int)) = true := decide_eq_true (by omega)
  generalize p.1.length = n at *
  clear hc hi he hn h1 h2
  go_enter Tryz.func130, Tryz.ntmps130
  go_wp2_with (first | (go_at_call 114; (refine (HI.out _).mono ?_); rintro e w2 ⟨rfl, rfl⟩))
  refine wp_region_mem (by kernel_rfl) (by kernel_rfl) HM.out ?_; intro hNE; (repeat (any_goals (first | ((with_reducible refine qgd ?_); (with_reducible refine skip_q ?_ ?_ ?_); (exact rfl); (rotate_left; (exact (hNE.elim fun p => ⟨p.W, p, rfl⟩)))) | refine mQ ?_ | ((with_reducible refine qat 15 ?_); (refine qsslh rfl rfl (j := n) rfl (by omega) ?_; rw [H1.out])) | ((with_reducible refine qat 21 ?_); (refine qsslf rfl rfl (i := n + 1) rfl hsz ?_; rw [H2.out])) | go_big_quiet_step (fail) | quiet_step (fail)))); clear hNE; refine wpQuiet_nil ?_; intro W1 HM1; replace HM := Lib.hid HM1; clear HM1
  go_wp2_with fail
  go_ret3
  exact ⟨congrArg Ending.returned HV.out.symm, HM.out.below⟩

set_option maxHeartbeats 4000000 in
theorem cut_any (s : ByteArray) (c : UInt8) (w : World) (hs : s.size ≤ 1099511627776) :
  Calls Tryz.prog 116 #[.string s, .string ⟨#[c]⟩] w fun e w' => e = .returned (cutV c s) ∧ Below w.heap.size w w' := by
 have HC := Lib.hid (fun W => cut0_any s c W hs)
 cases hc : cutL c s.data.toList with
 | none =>
  have HV := Lib.hid (cutV_none hc)
  rw [cutV_none hc] at HC
  clear hc
  go_enter Tryz.func116, Tryz.ntmps116
  go_wp2_with (first | (go_at_call 130; (refine (HC.out _).mono ?_); rintro e w2 ⟨rfl, hb⟩))
  go_ret3
  exact ⟨congrArg Ending.returned HV.out.symm, hb⟩
 | some p =>
  have HV := Lib.hid (cutV_some hc)
  rw [cutV_some hc] at HC
  clear hc
  go_enter Tryz.func116, Tryz.ntmps116
  go_wp2_with (first | (go_at_call 130; (refine (HC.out _).mono ?_); rintro e w2 ⟨rfl, hb⟩))
  go_ret3
  exact ⟨congrArg Ending.returned HV.out.symm, hb⟩
end Go.Proofs.YtanncakdlflopaaGreatDoor

namespace Go.Proofs.YtanncakdlflopaaGreatDoor
set_option linter.unusedVariables false
set_option maxRecDepth 100000

/-- As valL, none where the number doesn't fit into 32 bits. -/
def valB (b : Nat) : Nat → List UInt8 → Option Nat
 | n, [] => some n
 | n, c :: r => match digV c with
  | some d => if d < b then (if n * b + d < 4294967296 then valB b (n * b + d) r else none) else none
  | none => none
theorem valL_ge {b : Nat} (hb : 1 ≤ b) : ∀ {l : List UInt8} {n m : Nat}, valL b n l = some m → n ≤ m
 | [], n, m, h => by simp [valL] at h; omega
 | c :: r, n, m, h => by
  unfold valL at h
  cases hd : digV c with
  | none => rw [hd] at h; simp at h
  | some d =>
   rw [hd] at h
   simp only at h
   by_cases h1 : d < b
   ·rw [if_pos h1] at h
    have := valL_ge hb h
    have h2 : n * 1 ≤ n * b := Nat.mul_le_mul_left n hb
    omega
   ·rw [if_neg h1] at h; cases h
theorem valB_val {b : Nat} (hb : 1 ≤ b) : ∀ {l : List UInt8} {n : Nat}, n < 4294967296 → (∀ m, valB b n l = some m → valL b n l = some m ∧ m < 4294967296) ∧ (valB b n l = none → ∀ m, valL b n l = some m → 4294967296 ≤ m)
 | [], n, hn => ⟨fun m h => by simp [valB] at h; subst h; exact ⟨rfl, hn⟩, fun h => by simp [valB] at h⟩
 | c :: r, n, hn => by
  unfold valB valL
  cases hd : digV c with
  | none => simp
  | some d =>
   simp only
   by_cases h1 : d < b
   ·rw [if_pos h1, if_pos h1]
    by_cases h2 : n * b + d < 4294967296
    ·rw [if_pos h2]
     exact valB_val hb h2
    ·rw [if_neg h2]
     refine ⟨by simp, fun _ m hm => ?_⟩
     have := valL_ge hb hm
     omega
   ·rw [if_neg h1, if_neg h1]
    simp
theorem big_char {m : Nat} (h : 1114111 < m) : charB m = false := charB_f (by omega)
theorem numL_some {b : Nat} (hb : 1 ≤ b) {l : List UInt8} (h0 : l ≠ []) {n : Nat} (h : valB b 0 l = some n) : numL b l = if charB n then some (encL n) else none := by
 unfold numL
 rw [if_neg h0, ((valB_val hb (l := l) (n := 0) (by omega)).1 n h).1]
theorem numL_none {b : Nat} (hb : 1 ≤ b) {l : List UInt8} (h : valB b 0 l = none) : numL b l = none := by
 unfold numL
 by_cases h0 : l = []
 ·rw [if_pos h0]
 rw [if_neg h0]
 cases hv : valL b 0 l with
 | none => rfl
 | some m =>
  have := (valB_val hb (l := l) (n := 0) (by omega)).2 h m hv
  simp only
  rw [big_char (by omega)]
  rfl
theorem valL_not {b : Nat} {c : UInt8} (hc : digV c = none) : ∀ {l : List UInt8} {n : Nat}, c ∈ l → valL b n l = none
 | [], _, h => by simp at h
 | x :: r, n, h => by
  unfold valL
  cases hd : digV x with
  | none => rfl
  | some d =>
   simp only
   have : c ∈ r := by
    rcases List.mem_cons.1 h with rfl | h
    ·rw [hc] at hd; cases hd
    ·exact h
   by_cases h1 : d < b
   ·rw [if_pos h1]; exact valL_not hc this
   ·rw [if_neg h1]
theorem numL_not {b : Nat} {c : UInt8} {l : List UInt8} (hc : digV c = none) (h : c ∈ l) : numL b l = none := by
 unfold numL
 by_cases h0 : l = []
 ·rw [if_pos h0]
 rw [if_neg h0, valL_not hc h]
theorem valB_step {b n d : Nat} {c : UInt8} {r : List UInt8} (hd : digV c = some d) (h1 : d < b) (h2 : n * b + d < 4294967296) : valB b n (c :: r) = valB b (n * b + d) r := by
 show (match digV c with | some d => if d < b then (if n * b + d < 4294967296 then valB b (n * b + d) r else none) else none | none => none) = _
 rw [hd]
 simp only
 rw [if_pos h1, if_pos h2]
theorem valB_over {b n d : Nat} {c : UInt8} {r : List UInt8} (hd : digV c = some d) (h : ¬ (d < b ∧ n * b + d < 4294967296)) : valB b n (c :: r) = none := by
 show (match digV c with | some d => if d < b then (if n * b + d < 4294967296 then valB b (n * b + d) r else none) else none | none => none) = _
 rw [hd]
 simp only
 by_cases h1 : d < b
 ·rw [if_pos h1, if_neg (fun h2 => h ⟨h1, h2⟩)]
 ·rw [if_neg h1]

/-- The digits of both cases. -/
def hexS : List UInt8 := [48, 49, 50, 51, 52, 53, 54, 55, 56, 57, 97, 98, 99, 100, 101, 102, 65, 66, 67, 68, 69, 70]
theorem hex_dig (c : UInt8) : hexS.contains c = (digV c).isSome := by
 have h : ∀ n : Fin 256, hexS.contains (UInt8.ofNat n.val) = (digV (UInt8.ofNat n.val)).isSome := by decide +kernel
 have := h ⟨c.toNat, c.toNat_lt⟩
 simpa using this
theorem drop_keeps {p : UInt8 → Bool} {x : UInt8} (hx : p x = false) : ∀ {l : List UInt8}, x ∈ l → x ∈ l.dropWhile p
 | [], h => by simp at h
 | y :: r, h => by
  rw [List.dropWhile_cons]
  by_cases hy : p y = true
  ·rw [if_pos hy]
   rcases List.mem_cons.1 h with rfl | h
   ·rw [hx] at hy; cases hy
   ·exact drop_keeps hx h
  ·rw [if_neg hy]; exact h
theorem drop_all {p : UInt8 → Bool} : ∀ {l : List UInt8}, (∀ x ∈ l, p x = true) → l.dropWhile p = []
 | [], _ => rfl
 | y :: r, h => by
  rw [List.dropWhile_cons, if_pos (h y (by simp))]
  exact drop_all fun x hx => h x (by simp [hx])
/-- Is the text of digits alone? -/
def digsB (l : List UInt8) : Bool := l.all fun c => (digV c).isSome
theorem trim_digs (l : List UInt8) : (Lib.trimS l hexS == []) = digsB l := by
 cases h : digsB l with
 | true =>
  have ha : ∀ x ∈ l, hexS.contains x = true := fun x hx => by
   rw [hex_dig]
   exact List.all_eq_true.1 h x hx
  have : Lib.trimS l hexS = [] := by
   unfold Lib.trimS Lib.trimRightS
   rw [drop_all (fun x hx => ha x (by simpa using hx))]
   rfl
  rw [this]; rfl
 | false =>
  obtain ⟨x, hx, hn⟩ : ∃ x ∈ l, hexS.contains x = false := by
   have h2 : ¬ ∀ x ∈ l, (digV x).isSome = true := fun ha => by
    rw [show digsB l = true from List.all_eq_true.2 ha] at h
    cases h
   by_cases hc : ∃ x ∈ l, hexS.contains x = false
   ·exact hc
   ·exfalso
    apply h2
    intro x hx
    rw [← hex_dig]
    cases hq : hexS.contains x with
    | true => rfl
    | false => exact absurd ⟨x, hx, hq⟩ hc
  have : x ∈ Lib.trimS l hexS := by
   unfold Lib.trimS Lib.trimLeftS Lib.trimRightS
   exact drop_keeps hn (List.mem_reverse.2 (drop_keeps hn (List.mem_reverse.2 hx)))
  cases ht : Lib.trimS l hexS with
  | nil => rw [ht] at this; simp at this
  | cons a r => rfl
theorem digs_at {l : List UInt8} (h : digsB l = true) {i : Nat} {c : UInt8} (hc : l[i]? = some c) : ∃ d, digV c = some d := by
 have := List.all_eq_true.1 h c (List.mem_of_getElem? hc)
 exact Option.isSome_iff_exists.1 this
theorem digs_not {l : List UInt8} (h : digsB l = false) (b : Nat) : numL b l = none := by
 cases hn : l.find? (fun c => !(digV c).isSome) with
 | none =>
  have := List.find?_eq_none.1 hn
  have h2 : digsB l = true := List.all_eq_true.2 fun x hx => by
   have h3 := this x hx
   cases hq : digV x with
   | none => rw [hq] at h3; simp at h3
   | some d => rfl
  rw [h2] at h; cases h
 | some c =>
  have h1 := List.find?_some hn
  exact numL_not (c := c) (by simpa using h1) (List.mem_of_find?_eq_some hn)
/-- The three kinds of digits. -/
theorem dig_cases {c : UInt8} {d : Nat} (h : digV c = some d) : (48 ≤ c.toNat ∧ c.toNat ≤ 57 ∧ c.toNat = d + 48) ∨ (97 ≤ c.toNat ∧ c.toNat ≤ 102 ∧ c.toNat = d + 87) ∨ (65 ≤ c.toNat ∧ c.toNat ≤ 70 ∧ c.toNat = d + 55) := by
 unfold digV at h
 split at h
 ·simp at h; omega
 split at h
 ·simp at h; omega
 split at h
 ·simp at h; omega
 ·cases h
end Go.Proofs.YtanncakdlflopaaGreatDoor

namespace Go.Proofs.YtanncakdlflopaaGreatDoor
open Go.RowKit
set_option linter.unusedVariables false
set_option linter.unusedSimpArgs false
set_option maxRecDepth 100000

/-- What the inner ParseUint answers. -/
def IntPost (b : Nat) (s : ByteArray) (w : World) (e : Ending) (w' : World) : Prop :=
 ((∃ n, valB b 0 s.data.toList = some n ∧ e = .returned (.tuple #[.int .u64 n, .nilIface])) ∨ (valB b 0 s.data.toList = none ∧ ∃ (v : Int) (k : Int), (k = 1 ∨ k = 2) ∧ e = .returned (.tuple #[.int .u64 v, .iface 208 (.int .i64 k)]))) ∧ Below w.heap.size w w'

theorem low_af {M : Int} (h1 : 97 ≤ M) (h2 : M ≤ 102) : bits .or .u8 M 32 = M := by
 rcases (show M = 97 ∨ M = 98 ∨ M = 99 ∨ M = 100 ∨ M = 101 ∨ M = 102 by omega) with rfl | rfl | rfl | rfl | rfl | rfl <;> decide
theorem low_AF {M : Int} (h1 : 65 ≤ M) (h2 : M ≤ 70) : bits .or .u8 M 32 = M + 32 := by
 rcases (show M = 65 ∨ M = 66 ∨ M = 67 ∨ M = 68 ∨ M = 69 ∨ M = 70 by omega) with rfl | rfl | rfl | rfl | rfl | rfl <;> decide

set_option maxHeartbeats 16000000 in
theorem ipar16_any (s : ByteArray) (w : World) (hs : s.size ≤ 1099511627776) (h0 : 0 < s.size) (hx : digsB s.data.toList = true) :
  Calls Tryz.prog 142 #[.string s, .int .i64 16, .int .i64 32] w fun e w' => IntPost 16 s w e w' := by
 have hrun := run_bytes_of_string (P := Tryz.prog) w 9 62 5 s Tryz.underlying9 Tryz.underlying62 Tryz.underlying5
 have hge := grownCap_ge w s.size 0 5
 generalize grownCap w s.size 0 5 = cap at *
 have hMade := BytesAt.made w 5 s cap hge
 have hb2 : Below w.heap.size w (w.drew.alloc (.cells (bytesRow s cap) 5 ((bytesRow s cap).size, (bytesRow s cap).size + 1))) := (Below.refl _ w).drew.alloc (Nat.le_refl _) _
 obtain ⟨g1, hg1⟩ : ∃ g1, w.heap.size = g1 := ⟨_, rfl⟩
 rw [hg1] at hrun hMade
 generalize w.drew.alloc (.cells (bytesRow s cap) 5 ((bytesRow s cap).size, (bytesRow s cap).size + 1)) = w2 at *
 have HMade := Lib.hid hMade
 have HB2 := Lib.hid hb2
 have HX := Lib.hid hx
 have hne : (s.toList == []) = false := by
  rw [Lib.toList_data]
  cases hl : s.data.toList with
  | nil => have := size_list s; rw [hl] at this; simp at this; omega
  | cons a r => rfl
 have HLo := Lib.hid (fun c W => Tryz.internal_strconv_lower c W)
 clear hMade hb2 hx hg1
 go_enter Tryz.func142, Tryz.ntmps142
 go_wp2_with fail
 go_loopw [12, 15, 16, 17, 13, 101] (fun uv _ _ _ nv iv wr => ∃ (k n : Nat) (A : Int), k ≤ s.size ∧ uv = .bool false ∧ iv = .int .i64 k ∧ nv = .int .u64 A ∧ wr = w2 ∧ Hid (A = (n : Int) ∧ n < 4294967296 ∧ valB 16 0 s.data.toList = valB 16 n (s.data.toList.drop k))) (fun _ _ _ _ _ iv _ => s.size - (intOf iv).toNat)
 case atStart => exact ⟨0, 0, 0, by omega, rfl, rfl, rfl, rfl, Lib.hid ⟨rfl, by omega, rfl⟩⟩
 case round =>
  obtain ⟨k, n, A, hk, rfl, rfl, rfl, rfl, HH⟩ := hrel
  obtain ⟨hA, hn, HV⟩ := HH.out
  clear HH
  have a0 : 0 ≤ A := by omega
  have a1 : A ≤ 4294967295 := by omega
  by_cases hlt : k < s.size
  ·have hcell := HMade.out.cell (at_byte2 hlt)
   obtain ⟨d, hd⟩ := digs_at HX.out (at_byte2 hlt)
   have hdr : s.data.toList.drop k = s[k] :: s.data.toList.drop (k + 1) := by rw [List.drop_eq_getElem_cons (by simpa using hlt)]; rfl
   have hcs := dig_cases hd
   generalize s[k] = c at *
   obtain ⟨M, hM⟩ : ∃ M : Int, (c.toNat : Int) = M := ⟨_, rfl⟩
   rw [hM] at hcell
   rcases hcs with ⟨m1, m2, m3⟩ | ⟨m1, m2, m3⟩ | ⟨m1, m2, m3⟩
   ·as_aux_lemma =>
    have b1 : 48 ≤ M := by omega
    have b2 : M ≤ 57 := by omega
    replace hM : M = (d : Int) + 48 := by omega
    clear m1 m2 m3
    by_cases h2 : n * 16 + d < 4294967296
    ·have HV2 := Lib.hid (show A * 16 + (M - 48) = ((n * 16 + d : Nat) : Int) ∧ n * 16 + d < 4294967296 ∧ _ from ⟨by omega, h2, HV.trans ((congrArg (valB 16 n) hdr).trans (valB_step hd (by omega) h2))⟩)
     have iov : A * 16 + (M - 48) ≤ 4294967295 := by omega
     clear hd hdr HV h2 hA hn hM
     go_wp2_with fail
     go_roundw
     case rel => exact ⟨k + 1, n * 16 + d, _, by omega, rfl, by go_num, rfl, by trivial, HV2⟩
     case measure => simp [intOf]; omega
    ·have HV2 := Lib.hid (HV.trans ((congrArg (valB 16 n) hdr).trans (valB_over hd (fun h => h2 h.2))))
     have iov : 4294967295 < A * 16 + (M - 48) := by omega
     clear hd hdr HV h2 hA hn hM
     go_wp2_with fail
     go_ret2
     exact ⟨.inr ⟨HV2.out, _, 1, .inl rfl, rfl⟩, HB2.out⟩
   ·as_aux_lemma =>
    have b1 : 97 ≤ M := by omega
    have b2 : M ≤ 102 := by omega
    replace hM : M = (d : Int) + 87 := by omega
    clear m1 m2 m3
    have HLc := Lib.hid (low_af b1 b2)
    by_cases h2 : n * 16 + d < 4294967296
    ·have HV2 := Lib.hid (show A * 16 + (M - 97 + 10) = ((n * 16 + d : Nat) : Int) ∧ n * 16 + d < 4294967296 ∧ _ from ⟨by omega, h2, HV.trans ((congrArg (valB 16 n) hdr).trans (valB_step hd (by omega) h2))⟩)
     have iov : A * 16 + (M - 97 + 10) ≤ 4294967295 := by omega
     clear hd hdr HV h2 hA hn hM
     go_wp2_with (first | (go_at_call 150; (refine (HLo.out _ _).mono ?_); rintro e w3 ⟨rfl, rfl⟩; rw [HLc.out]))
     go_roundw
     case rel => exact ⟨k + 1, n * 16 + d, _, by omega, rfl, by go_num, rfl, by trivial, HV2⟩
     case measure => simp [intOf]; omega
    ·have HV2 := Lib.hid (HV.trans ((congrArg (valB 16 n) hdr).trans (valB_over hd (fun h => h2 h.2))))
     have iov : 4294967295 < A * 16 + (M - 97 + 10) := by omega
     clear hd hdr HV h2 hA hn hM
     go_wp2_with (first | (go_at_call 150; (refine (HLo.out _ _).mono ?_); rintro e w3 ⟨rfl, rfl⟩; rw [HLc.out]))
     go_ret2
     exact ⟨.inr ⟨HV2.out, _, 1, .inl rfl, rfl⟩, HB2.out⟩
   ·as_aux_lemma =>
    have b1 : 65 ≤ M := by omega
    have b2 : M ≤ 70 := by omega
    replace hM : M = (d : Int) + 55 := by omega
    clear m1 m2 m3
    have HLc := Lib.hid (low_AF b1 b2)
    by_cases h2 : n * 16 + d < 4294967296
    ·have HV2 := Lib.hid (show A * 16 + (M + 32 - 97 + 10) = ((n * 16 + d : Nat) : Int) ∧ n * 16 + d < 4294967296 ∧ _ from ⟨by omega, h2, HV.trans ((congrArg (valB 16 n) hdr).trans (valB_step hd (by omega) h2))⟩)
     have iov : A * 16 + (M + 32 - 97 + 10) ≤ 4294967295 := by omega
     clear hd hdr HV h2 hA hn hM
     go_wp2_with (first | (go_at_call 150; (refine (HLo.out _ _).mono ?_); rintro e w3 ⟨rfl, rfl⟩; rw [HLc.out]))
     go_roundw
     case rel => exact ⟨k + 1, n * 16 + d, _, by omega, rfl, by go_num, rfl, by trivial, HV2⟩
     case measure => simp [intOf]; omega
    ·have HV2 := Lib.hid (HV.trans ((congrArg (valB 16 n) hdr).trans (valB_over hd (fun h => h2 h.2))))
     have iov : 4294967295 < A * 16 + (M + 32 - 97 + 10) := by omega
     clear hd hdr HV h2 hA hn hM
     go_wp2_with (first | (go_at_call 150; (refine (HLo.out _ _).mono ?_); rintro e w3 ⟨rfl, rfl⟩; rw [HLc.out]))
     go_ret2
     exact ⟨.inr ⟨HV2.out, _, 1, .inl rfl, rfl⟩, HB2.out⟩
  ·have hend : s.data.toList.drop k = [] := List.drop_of_length_le (by rw [size_list]; omega)
   rw [hend] at HV
   have HV2 := Lib.hid (show valB 16 0 s.data.toList = some n from HV)
   subst hA
   clear HV hend hn a0 a1
   go_wp2_with fail
   go_ret2
   exact ⟨.inl ⟨n, HV2.out, rfl⟩, HB2.out⟩

set_option maxHeartbeats 16000000 in
theorem ipar10_any (s : ByteArray) (w : World) (hs : s.size ≤ 1099511627776) (h0 : 0 < s.size) (hx : digsB s.data.toList = true) :
  Calls Tryz.prog 142 #[.string s, .int .i64 10, .int .i64 32] w fun e w' => IntPost 10 s w e w' := by
 have hrun := run_bytes_of_string (P := Tryz.prog) w 9 62 5 s Tryz.underlying9 Tryz.underlying62 Tryz.underlying5
 have hge := grownCap_ge w s.size 0 5
 generalize grownCap w s.size 0 5 = cap at *
 have hMade := BytesAt.made w 5 s cap hge
 have hb2 : Below w.heap.size w (w.drew.alloc (.cells (bytesRow s cap) 5 ((bytesRow s cap).size, (bytesRow s cap).size + 1))) := (Below.refl _ w).drew.alloc (Nat.le_refl _) _
 obtain ⟨g1, hg1⟩ : ∃ g1, w.heap.size = g1 := ⟨_, rfl⟩
 rw [hg1] at hrun hMade
 generalize w.drew.alloc (.cells (bytesRow s cap) 5 ((bytesRow s cap).size, (bytesRow s cap).size + 1)) = w2 at *
 have HMade := Lib.hid hMade
 have HB2 := Lib.hid hb2
 have HX := Lib.hid hx
 have hne : (s.toList == []) = false := by
  rw [Lib.toList_data]
  cases hl : s.data.toList with
  | nil => have := size_list s; rw [hl] at this; simp at this; omega
  | cons a r => rfl
 have HLo := Lib.hid (fun c W => Tryz.internal_strconv_lower c W)
 clear hMade hb2 hx hg1
 go_enter Tryz.func142, Tryz.ntmps142
 go_wp2_with fail
 go_loopw [12, 15, 16, 17, 13, 101] (fun uv _ _ _ nv iv wr => ∃ (k n : Nat) (A : Int), k ≤ s.size ∧ uv = .bool false ∧ iv = .int .i64 k ∧ nv = .int .u64 A ∧ wr = w2 ∧ Hid (A = (n : Int) ∧ n < 4294967296 ∧ valB 10 0 s.data.toList = valB 10 n (s.data.toList.drop k))) (fun _ _ _ _ _ iv _ => s.size - (intOf iv).toNat)
 case atStart => exact ⟨0, 0, 0, by omega, rfl, rfl, rfl, rfl, Lib.hid ⟨rfl, by omega, rfl⟩⟩
 case round =>
  obtain ⟨k, n, A, hk, rfl, rfl, rfl, rfl, HH⟩ := hrel
  obtain ⟨hA, hn, HV⟩ := HH.out
  clear HH
  have a0 : 0 ≤ A := by omega
  have a1 : A ≤ 4294967295 := by omega
  by_cases hlt : k < s.size
  ·have hcell := HMade.out.cell (at_byte2 hlt)
   obtain ⟨d, hd⟩ := digs_at HX.out (at_byte2 hlt)
   have hdr : s.data.toList.drop k = s[k] :: s.data.toList.drop (k + 1) := by rw [List.drop_eq_getElem_cons (by simpa using hlt)]; rfl
   have hcs := dig_cases hd
   generalize s[k] = c at *
   obtain ⟨M, hM⟩ : ∃ M : Int, (c.toNat : Int) = M := ⟨_, rfl⟩
   rw [hM] at hcell
   rcases hcs with ⟨m1, m2, m3⟩ | ⟨m1, m2, m3⟩ | ⟨m1, m2, m3⟩
   ·as_aux_lemma =>
    have b1 : 48 ≤ M := by omega
    have b2 : M ≤ 57 := by omega
    replace hM : M = (d : Int) + 48 := by omega
    clear m1 m2 m3
    by_cases h2 : n * 10 + d < 4294967296
    ·have HV2 := Lib.hid (show A * 10 + (M - 48) = ((n * 10 + d : Nat) : Int) ∧ n * 10 + d < 4294967296 ∧ _ from ⟨by omega, h2, HV.trans ((congrArg (valB 10 n) hdr).trans (valB_step hd (by omega) h2))⟩)
     have iov : A * 10 + (M - 48) ≤ 4294967295 := by omega
     clear hd hdr HV h2 hA hn hM
     go_wp2_with fail
     go_roundw
     case rel => exact ⟨k + 1, n * 10 + d, _, by omega, rfl, by go_num, rfl, by trivial, HV2⟩
     case measure => simp [intOf]; omega
    ·have HV2 := Lib.hid (HV.trans ((congrArg (valB 10 n) hdr).trans (valB_over hd (fun h => h2 h.2))))
     have iov : 4294967295 < A * 10 + (M - 48) := by omega
     clear hd hdr HV h2 hA hn hM
     go_wp2_with fail
     go_ret2
     exact ⟨.inr ⟨HV2.out, _, 1, .inl rfl, rfl⟩, HB2.out⟩
   ·as_aux_lemma =>
    have b1 : 97 ≤ M := by omega
    have b2 : M ≤ 102 := by omega
    replace hM : M = (d : Int) + 87 := by omega
    clear m1 m2 m3
    have HLc := Lib.hid (low_af b1 b2)
    have HV2 := Lib.hid (HV.trans ((congrArg (valB 10 n) hdr).trans (valB_over hd (fun h => absurd h.1 (by omega)))))
    clear hd hdr HV hA hn hM
    go_wp2_with (first | (go_at_call 150; (refine (HLo.out _ _).mono ?_); rintro e w3 ⟨rfl, rfl⟩; rw [HLc.out]))
    go_ret2
    exact ⟨.inr ⟨HV2.out, _, 2, .inr rfl, rfl⟩, HB2.out⟩
   ·as_aux_lemma =>
    have b1 : 65 ≤ M := by omega
    have b2 : M ≤ 70 := by omega
    replace hM : M = (d : Int) + 55 := by omega
    clear m1 m2 m3
    have HLc := Lib.hid (low_AF b1 b2)
    have HV2 := Lib.hid (HV.trans ((congrArg (valB 10 n) hdr).trans (valB_over hd (fun h => absurd h.1 (by omega)))))
    clear hd hdr HV hA hn hM
    go_wp2_with (first | (go_at_call 150; (refine (HLo.out _ _).mono ?_); rintro e w3 ⟨rfl, rfl⟩; rw [HLc.out]))
    go_ret2
    exact ⟨.inr ⟨HV2.out, _, 2, .inr rfl, rfl⟩, HB2.out⟩
  ·have hend : s.data.toList.drop k = [] := List.drop_of_length_le (by rw [size_list]; omega)
   rw [hend] at HV
   have HV2 := Lib.hid (show valB 10 0 s.data.toList = some n from HV)
   subst hA
   clear HV hend hn a0 a1
   go_wp2_with fail
   go_ret2
   exact ⟨.inl ⟨n, HV2.out, rfl⟩, HB2.out⟩

end Go.Proofs.YtanncakdlflopaaGreatDoor
