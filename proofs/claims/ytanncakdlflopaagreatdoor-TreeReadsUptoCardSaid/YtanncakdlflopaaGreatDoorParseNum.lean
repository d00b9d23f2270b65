/- strconv.ParseUint at the bases 10 and 16, 32 bits. (short) -/
import Derived.Test.YtanncakdlflopaaGreatDoorNumA
import Derived.Test.YtanncakdlflopaaGreatDoorByteRepl
namespace Go.Proofs.YtanncakdlflopaaGreatDoor
open Go.RowKit
set_option linter.unusedVariables false
set_option linter.unusedSimpArgs false
set_option maxRecDepth 100000

/-- What the inner ParseUint answers. -/
def IntPost (b : Nat) (s : ByteArray) (w : World) (e : Ending) (w' : World) : Prop :=
  ((∃ n, valB b 0 s.data.toList = some n ∧ e = .returned (.tuple #[.int .u64 n, .nilIface])) ∨ (valB b 0 s.data.toList = none ∧ ∃ (v : Int) (k : Int), (k = 1 ∨ k = 2) ∧ e = .returned (.tuple #[.int .u64 v, .iface 208 (.int .i64 k)]))) ∧ Below w.heap.size w w'

theorem low_af {M : Int} (h1 : 97 ≤ M) (h2 : M ≤ 102) : bits .or .u8 M 32 = M := by
  rcases (show M = 97 ∨ M = 98 ∨ M = 99 ∨ M = 100 ∨ M = 101 ∨ M = 102 by omega) with rfl | rfl | rfl | rfl | rfl | rfl <;> decide
theorem low_AF {M : Int} (h1 : 65 ≤ M) (h2 : M ≤ 70) : bits .or .u8 M 32 = M + 32 := by
  rcases (show M = 65 ∨ M = 66 ∨ M = 67 ∨ M = 68 ∨ M = 69 ∨ M = 70 by omega) with rfl | rfl | rfl | rfl | rfl | rfl <;> decide

set_option maxHeartbeats 16000000 in
theorem ipar16_any (s : ByteArray) (w : World) (hs : s.size ≤ 1099511627776) (h0 : 0 < s.size) (hx : digsB s.data.toList = true) :
    Calls Tryz.prog 142 #[.string s, .int .i64 16, .int .i64 32] w fun e w' => IntPost 16 s w e w' := by
  have hrun := run_bytes_of_string (P := Tryz.prog) w 9 62 5 s Tryz.underlying9 Tryz.underlying62 Tryz.underlying5
  have hge := grownCap_ge w s.size 0 5
  generalize grownCap w s.size 0 5 = cap at *
  have hMade := BytesAt.made w 5 s cap hge
  have hb2 : Below w.heap.size w (w.drew.alloc (.cells (bytesRow s cap) 5 ((bytesRow s cap).size, (bytesRow s cap).size + 1))) := (Below.refl _ w).drew.alloc (Nat.le_refl _) _
  obtain ⟨g1, hg1⟩ : ∃ g1, w.heap.size = g1 := ⟨_, rfl⟩
  rw [hg1] at hrun hMade
  generalize w.drew.alloc (.cells (bytesRow s cap) 5 ((bytesRow s cap).size, (bytesRow s cap).size + 1)) = w2 at *
  have HMade := Lib.hid hMade
  have HB2 := Lib.hid hb2
  have HX := Lib.hid hx
  have hne : (s.toList == []) = false := by
    rw [Lib.toList_data]
    cases hl : s.data.toList with
    | nil => have := size_list s; rw [hl] at this; simp at this; omega
    | cons a r => rfl
  have HLo := Lib.hid (fun c W => Tryz.internal_strconv_lower c W)
  clear hMade hb2 hx hg1
  go_enter Tryz.func142, Tryz.ntmps142
  go_wp2_with fail
  go_loopw [12, 15, 16, 17, 13, 101] (fun uv _ _ _ nv iv wr => ∃ (k n : Nat) (A : Int), k ≤ s.size ∧ uv = .bool false ∧ iv = .int .i64 k ∧ nv = .int .u64 A ∧ wr = w2 ∧ Hid (A = (n : Int) ∧ n < 4294967296 ∧ valB 16 0 s.data.toList = valB 16 n (s.data.toList.drop k))) (fun _ _ _ _ _ iv _ => s.size - (intOf iv).toNat)
  case atStart => exact ⟨0, 0, 0, by omega, rfl, rfl, rfl, rfl, Lib.hid ⟨rfl, by omega, rfl⟩⟩
  case round =>
    obtain ⟨k, n, A, hk, rfl, rfl, rfl, rfl, HH⟩ := hrel
    obtain ⟨hA, hn, HV⟩ := HH.out
    clear HH
    have a0 : 0 ≤ A := by omega
    have a1 : A ≤ 4294967295 := by omega
    by_cases hlt : k < s.size
    · have hcell := HMade.out.cell (at_byte2 hlt)
      obtain ⟨d, hd⟩ := digs_at HX.out (at_byte2 hlt)
      have hdr : s.data.toList.drop k = s[k] :: s.data.toList.drop (k + 1) := by rw [List.drop_eq_getElem_cons (by simpa using hlt)]; rfl
      have hcs := dig_cases hd
      generalize s[k] = c at *
      obtain ⟨M, hM⟩ : ∃ M : Int, (c.toNat : Int) = M := ⟨_, rfl⟩
      rw [hM] at hcell
      rcases hcs with ⟨m1, m2, m3⟩ | ⟨m1, m2, m3⟩ | ⟨m1, m2, m3⟩
      · as_aux_lemma =>
        have b1 : 48 ≤ M := by omega
        have b2 : M ≤ 57 := by omega
        replace hM : M = (d : Int) + 48 := by omega
        clear m1 m2 m3
        by_cases h2 : n * 16 + d < 4294967296
        · have HV2 := Lib.hid (show A * 16 + (M - 48) = ((n * 16 + d : Nat) : Int) ∧ n * 16 + d < 4294967296 ∧ _ from ⟨by omega, h2, HV.trans ((congrArg (valB 16 n) hdr).trans (valB_step hd (by omega) h2))⟩)
          have iov : A * 16 + (M - 48) ≤ 4294967295 := by omega
          clear hd hdr HV h2 hA hn hM
          go_wp2_with fail
          go_roundw
          case rel => exact ⟨k + 1, n * 16 + d, _, by omega, rfl, by go_num, rfl, by trivial, HV2⟩
          case measure => simp [intOf]; omega
        · have HV2 := Lib.hid (HV.trans ((congrArg (valB 16 n) hdr).trans (valB_over hd (fun h => h2 h.2))))
          have iov : 4294967295 < A * 16 + (M - 48) := by omega
          clear hd hdr HV h2 hA hn hM
          go_wp2_with fail
          go_ret2
          exact ⟨.inr ⟨HV2.out, _, 1, .inl rfl, rfl⟩, HB2.out⟩
      · as_aux_lemma =>
        have b1 : 97 ≤ M := by omega
        have b2 : M ≤ 102 := by omega
        replace hM : M = (d : Int) + 87 := by omega
        clear m1 m2 m3
        have HLc := Lib.hid (low_af b1 b2)
        by_cases h2 : n * 16 + d < 4294967296
        · have HV2 := Lib.hid (show A * 16 + (M - 97 + 10) = ((n * 16 + d : Nat) : Int) ∧ n * 16 + d < 4294967296 ∧ _ from ⟨by omega, h2, HV.trans ((congrArg (valB 16 n) hdr).trans (valB_step hd (by omega) h2))⟩)
          have iov : A * 16 + (M - 97 + 10) ≤ 4294967295 := by omega
          clear hd hdr HV h2 hA hn hM
          go_wp2_with (first | (go_at_call 150; (refine (HLo.out _ _).mono ?_); rintro e w3 ⟨rfl, rfl⟩; rw [HLc.out]))
          go_roundw
          case rel => exact ⟨k + 1, n * 16 + d, _, by omega, rfl, by go_num, rfl, by trivial, HV2⟩
          case measure => simp [intOf]; omega
        · have HV2 := Lib.hid (HV.trans ((congrArg (valB 16 n) hdr).trans (valB_over hd (fun h => h2 h.2))))
          have iov : 4294967295 < A * 16 + (M - 97 + 10) := by omega
          clear hd hdr HV h2 hA hn hM
          go_wp2_with (first | (go_at_call 150; (refine (HLo.out _ _).mono ?_); rintro e w3 ⟨rfl, rfl⟩; rw [HLc.out]))
          go_ret2
          exact ⟨.inr ⟨HV2.out, _, 1, .inl rfl, rfl⟩, HB2.out⟩
      · as_aux_lemma =>
        have b1 : 65 ≤ M := by omega
        have b2 : M ≤ 70 := by omega
        replace hM : M = (d : Int) + 55 := by omega
        clear m1 m2 m3
        have HLc := Lib.hid (low_AF b1 b2)
        by_cases h2 : n * 16 + d < 4294967296
        · have HV2 := Lib.hid (show A * 16 + (M + 32 - 97 + 10) = ((n * 16 + d : Nat) : Int) ∧ n * 16 + d < 4294967296 ∧ _ from ⟨by omega, h2, HV.trans ((congrArg (valB 16 n) hdr).trans (valB_step hd (by omega) h2))⟩)
          have iov : A * 16 + (M + 32 - 97 + 10) ≤ 4294967295 := by omega
          clear hd hdr HV h2 hA hn hM
          go_wp2_with (first | (go_at_call 150; (refine (HLo.out _ _).mono ?_); rintro e w3 ⟨rfl, rfl⟩; rw [HLc.out]))
          go_roundw
          case rel => exact ⟨k + 1, n * 16 + d, _, by omega, rfl, by go_num, rfl, by trivial, HV2⟩
          case measure => simp [intOf]; omega
        · have HV2 := Lib.hid (HV.trans ((congrArg (valB 16 n) hdr).trans (valB_over hd (fun h => h2 h.2))))
          have iov : 4294967295 < A * 16 + (M + 32 - 97 + 10) := by omega
          clear hd hdr HV h2 hA hn hM
          go_wp2_with (first | (go_at_call 150; (refine (HLo.out _ _).mono ?_); rintro e w3 ⟨rfl, rfl⟩; rw [HLc.out]))
          go_ret2
          exact ⟨.inr ⟨HV2.out, _, 1, .inl rfl, rfl⟩, HB2.out⟩
    · have hend : s.data.toList.drop k = [] := List.drop_of_length_le (by rw [size_list]; omega)
      rw [hend] at HV
      have HV2 := Lib.hid (show valB 16 0 s.data.toList = some n from HV)
      subst hA
      clear HV hend hn a0 a1
      go_wp2_with fail
      go_ret2
      exact ⟨.inl ⟨n, HV2.out, rfl⟩, HB2.out⟩

set_option maxHeartbeats 16000000 in
theorem ipar10_any (s : ByteArray) (w : World) (hs : s.size ≤ 1099511627776) (h0 : 0 < s.size) (hx : digsB s.data.toList = true) :
    Calls Tryz.prog 142 #[.string s, .int .i64 10, .int .i64 32] w fun e w' => IntPost 10 s w e w' := by
  have hrun := run_bytes_of_string (P := Tryz.prog) w 9 62 5 s Tryz.underlying9 Tryz.underlying62 Tryz.underlying5
  have hge := grownCap_ge w s.size 0 5
  generalize grownCap w s.size 0 5 = cap at *
  have hMade := BytesAt.made w 5 s cap hge
  have hb2 : Below w.heap.size w (w.drew.alloc (.cells (bytesRow s cap) 5 ((bytesRow s cap).size, (bytesRow s cap).size + 1))) := (Below.refl _ w).drew.alloc (Nat.le_refl _) _
  obtain ⟨g1, hg1⟩ : ∃ g1, w.heap.size = g1 := ⟨_, rfl⟩
  rw [hg1] at hrun hMade
  generalize w.drew.alloc (.cells (bytesRow s cap) 5 ((bytesRow s cap).size, (bytesRow s cap).size + 1)) = w2 at *
  have HMade := Lib.hid hMade
  have HB2 := Lib.hid hb2
  have HX := Lib.hid hx
  have hne : (s.toList == []) = false := by
    rw [Lib.toList_data]
    cases hl : s.data.toList with
    | nil => have := size_list s; rw [hl] at this; simp at this; omega
    | cons a r => rfl
  have HLo := Lib.hid (fun c W => Tryz.internal_strconv_lower c W)
  clear hMade hb2 hx hg1
  go_enter Tryz.func142, Tryz.ntmps142
  go_wp2_with fail
  go_loopw [12, 15, 16, 17, 13, 101] (fun uv _ _ _ nv iv wr => ∃ (k n : Nat) (A : Int), k ≤ s.size ∧ uv = .bool false ∧ iv = .int .i64 k ∧ nv = .int .u64 A ∧ wr = w2 ∧ Hid (A = (n : Int) ∧ n < 4294967296 ∧ valB 10 0 s.data.toList = valB 10 n (s.data.toList.drop k))) (fun _ _ _ _ _ iv _ => s.size - (intOf iv).toNat)
  case atStart => exact ⟨0, 0, 0, by omega, rfl, rfl, rfl, rfl, Lib.hid ⟨rfl, by omega, rfl⟩⟩
  case round =>
    obtain ⟨k, n, A, hk, rfl, rfl, rfl, rfl, HH⟩ := hrel
    obtain ⟨hA, hn, HV⟩ := HH.out
    clear HH
    have a0 : 0 ≤ A := by omega
    have a1 : A ≤ 4294967295 := by omega
    by_cases hlt : k < s.size
    · have hcell := HMade.out.cell (at_byte2 hlt)
      obtain ⟨d, hd⟩ := digs_at HX.out (at_byte2 hlt)
      have hdr : s.data.toList.drop k = s[k] :: s.data.toList.drop (k + 1) := by rw [List.drop_eq_getElem_cons (by simpa using hlt)]; rfl
      have hcs := dig_cases hd
      generalize s[k] = c at *
      obtain ⟨M, hM⟩ : ∃ M : Int, (c.toNat : Int) = M := ⟨_, rfl⟩
      rw [hM] at hcell
      rcases hcs with ⟨m1, m2, m3⟩ | ⟨m1, m2, m3⟩ | ⟨m1, m2, m3⟩
      · as_aux_lemma =>
        have b1 : 48 ≤ M := by omega
        have b2 : M ≤ 57 := by omega
        replace hM : M = (d : Int) + 48 := by omega
        clear m1 m2 m3
        by_cases h2 : n * 10 + d < 4294967296
        · have HV2 := Lib.hid (show A * 10 + (M - 48) = ((n * 10 + d : Nat) : Int) ∧ n * 10 + d < 4294967296 ∧ _ from ⟨by omega, h2, HV.trans ((congrArg (valB 10 n) hdr).trans (valB_step hd (by omega) h2))⟩)
          have iov : A * 10 + (M - 48) ≤ 4294967295 := by omega
          clear hd hdr HV h2 hA hn hM
          go_wp2_with fail
          go_roundw
          case rel => exact ⟨k + 1, n * 10 + d, _, by omega, rfl, by go_num, rfl, by trivial, HV2⟩
          case measure => simp [intOf]; omega
        · have HV2 := Lib.hid (HV.trans ((congrArg (valB 10 n) hdr).trans (valB_over hd (fun h => h2 h.2))))
          have iov : 4294967295 < A * 10 + (M - 48) := by omega
          clear hd hdr HV h2 hA hn hM
          go_wp2_with fail
          go_ret2
          exact ⟨.inr ⟨HV2.out, _, 1, .inl rfl, rfl⟩, HB2.out⟩
      · as_aux_lemma =>
        have b1 : 97 ≤ M := by omega
        have b2 : M ≤ 102 := by omega
        replace hM : M = (d : Int) + 87 := by omega
        clear m1 m2 m3
        have HLc := Lib.hid (low_af b1 b2)
        have HV2 := Lib.hid (HV.trans ((congrArg (valB 10 n) hdr).trans (valB_over hd (fun h => absurd h.1 (by omega)))))
        clear hd hdr HV hA hn hM
        go_wp2_with (first | (go_at_call 150; (refine (HLo.out _ _).mono ?_); rintro e w3 ⟨rfl, rfl⟩; rw [HLc.out]))
        go_ret2
        exact ⟨.inr ⟨HV2.out, _, 2, .inr rfl, rfl⟩, HB2.out⟩
      · as_aux_lemma =>
        have b1 : 65 ≤ M := by omega
        have b2 : M ≤ 70 := by omega
        replace hM : M = (d : Int) + 55 := by omega
        clear m1 m2 m3
        have HLc := Lib.hid (low_AF b1 b2)
        have HV2 := Lib.hid (HV.trans ((congrArg (valB 10 n) hdr).trans (valB_over hd (fun h => absurd h.1 (by omega)))))
        clear hd hdr HV hA hn hM
        go_wp2_with (first | (go_at_call 150; (refine (HLo.out _ _).mono ?_); rintro e w3 ⟨rfl, rfl⟩; rw [HLc.out]))
        go_ret2
        exact ⟨.inr ⟨HV2.out, _, 2, .inr rfl, rfl⟩, HB2.out⟩
    · have hend : s.data.toList.drop k = [] := List.drop_of_length_le (by rw [size_list]; omega)
      rw [hend] at HV
      have HV2 := Lib.hid (show valB 10 0 s.data.toList = some n from HV)
      subst hA
      clear HV hend hn a0 a1
      go_wp2_with fail
      go_ret2
      exact ⟨.inl ⟨n, HV2.out, rfl⟩, HB2.out⟩

end Go.Proofs.YtanncakdlflopaaGreatDoor
