/- lookup in the trie of "\r\n" and "\r". (short) -/
import Derived.Test.YtfnodoepeiknhaaGreatDoorTrieRun
namespace Go.Proofs.YtfnodoepeiknhaaGreatDoor
open Go.RowKit
set_option linter.unusedVariables false
set_option linter.unusedSimpArgs false
set_option maxRecDepth 100000

instance : StrT Tryz.prog 9 := ⟨Tryz.underlying9⟩
/-- The trie in memory. -/
structure TrieAt (w : World) (R T n m : Nat) : Prop where
  root : Cells w ⟨R, 0, none⟩ (rtC T gM)
  tab : Cells w ⟨T, 0, none⟩ [.pointer none, .pointer (some ⟨n, 0, none⟩)]
  one : Cells w ⟨n, 0, none⟩ (trN ⟨#[10]⟩ 2 ⟨#[10]⟩ (some ⟨m, 0, none⟩) (.slice none 0 0))
  two : Cells w ⟨m, 0, none⟩ (trN ⟨#[10]⟩ 4 ⟨#[]⟩ none (.slice none 0 0))
theorem cells_i {w : World} {g : Nat} {cs : List Value} (h : Cells w ⟨g, 0, none⟩ cs) (i : Nat) {v : Value} (hv : cs[i]? = some v) : w.cell? ⟨g, i, none⟩ = some v := by
  have := h i v hv
  rwa [add_none, Nat.zero_add] at this
theorem TrieAt.map {w : World} {R T n m : Nat} (h : TrieAt w R T n m) {i : Nat} (hi : i < 256) : w.cell? ⟨R, 6 + i, none⟩ = some (.int .u8 (gv i)) :=
  cells_i h.root (6 + i) (by rw [Nat.add_comm]; exact gM_at hi)

theorem size_at {s : ByteArray} {i : Nat} {b : UInt8} (h : s.data.toList[i]? = some b) : i + 1 ≤ s.size ∧ True := by
  obtain ⟨hi, -⟩ := byte_at h
  exact ⟨hi, trivial⟩
theorem ne_nil_of {s : ByteArray} {b : UInt8} (h : s.data.toList[0]? = some b) : (s.toList == []) = false := by
  rw [Lib.toList_data]
  cases hl : s.data.toList with
  | nil => rw [hl] at h; simp at h
  | cons a r => rfl

set_option maxHeartbeats 4000000 in
theorem gsw_any (b : Nat) (w : World) : Calls Tryz.prog 187 #[.iface 230 (.pointer (some ⟨b, 0, none⟩))] w fun e w' => e = .returned (.iface 230 (.pointer (some ⟨b, 0, none⟩))) ∧ w' = w := by
  have ta : ∀ w, (Instr.typeAssert (.iface 230 (.pointer (some ⟨b, 0, none⟩))) 232 234 true).run Tryz.prog w = .ok (.tuple #[.iface 230 (.pointer (some ⟨b, 0, none⟩)), .bool true]) w := fun w => by kernel_rfl
  go_enter Tryz.func187, Tryz.ntmps187
  go_wp2_with fail
  go_ret
  exact ⟨rfl, rfl⟩

theorem fne_true (a : Addr) (w : World) : (binOp .neq 172 (.pointer (some a)) (.pointer none)).run Tryz.prog w = .ok (.bool true) w := by kernel_rfl

set_option maxHeartbeats 8000000 in
theorem look_nil (R T n m : Nat) (w : World) (h : TrieAt w R T n m) : Calls Tryz.prog 188 #[.pointer (some ⟨R, 0, none⟩), .string ⟨#[]⟩, .bool false] w fun e w' => e = .returned (.tuple #[.string ⟨#[]⟩, .int .i64 0, .bool false]) ∧ w' = w := by
  have c1 := cells_i h.root 1 rfl
  have f1 := fne_true ⟨R, 0, none⟩
  clear h
  go_enter Tryz.func188, Tryz.ntmps188
  go_wp2_with fail
  go_loopw [10, 9, 11, 1, 6, 7, 8] (fun nv bs nn sv vv kk ff wr => nv = .pointer (some ⟨R, 0, none⟩) ∧ bs = .int .i64 0 ∧ nn = .int .i64 0 ∧ sv = .string ⟨#[]⟩ ∧ vv = .string ⟨#[]⟩ ∧ kk = .int .i64 0 ∧ ff = .bool false ∧ wr = w) (fun _ _ _ _ _ _ _ _ => 0)
  case atStart => exact ⟨rfl, rfl, rfl, rfl, rfl, rfl, rfl, rfl⟩
  case round =>
    obtain ⟨rfl, rfl, rfl, rfl, rfl, rfl, rfl, rfl⟩ := hrel
    go_wp2_with fail
    go_ret3
    exact ⟨rfl, rfl⟩

/-- The stages of lookup in the trie. -/
def ndA (R n m : Nat) : Nat → Nat
  | 0 => R
  | 1 => n
  | _ => m
def bsA : Nat → Int
  | 2 => 2
  | _ => 0
def svA (s : ByteArray) : Nat → ByteArray
  | 0 => s
  | 1 => s.extract 1 s.size
  | _ => (s.extract 1 s.size).extract 1 (s.extract 1 s.size).size
def vvA : Nat → ByteArray
  | 2 => ⟨#[10]⟩
  | _ => ⟨#[]⟩
def kkA : Nat → Int
  | 2 => 1
  | _ => 0
def ffA : Nat → Bool
  | 2 => true
  | _ => false

set_option maxHeartbeats 16000000 in
theorem look_cr (R T n m : Nat) (s : ByteArray) (r : Bool) (w : World) (h : TrieAt w R T n m) (h0 : s.data.toList[0]? = some 13) (hr : (s.data.toList[1]? == some 10) = r) : Calls Tryz.prog 188 #[.pointer (some ⟨R, 0, none⟩), .string s, .bool false] w fun e w' => e = .returned (.tuple #[.string ⟨#[10]⟩, .int .i64 (if r then 2 else 1), .bool true]) ∧ RowKit.Below w.heap.size w w' := by
  have HM := Lib.hid (Mem.start w)
  have HTr := Lib.hid h
  have H0 := Lib.hid h0
  have HR := Lib.hid hr
  have f1 := fne_true
  have H13 := Lib.hid (show w.cell? ⟨R, 6 + 13, none⟩ = some (.int .u8 1) from h.map (by decide))
  clear h h0 hr
  go_enter Tryz.func188, Tryz.ntmps188
  go_wp2_with fail
  go_loopw [10, 9, 11, 1, 6, 7, 8] (fun nv bs nn sv vv kk ff wr => ∃ st : Nat, st ≤ 2 ∧ (st = 2 → r = true) ∧ nv = .pointer (some ⟨ndA R n m st, 0, none⟩) ∧ bs = .int .i64 (bsA st) ∧ nn = .int .i64 (st : Int) ∧ sv = .string (svA s st) ∧ vv = .string (vvA st) ∧ kk = .int .i64 (kkA st) ∧ ff = .bool (ffA st) ∧ Hid (Mem w wr [])) (fun _ _ nn _ _ _ _ _ => 3 - (intOf nn).toNat)
  case atStart => exact ⟨0, by omega, by omega, rfl, rfl, rfl, rfl, rfl, rfl, rfl, HM⟩
  case round =>
    clear HM
    obtain ⟨st, hst, hs2, rfl, rfl, rfl, rfl, rfl, rfl, rfl, HM⟩ := hrel
    rcases st with _ | _ | st
    · as_aux_lemma =>
      dsimp only [ndA, bsA, svA, vvA, kkA, ffA]
      have q1 : (s.toList == []) = false := ne_nil_of H0.out
      have hsz : 1 ≤ s.size := (size_at H0.out).1
      go_wp2_with (first | (refine ldx1 (HM.out.old (cells_i HTr.out.root 1 rfl)) rfl ?_) | (refine ldx1 (HM.out.old (cells_i HTr.out.root 4 rfl)) rfl ?_))
      refine wp_region_mem (by kernel_rfl) (by kernel_rfl) HM.out ?_; intro hNE; (repeat (any_goals (first | refine mQ ?_ | ((with_reducible refine qat 53 ?_); (refine qsix rfl rfl (i := 0) rfl H0.out ?_)) | ((with_reducible refine qat 56 ?_); (refine qiaa (i := 13) rfl rfl rfl (by decide) ?_)) | ((with_reducible refine qat 57 ?_); (refine qd1 (v := .int .u8 1) rfl (fun W ⟨q, hq⟩ => hq ▸ q.mem.old H13.out) ?_)) | go_big_quiet_step (fail) | quiet_step (fail)))); clear hNE; refine wpQuiet_nil ?_; intro W1 HM1; replace HM := Lib.hid HM1; clear HM1
      go_wp2_with (first | (refine ldx1 (HM.out.old (cells_i HTr.out.root 5 rfl)) rfl ?_) | (refine ldx1 (HM.out.old (cells_i HTr.out.root 4 rfl)) rfl ?_) | ((with_reducible refine iat 70 ?_); (refine ixk (i := 1) rfl rfl rfl (by decide) ?_)) | (refine ldx1 (HM.out.old (cells_i HTr.out.tab 1 rfl)) rfl ?_) | ((with_reducible refine iat 73 ?_); (refine sslf rfl rfl (i := 1) rfl hsz ?_)))
      go_roundw
      case rel => exact ⟨1, by omega, by omega, rfl, rfl, rfl, rfl, rfl, rfl, rfl, HM⟩
      case measure => simp [intOf]
    · as_aux_lemma =>
      dsimp only [ndA, bsA, svA, vvA, kkA, ffA]
      obtain ⟨S, hS⟩ : ∃ S, s.extract 1 s.size = S := ⟨_, rfl⟩
      have hSd : S.data.toList = s.data.toList.drop 1 := by
        rw [← hS, Lib.extract_data]
        apply List.take_of_length_le
        simp
      have HS := Lib.hid hS
      rw [hS]
      clear hS
      by_cases he : S.size = 0
      · have q1 : (S.toList == []) = true := by
          rw [Lib.toList_data, List.eq_nil_of_length_eq_zero (show S.data.toList.length = 0 by simpa using he)]; rfl
        have hrr : r = false := by
          rw [← HR.out]
          have hn : s.data.toList[1]? = none := by
            have hl : (s.data.toList.drop 1).length = 0 := by rw [← hSd]; simpa using he
            rw [List.length_drop] at hl
            exact List.getElem?_eq_none (by omega)
          rw [hn]; rfl
        subst hrr
        clear he hSd
        go_wp2_with (first | (refine ldx1 (HM.out.old (cells_i HTr.out.one 1 rfl)) rfl ?_) | (refine ldx1 (HM.out.old (cells_i HTr.out.one 0 rfl)) rfl ?_))
        go_ret3
        exact ⟨rfl, HM.out.below⟩
      · have q1 : (S.toList == []) = false := by
          rw [Lib.toList_data]
          cases hl : S.data.toList with
          | nil => exact absurd (by have := congrArg List.length hl; simpa using this) he
          | cons a t => rfl
        have hsz : 1 ≤ S.size := by omega
        have hrr : ((S.extract 0 1).toList == [10]) = r := by
          rw [← HR.out, Lib.toList_data, Lib.extract_data, hSd, List.drop_zero]
          cases hl : s.data.toList.drop 1 with
          | nil =>
            exfalso
            apply he
            have : S.data.toList.length = 0 := by rw [hSd, hl]; rfl
            simpa using this
          | cons a t =>
            have h1 : s.data.toList[1]? = some a := by
              have := congrArg (fun l => l[0]?) hl
              simpa using this
            rw [h1]
            simp
        have HP := Lib.hid (fun W => hp_of S 10 r W (hp0_one S 10 r hsz hrr W))
        clear he hSd hrr
        cases r with
        | false =>
          go_wp2_with (first | (refine ldx1 (HM.out.old (cells_i HTr.out.one 1 rfl)) rfl ?_) | (refine ldx1 (HM.out.old (cells_i HTr.out.one 0 rfl)) rfl ?_) | (refine ldx1 (HM.out.old (cells_i HTr.out.one 4 rfl)) rfl ?_) | (refine ldx1 (HM.out.old (cells_i HTr.out.one 2 rfl)) rfl ?_) | (go_at_call 94; (refine (HP.out _).mono ?_); rintro e w2 ⟨rfl, rfl⟩))
          go_ret3
          exact ⟨rfl, HM.out.below⟩
        | true =>
          go_wp2_with (first | (refine ldx1 (HM.out.old (cells_i HTr.out.one 1 rfl)) rfl ?_) | (refine ldx1 (HM.out.old (cells_i HTr.out.one 0 rfl)) rfl ?_) | (refine ldx1 (HM.out.old (cells_i HTr.out.one 4 rfl)) rfl ?_) | (refine ldx1 (HM.out.old (cells_i HTr.out.one 2 rfl)) rfl ?_) | (refine ldx1 (HM.out.old (cells_i HTr.out.one 3 rfl)) rfl ?_) | (go_at_call 94; (refine (HP.out _).mono ?_); rintro e w2 ⟨rfl, rfl⟩) | ((with_reducible refine iat 102 ?_); (refine sslf rfl rfl (i := 1) rfl hsz ?_)))
          go_roundw
          case rel => exact ⟨2, by omega, by simp, rfl, rfl, rfl, by rw [← HS.out]; rfl, rfl, rfl, rfl, HM⟩
          case measure => simp [intOf]
    · obtain rfl : st = 0 := by omega
      as_aux_lemma =>
      obtain rfl := hs2 rfl
      dsimp only [ndA, bsA, svA, vvA, kkA, ffA]
      generalize (s.extract 1 s.size).extract 1 (s.extract 1 s.size).size = S
      obtain ⟨q, hq⟩ : ∃ q, (S.toList == []) = q := ⟨_, rfl⟩
      cases q with
      | true =>
        go_wp2_with (first | (refine ldx1 (HM.out.old (cells_i HTr.out.two 1 rfl)) rfl ?_) | (refine ldx1 (HM.out.old (cells_i HTr.out.two 0 rfl)) rfl ?_))
        go_ret3
        exact ⟨rfl, HM.out.below⟩
      | false =>
        go_wp2_with (first | (refine ldx1 (HM.out.old (cells_i HTr.out.two 1 rfl)) rfl ?_) | (refine ldx1 (HM.out.old (cells_i HTr.out.two 0 rfl)) rfl ?_) | (refine ldx1 (HM.out.old (cells_i HTr.out.two 4 rfl)) rfl ?_) | (refine ldx1 (HM.out.old (cells_i HTr.out.two 2 rfl)) rfl ?_))
        go_ret3
        exact ⟨rfl, HM.out.below⟩
end Go.Proofs.YtfnodoepeiknhaaGreatDoor
