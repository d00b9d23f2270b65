/- lookup in the trie of "\r\n" and "\r". (short) Line ends made one: plain. No program in sight. Line ends made one: plain; behind the trie. WriteString of the generic Replacer of "\r\n" and "\r". (short) Replace of the generic Replacer of "\r\n" and "\r". (short) strings.NewReplacer("\r\n", "\n", "\r", "\n"): built once, used once. (short) -/
import Derived.Test.YtanncakdlflopaaGreatDoorTrieA
import Derived.WalkKit
import Derived.Lib.AppendStr
import Derived.Test.YtanncakdlflopaaGreatDoorReplGL
namespace Go.Proofs.YtanncakdlflopaaGreatDoor
open Go.RowKit
set_option linter.unusedVariables false
set_option linter.unusedSimpArgs false
set_option maxRecDepth 100000

instance : StrT Tryz.prog 9 := ⟨Tryz.underlying9⟩
/-- The trie in memory. -/
structure TrieAt (w : World) (R T n m : Nat) : Prop where
 root : Cells w ⟨R, 0, none⟩ (rtC T gM)
 tab : Cells w ⟨T, 0, none⟩ [.pointer none, .pointer (some ⟨n, 0, none⟩)]
 one : Cells w ⟨n, 0, none⟩ (trN ⟨#[10]⟩ 2 ⟨#[10]⟩ (some ⟨m, 0, none⟩) (.slice none 0 0))
 two : Cells w ⟨m, 0, none⟩ (trN ⟨#[10]⟩ 4 ⟨#[]⟩ none (.slice none 0 0))
theorem cells_i {w : World} {g : Nat} {cs : List Value} (h : Cells w ⟨g, 0, none⟩ cs) (i : Nat) {v : Value} (hv : cs[i]? = some v) : w.cell? ⟨g, i, none⟩ = some v := by
 have := h i v hv
 rwa [add_none, Nat.zero_add] at this
theorem TrieAt.map {w : World} {R T n m : Nat} (h : TrieAt w R T n m) {i : Nat} (hi : i < 256) : w.cell? ⟨R, 6 + i, none⟩ = some (.int .u8 (gv i)) :=
 cells_i h.root (6 + i) (by rw [Nat.add_comm]; exact gM_at hi)

theorem size_at {s : ByteArray} {i : Nat} {b : UInt8} (h : s.data.toList[i]? = some b) : i + 1 ≤ s.size ∧ True := by
 obtain ⟨hi, -⟩ := byte_at h
 exact ⟨hi, trivial⟩
theorem ne_nil_of {s : ByteArray} {b : UInt8} (h : s.data.toList[0]? = some b) : (s.toList == []) = false := by
 rw [Lib.toList_data]
 cases hl : s.data.toList with
 | nil => rw [hl] at h; simp at h
 | cons a r => rfl

set_option maxHeartbeats 4000000 in
theorem gsw_any (b : Nat) (w : World) : Calls Tryz.prog 209 #[.iface 258 (.pointer (some ⟨b, 0, none⟩))] w fun e w' => e = .returned (.iface 258 (.pointer (some ⟨b, 0, none⟩))) ∧ w' = w := by
 have ta : ∀ w, (Instr.typeAssert (.iface 258 (.pointer (some ⟨b, 0, none⟩))) 260 262 true).run Tryz.prog w = .ok (.tuple #[.iface 258 (.pointer (some ⟨b, 0, none⟩)), .bool true]) w := fun w => by kernel_rfl
 go_enter Tryz.func209, Tryz.ntmps209
 go_wp2_with fail
 go_ret
 exact ⟨rfl, rfl⟩

theorem fne_true (a : Addr) (w : World) : (binOp .neq 201 (.pointer (some a)) (.pointer none)).run Tryz.prog w = .ok (.bool true) w := by kernel_rfl

set_option maxHeartbeats 8000000 in
theorem look_nil (R T n m : Nat) (w : World) (h : TrieAt w R T n m) : Calls Tryz.prog 210 #[.pointer (some ⟨R, 0, none⟩), .string ⟨#[]⟩, .bool false] w fun e w' => e = .returned (.tuple #[.string ⟨#[]⟩, .int .i64 0, .bool false]) ∧ w' = w := by
 have c1 := cells_i h.root 1 rfl
 have f1 := fne_true ⟨R, 0, none⟩
 clear h
 go_enter Tryz.func210, Tryz.ntmps210
 go_wp2_with fail
 go_loopw [10, 9, 11, 1, 6, 7, 8] (fun nv bs nn sv vv kk ff wr => nv = .pointer (some ⟨R, 0, none⟩) ∧ bs = .int .i64 0 ∧ nn = .int .i64 0 ∧ sv = .string ⟨#[]⟩ ∧ vv = .string ⟨#[]⟩ ∧ kk = .int .i64 0 ∧ ff = .bool false ∧ wr = w) (fun _ _ _ _ _ _ _ _ => 0)
 case atStart => exact ⟨rfl, rfl, rfl, rfl, rfl, rfl, rfl, rfl⟩
 case round =>
  obtain ⟨rfl, rfl, rfl, rfl, rfl, rfl, rfl, rfl⟩ := hrel
  go_wp2_with fail
  go_ret3
  exact ⟨rfl, rfl⟩

/-- The stages of lookup in the trie. -/
def ndA (R n m : Nat) : Nat → Nat
 | 0 => R
 | 1 => n
 | _ => m
def bsA : Nat → Int
 | 2 => 2
 | _ => 0
def svA (s : ByteArray) : Nat → ByteArray
 | 0 => s
 | 1 => s.extract 1 s.size
 | _ => (s.extract 1 s.size).extract 1 (s.extract 1 s.size).size
def vvA : Nat → ByteArray
 | 2 => ⟨#[10]⟩
 | _ => ⟨#[]⟩
def kkA : Nat → Int
 | 2 => 1
 | _ => 0
def ffA : Nat → Bool
 | 2 => true
 | _ => false

set_option maxHeartbeats 16000000 in
theorem look_cr (R T n m : Nat) (s : ByteArray) (r : Bool) (w : World) (h : TrieAt w R T n m) (h0 : s.data.toList[0]? = some 13) (hr : (s.data.toList[1]? == some 10) = r) : Calls Tryz.prog 210 #[.pointer (some ⟨R, 0, none⟩), .string s, .bool false] w fun e w' => e = .returned (.tuple #[.string ⟨#[10]⟩, .int .i64 (if r then 2 else 1), .bool true]) ∧ RowKit.Below w.heap.size w w' := by
 have HM := Lib.hid (Mem.start w)
 have HTr := Lib.hid h
 have H0 := Lib.hid h0
 have HR := Lib.hid hr
 have f1 := fne_true
 have H13 := Lib.hid (show w.cell? ⟨R, 6 + 13, none⟩ = some (.int .u8 1) from h.map (by decide))
 clear h h0 hr
 go_enter Tryz.func210, Tryz.ntmps210
 go_wp2_with fail
 go_loopw [10, 9, 11, 1, 6, 7, 8] (fun nv bs nn sv vv kk ff wr => ∃ st : Nat, st ≤ 2 ∧ (st = 2 → r = true) ∧ nv = .pointer (some ⟨ndA R n m st, 0, none⟩) ∧ bs = .int .i64 (bsA st) ∧ nn = .int .i64 (st : Int) ∧ sv = .string (svA s st) ∧ vv = .string (vvA st) ∧ kk = .int .i64 (kkA st) ∧ ff = .bool (ffA st) ∧ Hid (Mem w wr [])) (fun _ _ nn _ _ _ _ _ => 3 - (intOf nn).toNat)
 case atStart => exact ⟨0, by omega, by omega, rfl, rfl, rfl, rfl, rfl, rfl, rfl, HM⟩
 case round =>
  clear HM
  obtain ⟨st, hst, hs2, rfl, rfl, rfl, rfl, rfl, rfl, rfl, HM⟩ := hrel
  rcases st with _ | _ | st
  ·as_aux_lemma =>
   dsimp only [ndA, bsA, svA, vvA, kkA, ffA]
   have q1 : (s.toList == []) = false := ne_nil_of H0.out
   have hsz : 1 ≤ s.size := (size_at H0.out).1
   go_wp2_with (first | (refine ldx1 (HM.out.old (cells_i HTr.out.root 1 rfl)) rfl ?_) | (refine ldx1 (HM.out.old (cells_i HTr.out.root 4 rfl)) rfl ?_))
   refine wp_region_mem (by kernel_rfl) (by kernel_rfl) HM.out ?_; intro hNE; (repeat (any_goals (first | refine mQ ?_ | ((with_reducible refine qat 53 ?_); (refine qsix rfl rfl (i := 0) rfl H0.out ?_)) | ((with_reducible refine qat 56 ?_); (refine qiaa (i := 13) rfl rfl rfl (by decide) ?_)) | ((with_reducible refine qat 57 ?_); (refine qd1 (v := .int .u8 1) rfl (fun W ⟨q, hq⟩ => hq ▸ q.mem.old H13.out) ?_)) | go_big_quiet_step (fail) | quiet_step (fail)))); clear hNE; refine wpQuiet_nil ?_; intro W1 HM1; replace HM := Lib.hid HM1; clear HM1
   go_wp2_with (first | (refine ldx1 (HM.out.old (cells_i HTr.out.root 5 rfl)) rfl ?_) | (refine ldx1 (HM.out.old (cells_i HTr.out.root 4 rfl)) rfl ?_) | ((with_reducible refine iat 70 ?_); (refine ixk (i := 1) rfl rfl rfl (by decide) ?_)) | (refine ldx1 (HM.out.old (cells_i HTr.out.tab 1 rfl)) rfl ?_) | ((with_reducible refine iat 73 ?_); (refine sslf rfl rfl (i := 1) rfl hsz ?_)))
   go_roundw
   case rel => exact ⟨1, by omega, by omega, rfl, rfl, rfl, rfl, rfl, rfl, rfl, HM⟩
   case measure => simp [intOf]
  ·as_aux_lemma =>
   dsimp only [ndA, bsA, svA, vvA, kkA, ffA]
   obtain ⟨S, hS⟩ : ∃ S, s.extract 1 s.size = S := ⟨_, rfl⟩
   have hSd : S.data.toList = s.data.toList.drop 1 := by
    rw [← hS, Lib.extract_data]
    apply List.take_of_length_le
    simp
   have HS := Lib.hid hS
   rw [hS]
   clear hS
   by_cases he : S.size = 0
   ·have q1 : (S.toList == []) = true := by
     rw [Lib.toList_data, List.eq_nil_of_length_eq_zero (show S.data.toList.length = 0 by simpa using he)]; rfl
    have hrr : r = false := by
     rw [← HR.out]
     have hn : s.data.toList[1]? = none := by
      have hl : (s.data.toList.drop 1).length = 0 := by rw [← hSd]; simpa using he
      rw [List.length_drop] at hl
      exact List.getElem?_eq_none (by omega)
     rw [hn]; rfl
    subst hrr
    clear he hSd
    go_wp2_with (first | (refine ldx1 (HM.out.old (cells_i HTr.out.one 1 rfl)) rfl ?_) | (refine ldx1 (HM.out.old (cells_i HTr.out.one 0 rfl)) rfl ?_))
    go_ret3
    exact ⟨rfl, HM.out.below⟩
   ·have q1 : (S.toList == []) = false := by
     rw [Lib.toList_data]
     cases hl : S.data.toList with
     | nil => exact absurd (by have := congrArg List.length hl; simpa using this) he
     | cons a t => rfl
    have hsz : 1 ≤ S.size := by omega
    have hrr : ((S.extract 0 1).toList == [10]) = r := by
     rw [← HR.out, Lib.toList_data, Lib.extract_data, hSd, List.drop_zero]
     cases hl : s.data.toList.drop 1 with
     | nil =>
      exfalso
      apply he
      have : S.data.toList.length = 0 := by rw [hSd, hl]; rfl
      simpa using this
     | cons a t =>
      have h1 : s.data.toList[1]? = some a := by
       have := congrArg (fun l => l[0]?) hl
       simpa using this
      rw [h1]
      simp
    have HP := Lib.hid (fun W => hp_of S 10 r W (hp0_one S 10 r hsz hrr W))
    clear he hSd hrr
    cases r with
    | false =>
     go_wp2_with (first | (refine ldx1 (HM.out.old (cells_i HTr.out.one 1 rfl)) rfl ?_) | (refine ldx1 (HM.out.old (cells_i HTr.out.one 0 rfl)) rfl ?_) | (refine ldx1 (HM.out.old (cells_i HTr.out.one 4 rfl)) rfl ?_) | (refine ldx1 (HM.out.old (cells_i HTr.out.one 2 rfl)) rfl ?_) | (go_at_call 85; (refine (HP.out _).mono ?_); rintro e w2 ⟨rfl, rfl⟩))
     go_ret3
     exact ⟨rfl, HM.out.below⟩
    | true =>
     go_wp2_with (first | (refine ldx1 (HM.out.old (cells_i HTr.out.one 1 rfl)) rfl ?_) | (refine ldx1 (HM.out.old (cells_i HTr.out.one 0 rfl)) rfl ?_) | (refine ldx1 (HM.out.old (cells_i HTr.out.one 4 rfl)) rfl ?_) | (refine ldx1 (HM.out.old (cells_i HTr.out.one 2 rfl)) rfl ?_) | (refine ldx1 (HM.out.old (cells_i HTr.out.one 3 rfl)) rfl ?_) | (go_at_call 85; (refine (HP.out _).mono ?_); rintro e w2 ⟨rfl, rfl⟩) | ((with_reducible refine iat 102 ?_); (refine sslf rfl rfl (i := 1) rfl hsz ?_)))
     go_roundw
     case rel => exact ⟨2, by omega, by simp, rfl, rfl, rfl, by rw [← HS.out]; rfl, rfl, rfl, rfl, HM⟩
     case measure => simp [intOf]
  ·obtain rfl : st = 0 := by omega
   as_aux_lemma =>
   obtain rfl := hs2 rfl
   dsimp only [ndA, bsA, svA, vvA, kkA, ffA]
   generalize (s.extract 1 s.size).extract 1 (s.extract 1 s.size).size = S
   obtain ⟨q, hq⟩ : ∃ q, (S.toList == []) = q := ⟨_, rfl⟩
   cases q with
   | true =>
    go_wp2_with (first | (refine ldx1 (HM.out.old (cells_i HTr.out.two 1 rfl)) rfl ?_) | (refine ldx1 (HM.out.old (cells_i HTr.out.two 0 rfl)) rfl ?_))
    go_ret3
    exact ⟨rfl, HM.out.below⟩
   | false =>
    go_wp2_with (first | (refine ldx1 (HM.out.old (cells_i HTr.out.two 1 rfl)) rfl ?_) | (refine ldx1 (HM.out.old (cells_i HTr.out.two 0 rfl)) rfl ?_) | (refine ldx1 (HM.out.old (cells_i HTr.out.two 4 rfl)) rfl ?_) | (refine ldx1 (HM.out.old (cells_i HTr.out.two 2 rfl)) rfl ?_))
    go_ret3
    exact ⟨rfl, HM.out.below⟩
end Go.Proofs.YtanncakdlflopaaGreatDoor

namespace Go.Proofs.YtanncakdlflopaaGreatDoor
open Go.RowKit
set_option linter.unusedVariables false

/-- A carriage return becomes a line's end, or nothing ahead of one. -/
def nlL : List UInt8 → List UInt8
 | [] => []
 | c :: r => (if c = 13 then (if r.head? = some 10 then [] else [10]) else [c]) ++ nlL r
def bC (l : List UInt8) : List Value := l.map fun b => .int .u8 b.toNat
theorem bC_str (s : ByteArray) : Lib.strCells s = bC s.data.toList := by
 unfold bC Lib.strCells
 rfl
theorem bC_append (l m : List UInt8) : bC (l ++ m) = bC l ++ bC m := List.map_append
theorem nlL_len : ∀ l : List UInt8, (nlL l).length ≤ l.length
 | [] => Nat.le_refl _
 | c :: r => by
  have := nlL_len r
  simp only [nlL, List.length_append, List.length_cons]
  split
  ·split <;> simp <;> omega
  ·simp; omega
theorem nlL_other {l r : List UInt8} {c : UInt8} (h : l = c :: r) (hc : c ≠ 13) : nlL l = c :: nlL r := by
 subst h; simp [nlL, hc]
theorem nlL_cr {l r : List UInt8} (h : l = 13 :: r) (hr : (l[1]? == some 10) = false) : nlL l = 10 :: nlL r := by
 subst h
 have : r.head? ≠ some 10 := by
  intro e
  cases r with
  | nil => cases e
  | cons a t => simp at e hr; exact hr e
 simp [nlL, this]
theorem nlL_crlf {l r : List UInt8} (h : l = 13 :: 10 :: r) : nlL l = 10 :: nlL r := by
 subst h; simp [nlL]
/-- A round of the writer. -/
theorem nl_skip {s B : List UInt8} {i last : Nat} {c : UInt8} (hl : last ≤ i) (hc : s[i]? = some c) (h13 : c ≠ 13) (h : nlL s = B ++ (s.take i).drop last ++ nlL (s.drop i)) : nlL s = B ++ (s.take (i + 1)).drop last ++ nlL (s.drop (i + 1)) := by
 obtain ⟨hi, e⟩ := List.getElem?_eq_some_iff.1 hc
 have hd : s.drop i = c :: s.drop (i + 1) := by rw [List.drop_eq_getElem_cons hi, e]
 rw [h, nlL_other hd h13, List.take_add_one, hc, List.drop_append_of_le_length (by rw [List.length_take]; omega)]
 simp
theorem nl_end {s B : List UInt8} {last : Nat} (h : nlL s = B ++ (s.take s.length).drop last ++ nlL (s.drop s.length)) : nlL s = B ++ (s.take (s.length + 1)).drop last ++ nlL (s.drop (s.length + 1)) := by
 have e1 : s.drop s.length = [] := List.drop_of_length_le (Nat.le_refl _)
 have e2 : s.drop (s.length + 1) = [] := List.drop_of_length_le (by omega)
 rw [h, e1, e2, List.take_of_length_le (Nat.le_refl _), List.take_of_length_le (show s.length ≤ s.length + 1 by omega)]
theorem nl_hit {s B : List UInt8} {i last : Nat} {r : Bool} (hl : last ≤ i) (hc : s[i]? = some 13) (hr : ((s.drop i)[1]? == some 10) = r) (h : nlL s = B ++ (s.take i).drop last ++ nlL (s.drop i)) :
  nlL s = (B ++ (s.take i).drop last ++ [10]) ++ (s.take (i + if r then 2 else 1)).drop (i + if r then 2 else 1) ++ nlL (s.drop (i + if r then 2 else 1)) := by
 obtain ⟨hi, e⟩ := List.getElem?_eq_some_iff.1 hc
 have hd : s.drop i = 13 :: s.drop (i + 1) := by rw [List.drop_eq_getElem_cons hi, e]
 have hz : ∀ k, (s.take k).drop k = [] := fun k => List.drop_of_length_le (by rw [List.length_take]; omega)
 rw [hz, List.append_nil, h]
 cases r with
 | false =>
  rw [nlL_cr hd hr]
  simp
 | true =>
  have h1 : s[i + 1]? = some 10 := by
   have := hr
   rw [List.getElem?_drop] at this
   simpa using this
  obtain ⟨hi2, e2⟩ := List.getElem?_eq_some_iff.1 h1
  have hd2 : s.drop (i + 1) = 10 :: s.drop (i + 2) := by rw [List.drop_eq_getElem_cons hi2, e2]
  rw [nlL_crlf (hd.trans (by rw [hd2]))]
  simp
end Go.Proofs.YtanncakdlflopaaGreatDoor



namespace Go.Proofs.YtanncakdlflopaaGreatDoor
open Go.RowKit
set_option linter.unusedVariables false
set_option linter.unusedSimpArgs false
set_option maxRecDepth 100000

theorem TrieAt.mem {w W : World} {L : List Res} {R T n m : Nat} (h : TrieAt w R T n m) (hm : Mem w W L) : TrieAt W R T n m :=
 ⟨hm.olds h.root, hm.olds h.tab, hm.olds h.one, hm.olds h.two⟩
theorem asw_method (d b : Nat) (w : World) : (method (d + 2) 258 (.pointer (some ⟨b, 0, none⟩)) "WriteString").run Tryz.prog w = .ok (223, .pointer (some ⟨b, 0, none⟩)) w := by kernel_rfl

section
variable {P : Program} {ops : Array Oper} {a : Act} {rest : List Oper} {K : Act → Prop} {C : World → Prop} {dst : Option Tmp} {ty0 : TypeId} {pos : String} {after : Array Edge} {gd : Option (Nat × Bool)}
theorem run_nilm {t : TypeId} {v : Value} {name : String} {x : Operand} (hx : a.eval x = .func (.method name) #[.iface t v] #[]) (hn : ∀ W, (nilAhead (P.types.size + Made.depth) t v name).run P W = .ok (some false) W) (W : World) : (execOp a.eval (⟨dst, .nilCheck x, ty0, pos, after, gd⟩ : Oper)).run P W = .ok (.value (.func (.method name) #[.iface t v] #[])) W := by
 have hp : ∀ W, (program : Sem Program).run P W = .ok P W := fun _ => rfl
 simp [execOp, hx, Sem.run_bind, hp, hn]
theorem qnf {x : Operand} {t : TypeId} {v : Value} {name : String} (hx : a.eval x = .func (.method name) #[.iface t v] #[]) (hn : ∀ W, (nilAhead (P.types.size + Made.depth) t v name).run P W = .ok (some false) W) (h : wpQuiet P ops C K (⟨dst, .move (.const (.func (.method name) #[.iface t v] #[])), ty0, pos, after, gd⟩ :: rest) a) : wpQuiet P ops C K (⟨dst, .nilCheck x, ty0, pos, after, gd⟩ :: rest) a :=
 as_moveQ (o := ⟨dst, .nilCheck x, ty0, pos, after, gd⟩) (v := .func (.method name) #[.iface t v] #[]) (fun V _ => quiet_value (run_nilm hx hn V)) h
end
theorem asw_nil (b : Nat) (W : World) : (nilAhead (Tryz.prog.types.size + Made.depth) 258 (.pointer (some ⟨b, 0, none⟩)) "WriteString").run Tryz.prog W = .ok (some false) W := by kernel_rfl
theorem ext_none (s : ByteArray) : s.extract s.size s.size = ⟨#[]⟩ := by
 apply Go.WideShapes.bytes_inj
 rw [Lib.extract_data]
 simp

set_option maxHeartbeats 16000000 in
theorem gwrite_any (R T n m b cap : Nat) (p : Option Addr) (s : ByteArray) (w W : World) (h : TrieAt w R T n m) (hM : Mem w W [.box b 257 [.slice p 0 cap], .row p cap 5 1 0 []]) (hs : s.size ≤ 1099511627776) :
  Calls Tryz.prog 208 #[.pointer (some ⟨R, 0, none⟩), .iface 258 (.pointer (some ⟨b, 0, none⟩)), .string s] W fun e W' => ∃ (v : Value) (p' : Option Addr) (cap' : Nat), e = .returned (.tuple #[v, .nilIface]) ∧ Mem w W' [.box b 257 [.slice p' (nlL s.data.toList).length cap'], .row p' cap' 5 1 (nlL s.data.toList).length (bC (nlL s.data.toList))] := by
 have HM := Lib.hid hM
 have HT := Lib.hid h
 have HG := Lib.hid (fun W => gsw_any b W)
 clear h hM
 go_enter Tryz.func208, Tryz.ntmps208
 go_wp2_with (first | (go_at_call 209; (refine (HG.out _).mono ?_); rintro e w2 ⟨rfl, rfl⟩))
 go_loopw [12, 9, 11, 6, 10, 7] (fun iv lv pm nv wv ev wr => ∃ (i last : Nat) (B : List UInt8) (k kw : Int) (p : Option Addr) (cap : Nat), iv = .int .i64 i ∧ lv = .int .i64 last ∧ pm = .bool false ∧ nv = .int .i64 k ∧ wv = .int .i64 kw ∧ ev = .nilIface ∧ last ≤ i ∧ last ≤ s.size ∧ i ≤ s.size + 1 ∧ B.length ≤ last ∧ Hid (nlL s.data.toList = B ++ (s.data.toList.take i).drop last ++ nlL (s.data.toList.drop i)) ∧ Hid (Mem w wr [.box b 257 [.slice p B.length cap], .row p cap 5 1 B.length (bC B)])) (fun iv _ _ _ _ _ _ => s.size + 1 - (intOf iv).toNat)
 case atStart => exact ⟨0, 0, [], 0, 0, p, cap, rfl, rfl, rfl, rfl, rfl, rfl, by omega, by omega, by omega, by simp, Lib.hid (by simp), HM⟩
 case round =>
  clear HM
  obtain ⟨i, last, B, k, kw, p, cap, rfl, rfl, rfl, rfl, rfl, rfl, hli, hls, hi, hBl, HI, HM⟩ := hrel
  by_cases hlt : i < s.size
  ·obtain ⟨c, hc⟩ : ∃ c, s.data.toList[i]? = some c := ⟨_, List.getElem?_eq_getElem (by simpa using hlt)⟩
   have HC := Lib.hid hc
   have hc256 : c.toNat < 256 := c.toNat_lt
   have q1 : decide ((i : Int) ≤ s.size) = true := decide_eq_true (by omega)
   have q2 : ((i : Int) != s.size) = true := by simp; omega
   by_cases h13 : c = 13
   ·subst h13
    obtain ⟨r, hr⟩ : ∃ r, ((s.data.toList.drop i)[1]? == some 10) = r := ⟨_, rfl⟩
    have hN := nl_hit hli hc hr HI.out
    obtain ⟨d, hd⟩ : ∃ d : Nat, (if r then 2 else 1) = d := ⟨_, rfl⟩
    have hdI : (if r then (2 : Int) else 1) = (d : Int) := by rw [← hd]; cases r <;> rfl
    have hd1 : 1 ≤ d := by rw [← hd]; cases r <;> decide
    have hd2 : i + d ≤ s.size := by
     rw [← hd]
     cases r with
     | false => show i + 1 ≤ s.size; omega
     | true =>
      have h1 : (s.data.toList.drop i)[1]? = some 10 := by simpa using hr
      rw [List.getElem?_drop] at h1
      have := (List.getElem?_eq_some_iff.1 h1).1
      simp at this ⊢
      omega
    rw [hd] at hN
    have HN := Lib.hid hN
    obtain ⟨S, hS⟩ : ∃ S, s.extract i s.size = S := ⟨_, rfl⟩
    obtain ⟨A, hA⟩ : ∃ A, s.extract last i = A := ⟨_, rfl⟩
    have hSd : S.data.toList = s.data.toList.drop i := by
     rw [← hS, Lib.extract_data]
     apply List.take_of_length_le
     simp
    have hAd : A.data.toList = (s.data.toList.take i).drop last := by
     rw [← hA, Lib.extract_data, List.drop_take]
    have hAs : A.size = i - last := by
     have := congrArg List.length hAd
     simp at this
     omega
    have HL := Lib.hid (fun W (hT : TrieAt W R T n m) => look_cr R T n m S r W hT (by rw [hSd, List.getElem?_drop]; simpa using hc) (by rw [hSd]; exact hr))
    rw [hdI] at HL
    have HS := Lib.hid hS
    have HA := Lib.hid hA
    have HAd := Lib.hid hAd
    have HMp := Lib.hid (show w.cell? ⟨R, 6 + (13 : UInt8).toNat, none⟩ = some (.int .u8 1) from by
     rw [HT.out.map hc256]; rfl)
    have hne := fun W => flt_true ⟨n, 0, none⟩ W
    have hmeth := asw_method
    clear hc hr hS hA hSd hAd hN hd hdI
    go_wp2_with (first | (refine ldx1 (HM.out.old (cells_i HT.out.root 1 rfl)) rfl ?_))
    refine wp_region_mem (by kernel_rfl) (by kernel_rfl) HM.out ?_; intro hNE; (repeat (any_goals (first | ((with_reducible refine qgd ?_); (with_reducible refine skip_q ?_ ?_ ?_); (exact rfl); (rotate_left; (exact (hNE.elim fun p => ⟨p.W, p, rfl⟩)))) | refine mQ ?_ | ((with_reducible refine qat 38 ?_); (refine qsix rfl rfl rfl HC.out ?_)) | ((with_reducible refine qat 41 ?_); (refine qiaa (i := (13 : UInt8).toNat) rfl rfl rfl hc256 ?_)) | ((with_reducible refine qat 42 ?_); (refine qd1 (v := .int .u8 1) rfl (fun W ⟨q, hq⟩ => hq ▸ q.mem.old HMp.out) ?_)) | go_big_quiet_step (fail) | quiet_step (fail)))); clear hNE; refine wpQuiet_nil ?_; intro W1 HM1; replace HM := Lib.hid HM1; clear HM1
    go_wp2_with (first | (refine ldx1 (HM.out.old (cells_i HT.out.root 5 rfl)) rfl ?_) | (refine ldx1 (HM.out.old (cells_i HT.out.root 4 rfl)) rfl ?_) | ((with_reducible refine iat 57 ?_); (refine ixk (i := 1) rfl rfl rfl (by decide) ?_)) | (refine ldx1 (HM.out.old (cells_i HT.out.tab 1 rfl)) rfl ?_) | ((with_reducible refine iat 67 ?_); (refine sslf rfl rfl (i := i) rfl (by omega) ?_; rw [HS.out])) | (go_at_call 210; (with_reducible refine cB HM (HL.out _ (HT.out.mem HM.out)) ?_); clear HM; intro W1 HM))
    refine wp_region_steps2 [(true, 0), (true, 1), (true, 2), (true, 3), (true, 4), (false, 5), (true, 6), (true, 7), (false, 8), (true, 9), (true, 10), (true, 11), (true, 12), (true, 13)] (by kernel_rfl) (by kernel_rfl) rfl (by kernel_rfl) (fun _ _ _ _ _ h => h) HM.out _ (.cons _ (.cons _ .slnil)) ?_
    intro hNE W1 HM1; replace HM := Lib.hid HM1; clear HM1
    have HS0 := Lib.hid (HM.out.sub (.cons _ (.cons _ .slnil)))
    simp only [wpSteps, List.getElem?_cons_succ, List.getElem?_cons_zero]
    (repeat (first | ((with_reducible refine wpQuiet_nil ?_); (try dsimp only)) | refine mQ ?_ | ((with_reducible refine qat 84 ?_); (refine qssls rfl rfl (i := last) rfl rfl (j := i) rfl hli (by omega) ?_; rw [HA.out])) | go_big_quiet_step (fail) | quiet_step (fail)))
    go_wp2_with (first | fail)
    refine ⟨⟨⟨_, HM.out.sub (by repeat (first | exact List.nil_sublist _ | with_reducible refine List.Sublist.cons_cons _ ?_ | refine List.Sublist.cons _ ?_))⟩, rfl⟩, ?_⟩
    (try dsimp only)
    (repeat (first | ((with_reducible refine wpQuiet_nil ?_); (try dsimp only)) | refine mQ ?_ | ((with_reducible refine qat 86 ?_); (refine qnf rfl (asw_nil b) ?_)) | go_big_quiet_step (fail) | quiet_step (fail)))
    go_wp2_with (first | (go_at_call 223; (refine (asw_any b _ _ _ _ _ w _ [] HM.out (by omega)).mono ?_); rintro e W2 ⟨rfl, p1, cap1, hM2⟩; clear HM; (try clear W1); rename World => W1; have HM := Lib.hid hM2; clear hM2))
    refine ⟨⟨⟨_, HM.out.sub (by repeat (first | exact List.nil_sublist _ | with_reducible refine List.Sublist.cons_cons _ ?_ | refine List.Sublist.cons _ ?_))⟩, rfl⟩, ?_⟩
    (try dsimp only)
    (repeat (first | ((with_reducible refine wpQuiet_nil ?_); (try dsimp only)) | refine mQ ?_ | go_big_quiet_step (fail) | quiet_step (fail)))
    clear HS0 hNE
    go_wp2_with (first | (go_at_call 223; (refine (asw_any b _ _ _ _ ⟨#[10]⟩ w _ [] HM.out (by show _ + 1 ≤ _; omega)).mono ?_); rintro e W2 ⟨rfl, p2, cap2, hM2⟩; clear HM; (try clear W1); rename World => W1; have HM := Lib.hid hM2; clear hM2))
    have HE2 := Lib.hid (show bC B ++ Lib.strCells A ++ Lib.strCells ⟨#[10]⟩ = bC (B ++ (s.data.toList.take i).drop last ++ [10]) by rw [bC_append, bC_append, bC_str, HAd.out]; rfl)
    have HE3 := Lib.hid (show B.length + A.size + 1 = (B ++ (s.data.toList.take i).drop last ++ [10]).length by rw [List.length_append, List.length_append, ← HAd.out]; simp)
    go_roundw
    case rel => exact ⟨i + d, i + d, B ++ (s.data.toList.take i).drop last ++ [10], _, _, p2, cap2, by go_num, by go_num, by simp; omega, rfl, rfl, rfl, by omega, by omega, by omega, by rw [← HE3.out]; omega, HN, Lib.hid (by rw [← HE2.out, ← HE3.out]; exact HM.out)⟩
    case measure => simp [intOf]; omega
   ·have HN := Lib.hid (nl_skip hli hc h13 HI.out)
    by_cases h10 : c = 10
    ·as_aux_lemma =>
     have HMp := Lib.hid (show w.cell? ⟨R, 6 + c.toNat, none⟩ = some (.int .u8 0) from by
      rw [HT.out.map hc256, h10]; rfl)
     clear h13 h10 hc
     go_wp2_with (first | (refine ldx1 (HM.out.old (cells_i HT.out.root 1 rfl)) rfl ?_))
     refine wp_region_mem (by kernel_rfl) (by kernel_rfl) HM.out ?_; intro hNE; (repeat (any_goals (first | ((with_reducible refine qgd ?_); (with_reducible refine skip_q ?_ ?_ ?_); (exact rfl); (rotate_left; (exact (hNE.elim fun p => ⟨p.W, p, rfl⟩)))) | refine mQ ?_ | ((with_reducible refine qat 38 ?_); (refine qsix rfl rfl rfl HC.out ?_)) | ((with_reducible refine qat 41 ?_); (refine qiaa (i := c.toNat) rfl rfl rfl hc256 ?_)) | ((with_reducible refine qat 42 ?_); (refine qd1 (v := .int .u8 0) rfl (fun W ⟨q, hq⟩ => hq ▸ q.mem.old HMp.out) ?_)) | go_big_quiet_step (fail) | quiet_step (fail)))); clear hNE; refine wpQuiet_nil ?_; intro W1 HM1; replace HM := Lib.hid HM1; clear HM1
     go_wp2_with (first | (refine ldx1 (HM.out.old (cells_i HT.out.root 5 rfl)) rfl ?_) | (refine ldx1 (HM.out.old (cells_i HT.out.root 4 rfl)) rfl ?_) | ((with_reducible refine iat 57 ?_); (refine ixk (i := 0) rfl rfl rfl (by decide) ?_)) | (refine ldx1 (HM.out.old (cells_i HT.out.tab 0 rfl)) rfl ?_))
     go_roundw
     case rel => exact ⟨i + 1, last, B, k, kw, p, cap, by go_num, rfl, rfl, rfl, rfl, rfl, by omega, hls, by omega, hBl, HN, HM⟩
     case measure => simp [intOf]; omega
    ·as_aux_lemma =>
     have HMp := Lib.hid (show w.cell? ⟨R, 6 + c.toNat, none⟩ = some (.int .u8 2) from by
      have h1 : c.toNat ≠ 10 := fun e => h10 (UInt8.toNat_inj.1 e)
      have h2 : c.toNat ≠ 13 := fun e => h13 (UInt8.toNat_inj.1 e)
      rw [HT.out.map hc256]
      simp [gv, h1, h2])
     clear h13 h10 hc
     go_wp2_with (first | (refine ldx1 (HM.out.old (cells_i HT.out.root 1 rfl)) rfl ?_))
     refine wp_region_mem (by kernel_rfl) (by kernel_rfl) HM.out ?_; intro hNE; (repeat (any_goals (first | ((with_reducible refine qgd ?_); (with_reducible refine skip_q ?_ ?_ ?_); (exact rfl); (rotate_left; (exact (hNE.elim fun p => ⟨p.W, p, rfl⟩)))) | refine mQ ?_ | ((with_reducible refine qat 38 ?_); (refine qsix rfl rfl rfl HC.out ?_)) | ((with_reducible refine qat 41 ?_); (refine qiaa (i := c.toNat) rfl rfl rfl hc256 ?_)) | ((with_reducible refine qat 42 ?_); (refine qd1 (v := .int .u8 2) rfl (fun W ⟨q, hq⟩ => hq ▸ q.mem.old HMp.out) ?_)) | go_big_quiet_step (fail) | quiet_step (fail)))); clear hNE; refine wpQuiet_nil ?_; intro W1 HM1; replace HM := Lib.hid HM1; clear HM1
     go_wp2_with (first | (refine ldx1 (HM.out.old (cells_i HT.out.root 5 rfl)) rfl ?_))
     go_roundw
     case rel => exact ⟨i + 1, last, B, k, kw, p, cap, by go_num, rfl, rfl, rfl, rfl, rfl, by omega, hls, by omega, hBl, HN, HM⟩
     case measure => simp [intOf]; omega
  ·by_cases hend : i = s.size
   ·as_aux_lemma =>
    subst hend
    have q1 : decide ((s.size : Int) ≤ s.size) = true := decide_eq_true (by omega)
    have q2 : ((s.size : Int) != s.size) = false := by simp
    have HN := Lib.hid (show nlL s.data.toList = B ++ (s.data.toList.take (s.size + 1)).drop last ++ nlL (s.data.toList.drop (s.size + 1)) from by
     have h := HI.out
     have e : s.size = s.data.toList.length := by simp
     generalize s.size = N at h e
     subst e
     exact nl_end h)
    have hem : s.extract s.size s.size = ⟨#[]⟩ := ext_none s
    have HE := Lib.hid hem
    have HL := Lib.hid (fun W (hT : TrieAt W R T n m) => look_nil R T n m W hT)
    clear hem hlt
    go_wp2_with (first | ((with_reducible refine iat 67 ?_); (refine sslf rfl rfl (i := s.size) rfl (Nat.le_refl _) ?_; rw [HE.out])) | (go_at_call 210; (with_reducible refine (HL.out _ (HT.out.mem HM.out)).mono ?_); rintro e w2 ⟨rfl, rfl⟩))
    go_roundw
    case rel => exact ⟨s.size + 1, last, B, k, kw, p, cap, by go_num, rfl, rfl, rfl, rfl, rfl, by omega, hls, by omega, hBl, HN, HM⟩
    case measure => simp [intOf]
   ·obtain rfl : i = s.size + 1 := by omega
    as_aux_lemma =>
    have q1 : decide (((s.size + 1 : Nat) : Int) ≤ s.size) = false := decide_eq_false (by omega)
    have hI : nlL s.data.toList = B ++ s.data.toList.drop last := by
     have h := HI.out
     have e2 : s.data.toList.drop (s.size + 1) = [] := List.drop_of_length_le (by simp)
     rw [e2, List.take_of_length_le (show s.data.toList.length ≤ s.size + 1 by simp)] at h
     simpa [nlL] using h
    by_cases hl : last = s.size
    ·have hE : B = nlL s.data.toList := by
      rw [hI, List.drop_of_length_le (by simp; omega), List.append_nil]
     have HE := Lib.hid hE
     have q2 : ((last : Int) != s.size) = false := by simp; omega
     clear hI hE hl hlt hend HI
     go_wp2_with fail
     go_ret2
     exact ⟨_, p, cap, rfl, by rw [← HE.out]; exact HM.out⟩
    ·have q2 : ((last : Int) != s.size) = true := by simp; omega
     obtain ⟨A, hA⟩ : ∃ A, s.extract last s.size = A := ⟨_, rfl⟩
     have hAd : A.data.toList = s.data.toList.drop last := by
      rw [← hA, Lib.extract_data]
      apply List.take_of_length_le
      simp
     have hAs : A.size = s.size - last := by
      have := congrArg List.length hAd
      simp at this
      omega
     have HA := Lib.hid hA
     have HE2 := Lib.hid (show bC B ++ Lib.strCells A = bC (nlL s.data.toList) by rw [hI, bC_append, bC_str, hAd])
     have HE3 := Lib.hid (show B.length + A.size = (nlL s.data.toList).length by rw [hI, List.length_append, ← hAd]; simp)
     have hmeth := asw_method
     clear hI hA hAd hl hlt hend HI
     go_wp2_with fail
     refine wp_region_steps2 [(true, 0), (true, 1), (true, 2), (true, 3), (false, 4), (true, 5), (true, 6), (false, 7), (true, 8), (true, 9), (true, 10), (true, 11), (true, 12)] (by kernel_rfl) (by kernel_rfl) rfl (by kernel_rfl) (fun _ _ _ _ _ h => h) HM.out _ (.cons _ (.cons _ .slnil)) ?_
     intro hNE W1 HM1; replace HM := Lib.hid HM1; clear HM1
     have HS0 := Lib.hid (HM.out.sub (.cons _ (.cons _ .slnil)))
     simp only [wpSteps, List.getElem?_cons_succ, List.getElem?_cons_zero]
     (repeat (first | ((with_reducible refine wpQuiet_nil ?_); (try dsimp only)) | refine mQ ?_ | ((with_reducible refine qat 121 ?_); (refine qsslf rfl rfl (i := last) rfl hls ?_; rw [HA.out])) | go_big_quiet_step (fail) | quiet_step (fail)))
     go_wp2_with (first | fail)
     refine ⟨⟨⟨_, HM.out.sub (by repeat (first | exact List.nil_sublist _ | with_reducible refine List.Sublist.cons_cons _ ?_ | refine List.Sublist.cons _ ?_))⟩, rfl⟩, ?_⟩
     (try dsimp only)
     (repeat (first | ((with_reducible refine wpQuiet_nil ?_); (try dsimp only)) | refine mQ ?_ | ((with_reducible refine qat 123 ?_); (refine qnf rfl (asw_nil b) ?_)) | go_big_quiet_step (fail) | quiet_step (fail)))
     go_wp2_with (first | (go_at_call 223; (refine (asw_any b _ _ _ _ _ w _ [] HM.out (by omega)).mono ?_); rintro e W2 ⟨rfl, p1, cap1, hM2⟩; clear HM; (try clear W1); rename World => W1; have HM := Lib.hid hM2; clear hM2))
     refine ⟨⟨⟨_, HM.out.sub (by repeat (first | exact List.nil_sublist _ | with_reducible refine List.Sublist.cons_cons _ ?_ | refine List.Sublist.cons _ ?_))⟩, rfl⟩, ?_⟩
     (try dsimp only)
     (repeat (first | ((with_reducible refine wpQuiet_nil ?_); (try dsimp only)) | refine mQ ?_ | go_big_quiet_step (fail) | quiet_step (fail)))
     clear HS0 hNE
     go_wp2_with fail
     go_ret2
     exact ⟨_, p1, cap1, rfl, by rw [← HE2.out, ← HE3.out]; exact HM.out⟩
end Go.Proofs.YtanncakdlflopaaGreatDoor

namespace Go.Proofs.YtanncakdlflopaaGreatDoor
open Go.RowKit
set_option linter.unusedVariables false
set_option linter.unusedSimpArgs false
set_option maxRecDepth 100000

section
variable {P : Program} {ops : Array Oper} {Q : Exit → Act → World → Prop} {a : Act} {W W' w0 : World} {rest : List Oper} {L : List Res}
variable {dst : Option Tmp} {ty0 : TypeId} {pos : String} {after : Array Edge} {gd : Option (Nat × Bool)}
theorem row0_of {B g : Nat} {e : TypeId} {k n : Nat} {cs : List Value} (hl : cs.length = k) (h : (Res.box g e (List.replicate n cs).flatten).holds B W) (hn : n ≤ maxLen) : (Res.row (some ⟨g, 0, none⟩) n e k 0 []).holds B W :=
 ⟨by simp, .inr ⟨g, n, _, rfl, h.1, h.2, Nat.zero_le _, hn, by simp [hl], by simp⟩⟩
/-- A row made with room, nothing in it. -/
theorem mkrow0 {t e : TypeId} {k bytes : Nat} {z : Value} [hR : RowT P t e k bytes z] {x y : Operand} {d d' : Int} {n : Nat} (hw : Region.wanted ⟨dst, .makeSlice t x y, ty0, pos, after, gd⟩ (yielded ops a.tmps) = true) (HM : Mem w0 W L)
  (hx : a.eval x = .int .i64 d) (hy : a.eval y = .int .i64 d') (hd : d = 0) (hd' : d' = (n : Int)) (hn : bytes * n ≤ 140737488355328) (hm : n ≤ maxLen)
  (h : ∀ g W', Mem w0 W' (.row (some ⟨g, 0, none⟩) n e k 0 [] :: L) → wpList P ops Q (⟨dst, .move (.const (.slice (some ⟨g, 0, none⟩) 0 n)), ty0, pos, after, gd⟩ :: rest) a W') : wpList P ops Q (⟨dst, .makeSlice t x y, ty0, pos, after, gd⟩ :: rest) a W :=
 mkcap (cs := z.cells.toList) hw HM hx hy hd hd' (by simp) hn (by unfold maxLen at hm; omega) fun g W1 h1 =>
  h g W1 (h1.turn0 (k := 0) rfl (row0_of (by rw [Array.length_toList]; exact hR.zero) (h1.get (k := 0) rfl) hm) (fun g' e => e))
/-- A text of bytes in a row of the call's own, the empty one too. -/
theorem cvr {src tgt e : TypeId} {x : Operand} {p : Option Addr} {n cap : Nat} {l : List UInt8} {B : Nat} (hs : P.underlying src = some (.slice e)) (he : P.underlying e = some (.int .u8)) (hd : P.underlying tgt = some .string) (hx : a.eval x = .slice p n cap) (hn : n = l.length) (hr : (Res.row p cap e 1 n (bC l)).holds B W)
  (h : wpList P ops Q (⟨dst, .move (.const (.string ⟨l.toArray⟩)), ty0, pos, after, gd⟩ :: rest) a W) : wpList P ops Q (⟨dst, .convert src tgt x, ty0, pos, after, gd⟩ :: rest) a W := by
 cases p with
 | some b =>
  obtain ⟨h1, h2, h3⟩ := row_cells hr 0
  have hb : (⟨b.block, 0, none⟩ : Addr) = b := by cases b; simp_all
  rw [hb, List.drop_zero] at h3
  subst hn
  refine as_move (o := ⟨dst, .convert src tgt x, ty0, pos, after, gd⟩) ?_ h
  have hr2 := run_convert_bytes_back (P := P) W src tgt e b cap l hs he hd (fun j hj => h3 j _ (by simp [bC, List.getElem?_eq_getElem hj]))
  simp only [execOp, hx, Sem.run_bind, hr2, Result.andThen_ok]
  rfl
 | none =>
  have h0 : n = 0 := by
   obtain ⟨_, ⟨_, h0⟩ | ⟨g, cap', cur, hv, _⟩⟩ := (hr : W.ownsRow _ _ _ _ _ _)
   ·exact h0
   ·cases hv
  subst h0
  obtain rfl : l = [] := List.eq_nil_of_length_eq_zero hn.symm
  refine as_move (o := ⟨dst, .convert src tgt x, ty0, pos, after, gd⟩) ?_ h
  have hr2 := run_convert_bytes_nil (P := P) (w := W) src e hs he 0 cap tgt hd
  simp only [execOp, hx, Sem.run_bind, hr2, Result.andThen_ok]
  rfl
end

set_option maxHeartbeats 4000000 in
theorem grepl_any (R T n m : Nat) (s : ByteArray) (w : World) (h : TrieAt w R T n m) (hs : s.size ≤ 1099511627776) :
  Calls Tryz.prog 207 #[.pointer (some ⟨R, 0, none⟩), .string s] w fun e w' => e = .returned (.string ⟨(nlL s.data.toList).toArray⟩) ∧ Below w.heap.size w w' := by
 have HM := Lib.hid (Mem.start w)
 have HT := Lib.hid h
 clear h
 go_enter Tryz.func207, Tryz.ntmps207
 go_wp2_with (first | ((with_reducible refine iat 8 ?_); (refine mkrow0 (n := s.size) rfl HM.out rfl rfl rfl rfl (by omega) (by unfold maxLen; omega) ?_; intro g8 W1 HM1; replace HM := Lib.hid HM1; clear HM1)) | refine mP ?_ | (refine mS ?_; clear HM; intro W1 HM) | (refine hal (dst := some 5) HM rfl ?_; clear HM; intro g5 W1 HM))
 go_wp2_with (first | (go_at_call 208; (refine (gwrite_any R T n m g5 s.size _ s w _ HT.out HM.out hs).mono ?_); rintro e W2 ⟨v, p', cap', rfl, hM2⟩; clear HM; (try clear W1); rename World => W1; have HM := Lib.hid hM2; clear hM2) | ((with_reducible refine iat 14 ?_); (refine cvr (l := nlL s.data.toList) (by kernel_rfl) (by kernel_rfl) (by kernel_rfl) rfl rfl (HM.out.get (k := 1) rfl) ?_)) | refine mP ?_ | (refine mS ?_; clear HM; intro W1 HM) | (refine hal HM rfl ?_; clear HM; intro g1 W1 HM))
 go_ret
 exact ⟨rfl, HM.out.below⟩
end Go.Proofs.YtanncakdlflopaaGreatDoor

namespace Go.Proofs.YtanncakdlflopaaGreatDoor
open Go.RowKit
set_option linter.unusedVariables false
set_option linter.unusedSimpArgs false
set_option maxRecDepth 100000

set_option maxHeartbeats 4000000 in
theorem gbuild_any (b g cap : Nat) (d0 d1 d2 : Value) (w : World)
  (hb : w.heap[b]? = some (.cells #[d0, d1, d2, .nilIface, .slice (some ⟨g, 0, none⟩) 4 cap] 163 (0, 0))) (hS : Cells w ⟨g, 0, none⟩ crL) :
  Calls Tryz.prog 124 #[.pointer (some ⟨b, 0, none⟩)] w fun e w' => ∃ R, e = .returned (.iface 184 (.pointer (some ⟨R, 0, none⟩))) ∧ (∃ T n m, w.heap.size ≤ R ∧ w.heap.size ≤ T ∧ w.heap.size ≤ n ∧ w.heap.size ≤ m ∧ TrieAt w' R T n m) ∧ Below w.heap.size w w' := by
 have c4 : w.cell? ⟨b, 4, none⟩ = some (.slice (some ⟨g, 0, none⟩) 4 cap) := by rw [cell_of_row _ _ _ _ _ _ hb]; rfl
 have e0 : w.cell? ⟨g, 0, none⟩ = some (.string ⟨#[13, 10]⟩) := cells_i hS 0 rfl
 have HS := Lib.hid hS
 clear hb hS
 go_enter Tryz.func124, Tryz.ntmps124
 go_wp2
 go_loopw [4, 5] (fun av iv wr => av = .bool true ∧ iv = .int .i64 0 ∧ wr = w) (fun _ _ _ => 0)
 case atStart => exact ⟨rfl, rfl, rfl⟩
 case round =>
  obtain ⟨rfl, rfl, rfl⟩ := hrel
  go_wp2_with (first | (go_at_call 139; (refine (mkgen_any ⟨g, 0, none⟩ cap _ HS.out).mono ?_); rintro e W2 ⟨R, T, n, m, rfl, hM⟩; have HM := Lib.hid hM; clear hM))
  go_ret
  exact ⟨R, rfl, ⟨T, n, m, ((HM.out.get (k := 2) rfl).lt rfl).1, ((HM.out.get (k := 1) rfl).lt rfl).1, ((HM.out.get (k := 0) rfl).lt rfl).1, ((HM.out.get (k := 3) rfl).lt rfl).1,
   ⟨box_cells (HM.out.get (k := 2) rfl) 0, (row_cells (HM.out.get (k := 1) rfl) 0).2.2, box_cells (HM.out.get (k := 0) rfl) 0, box_cells (HM.out.get (k := 3) rfl) 0⟩⟩, HM.out.below⟩

/-- The trie that lies above B. -/
def TrieIn (B R : Nat) (w : World) : Prop := ∃ T n m, B ≤ R ∧ B ≤ T ∧ B ≤ n ∧ B ≤ m ∧ TrieAt w R T n m
theorem cells_hold {w w' : World} {g : Nat} {v : Value} {cs : List Value} (h : Cells w ⟨g, 0, none⟩ (v :: cs)) (e : g < w.heap.size → w'.heap[g]? = w.heap[g]?) : Cells w' ⟨g, 0, none⟩ (v :: cs) := fun j u hj => by
 have hlt : g < w.heap.size := by
  have := block_lt_of_cell (h 0 v rfl)
  simpa [Addr.add] using this
 have := h j u hj
 rw [add_none] at this ⊢
 rw [World.cell?_of_block (w := w) (e hlt)]
 exact this
theorem trie_firm {B : Nat} (R : Nat) : Firm B (TrieIn B R) := by
 rintro w w' _ hk ⟨T, n, m, h1, h2, h3, h4, h⟩
 exact ⟨T, n, m, h1, h2, h3, h4, cells_hold h.root (hk R h1), cells_hold h.tab (hk T h2), cells_hold h.one (hk n h3), cells_hold h.two (hk m h4)⟩
theorem gmethod (d R : Nat) (w : World) : (method (d + 2) 184 (.pointer (some ⟨R, 0, none⟩)) "Replace").run Tryz.prog w = .ok (207, .pointer (some ⟨R, 0, none⟩)) w := by kernel_rfl

set_option maxHeartbeats 4000000 in
/-- (*Replacer).Replace of the line ends' Replacer, its first call. -/
theorem nlrep_any (b g cap : Nat) (d2 : Value) (s : ByteArray) (w : World) (hgb : g ≠ b)
  (hb : w.heap[b]? = some (.cells #[.int .u32 0, .int .i32 0, d2, .nilIface, .slice (some ⟨g, 0, none⟩) 4 cap] 163 (0, 0))) (hS : ∀ (j : Nat) (u : Value), crL[j]? = some u → w.cell? ⟨g, j, none⟩ = some u) (hs : s.size ≤ 1099511627776) :
  Calls Tryz.prog 88 #[.pointer (some ⟨b, 0, none⟩), .string s] w fun e w' => e = .returned (.string ⟨(nlL s.data.toList).toArray⟩) ∧ Below b w w' := by
 have hsz : (w.setCell ⟨b, 1, none⟩ (.int .i32 1)).heap.size = w.heap.size := by simp [World.setCell]
 have hbL := heap_setCell_same w b 1 _ _ (.int .i32 1) hb
 have hS2 : Cells (w.setCell ⟨b, 1, none⟩ (.int .i32 1)) ⟨g, 0, none⟩ crL := fun j u hj => by
  rw [add_none, Nat.zero_add, World.cell?_setCell_other _ _ _ _ (fun e => hgb (by have := congrArg Addr.block e; simpa using this.symm))]
  exact hS j u hj
 have hBld : Calls Tryz.prog 124 #[.pointer (some ⟨b, 0, none⟩)] (w.setCell ⟨b, 1, none⟩ (.int .i32 1)) fun e w' => ∃ R, e = .returned (.iface 184 (.pointer (some ⟨R, 0, none⟩))) ∧ TrieIn w.heap.size R w' ∧ Below (w.setCell ⟨b, 1, none⟩ (.int .i32 1)).heap.size (w.setCell ⟨b, 1, none⟩ (.int .i32 1)) w' := by
  refine (gbuild_any b g cap _ _ _ _ hbL hS2).mono ?_
  rintro e w' ⟨R, rfl, ⟨T, n, m, h1, h2, h3, h4, h5⟩, h6⟩
  rw [hsz] at h1 h2 h3 h4
  exact ⟨R, rfl, ⟨T, n, m, h1, h2, h3, h4, h5⟩, h6⟩
 have HD := Lib.hid (do_gen b d2 _ _ (fun R => .iface 184 (.pointer (some ⟨R, 0, none⟩))) (TrieIn w.heap.size) w (fun R => trie_firm R) hb (once_gen b _ _ _ _ 184 (TrieIn w.heap.size) _ (fun R => by rw [hsz]; exact trie_firm R) hbL hBld))
 have hbl := block_lt hb
 have hmf : ∀ (fn : Fn) (first cap : Array Value) (w : World), (Instr.makeFunc fn first cap).run Tryz.prog w = .ok (.func fn first cap) w := fun _ _ _ _ => rfl
 clear hb hS hS2 hBld hbL hsz
 go_enter Tryz.func88, Tryz.ntmps88
 go_wp2_with fail
 refine HD.out.mono ?_
 rintro e w1 ⟨R, rfl, htr, hbel, hbR⟩
 have c3 : w1.cell? ⟨b, 3, none⟩ = some (.iface 184 (.pointer (some ⟨R, 0, none⟩))) := by rw [cell_of_row _ _ _ _ _ _ hbR]; rfl
 have HR := Lib.hid htr
 have HBel := Lib.hid hbel
 clear htr hbel hbR
 have hmeth := gmethod
 go_wp2_with fail
 obtain ⟨T, n, m, _, _, _, _, hT⟩ := HR.out
 refine (grepl_any R T n m s _ hT hs).mono ?_
 rintro e w2 ⟨rfl, hb2⟩
 go_wp2
 go_ret
 exact ⟨rfl, HBel.out.trans (hb2.mono (by have := HBel.out.size; omega))⟩
end Go.Proofs.YtanncakdlflopaaGreatDoor
