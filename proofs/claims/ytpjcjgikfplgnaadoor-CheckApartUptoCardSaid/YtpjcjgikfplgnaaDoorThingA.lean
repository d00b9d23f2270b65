/- The small functions of check's machine: fits, items, leaf; told by its two ways. leaf of check. items of check. named of check: the map of the names. The reference's Function: what it answers. -/
import Derived.Test.YtpjcjgikfplgnaaDoorCheckA
import Derived.Test.YtpjcjgikfplgnaaDoorSepA
namespace Go.Proofs.YtpjcjgikfplgnaaDoor
open Go.RowKit
set_option linter.unusedVariables false
set_option linter.unusedSimpArgs false
set_option maxRecDepth 100000

/-- A test with the type of what it compares; a symbol. -/
structure AskD where
  ord : Bool
  t : TyD
def AskD.cs (a : AskD) : List Value := [.bool a.ord, .int .i64 a.t.k, .int .i64 a.t.o]
theorem AskD.cs_len (a : AskD) : a.cs.length = 3 := rfl
def askB (t : TyD) (a : AskD) : Bool := if a.ord then ordB t.k t.o a.t.k a.t.o else meetB t.k t.o a.t.k a.t.o
def asksB (t : TyD) (l : List AskD) : Bool := l.all (askB t)
theorem asksB_cons (t : TyD) (a : AskD) (l : List AskD) : asksB t (a :: l) = (askB t a && asksB t l) := rfl
structure SymD where
  name : ByteArray
  t : TyD
def SymD.cs (s : SymD) : List Value := [.string s.name, .int .i64 s.t.k, .int .i64 s.t.o]
theorem SymD.cs_len (s : SymD) : s.cs.length = 3 := rfl
def TyD.val (t : TyD) : Value := .agg #[.int .i64 t.k, .int .i64 t.o]
def symE (l : List SymD) : List (ByteArray × Value) := l.map fun s => (s.name, s.t.val)
def lookT (s : ByteArray) : List SymD → Option TyD
  | [] => none
  | x :: l => if s = x.name then some x.t else lookT s l
theorem find_look (s : ByteArray) : ∀ l : List SymD, findL s (symE l) = (lookT s l).map TyD.val
  | [] => rfl
  | x :: l => by
    show (if s = x.name then some x.t.val else findL s (symE l)) = _
    rw [find_look s l]
    show _ = Option.map TyD.val (if s = x.name then some x.t else lookT s l)
    split <;> rfl
def MapAt (w : World) (g : Nat) (l : List SymD) : Prop := w.heap[g]? = some (.map (mapEs (symE l)) (symE l).length)
theorem Mem.oldmap {w0 W : World} {L : List Res} (h : Mem w0 W L) {g : Nat} {l : List SymD} (hm : MapAt w0 g l) : (Res.map g (mapEs (symE l)) (symE l).length).holds 0 W :=
  ⟨Nat.zero_le _, (h.below.block g (Array.getElem?_eq_some_iff.1 hm).1).trans hm⟩
instance : MapT Tryd.prog 54 25 (.agg #[.int .i64 0, .int .i64 0]) := ⟨⟨9, by kernel_rfl, by kernel_rfl⟩, fun w => by kernel_rfl⟩

theorem told_yes (k o : Int) (w : World) : Calls Tryd.prog 82 #[.bool true, .agg #[.int .i64 k, .int .i64 o]] w fun e w' => e = .returned (.tuple #[.agg #[.int .i64 k, .int .i64 o], .int .i64 0]) ∧ RowKit.Below w.heap.size w w' := told_any true k o w
theorem told_no (k o : Int) (w : World) : Calls Tryd.prog 82 #[.bool false, .agg #[.int .i64 k, .int .i64 o]] w fun e w' => e = .returned (.tuple #[.agg #[.int .i64 0, .int .i64 0], .int .i64 9]) ∧ RowKit.Below w.heap.size w w' := told_any false k o w
theorem must_yes (k : Int) (w : World) : Calls Tryd.prog 57 #[.bool true, .int .i64 k] w fun e w' => e = .returned (.tuple #[.agg #[.int .i64 k, .int .i64 0], .int .i64 0]) ∧ RowKit.Below w.heap.size w w' := must_any true k w
theorem must_no (k : Int) (w : World) : Calls Tryd.prog 57 #[.bool false, .int .i64 k] w fun e w' => e = .returned (.tuple #[.agg #[.int .i64 0, .int .i64 0], .int .i64 9]) ∧ RowKit.Below w.heap.size w w' := must_any false k w

set_option maxHeartbeats 2000000 in
theorem fits_any (tk tz : Int) (q : Option Addr) (c : Nat) (qs : List AskD) (t : TyD) (w : World) (hS : Sl w q (qs.flatMap AskD.cs)) (hf : ∀ a, a ∈ qs → a.t.form) (ht : t.form) (hl : qs.length ≤ 4611686018427387904) :
    Calls Tryd.prog 26 #[.agg #[.int .i64 tk, .int .i64 tz, .slice q qs.length c], .agg #[.int .i64 t.k, .int .i64 t.o]] w fun e w' => e = .returned (.bool (asksB t qs)) ∧ Below w.heap.size w w' := by
  have HM := Lib.hid (Mem.start w)
  obtain ⟨r, hr⟩ : ∃ r, asksB t qs = r := ⟨_, rfl⟩
  rw [hr]
  have HR := Lib.hid (show asksB t (qs.drop 0) = r from hr)
  have HS := Lib.hid hS
  have HF := Lib.hid hf
  have HK := Lib.hid ht
  clear hr hS hf ht
  go_enter Tryd.func26, Tryd.ntmps26
  go_wp2_with (first | ((with_reducible refine igd ?_); (with_reducible refine skip_op ?_ ?_); (exact rfl)) | ((with_reducible refine iload ?_); first | refine ldb1 HM.out 0 rfl rfl rfl ?_ | refine ldb1 HM.out 1 rfl rfl rfl ?_ | refine ldb1 HM.out 2 rfl rfl rfl ?_ | refine ldbW HM.out 0 rfl rfl rfl ?_ | refine ldbW HM.out 1 rfl rfl rfl ?_ | refine ldbW HM.out 2 rfl rfl rfl ?_ | ((first | refine ldbS HM.out 0 rfl rfl rfl ?_ | refine ldbS HM.out 1 rfl rfl rfl ?_ | refine ldbS HM.out 2 rfl rfl rfl ?_); simp only [List.take, List.drop])) | ((with_reducible refine istore ?_); (first | ((first | refine stbW rfl HM.out 0 rfl rfl rfl rfl rfl rfl ?_ | refine stbW rfl HM.out 1 rfl rfl rfl rfl rfl rfl ?_ | refine stbW rfl HM.out 2 rfl rfl rfl rfl rfl rfl ?_); intro W1 HM1; replace HM := Lib.hid HM1; clear HM1; simp only [List.set] at HM) | ((first | refine stbS rfl HM.out 0 rfl rfl rfl rfl rfl rfl ?_ | refine stbS rfl HM.out 1 rfl rfl rfl rfl rfl rfl ?_ | refine stbS rfl HM.out 2 rfl rfl rfl rfl rfl rfl ?_); intro W1 HM1; replace HM := Lib.hid HM1; clear HM1; simp only [lss, Nat.reduceAdd] at HM))) | ((with_reducible refine ibox (d := some 2) ?_); refine bxA rfl HM.out rfl ?_; intro g2 W1 HM1; replace HM := Lib.hid HM1; clear HM1) | ((with_reducible refine ibox (d := some 3) ?_); refine bxA rfl HM.out rfl ?_; intro g3 W1 HM1; replace HM := Lib.hid HM1; clear HM1) | ((with_reducible refine ialloc ?_); refine alb rfl HM.out ?_; intro g1 W1 HM1; replace HM := Lib.hid HM1; clear HM1))
  go_loopw [10] (fun iv wr => ∃ i : Nat, iv = .int .i64 i ∧ i ≤ qs.length ∧ Hid (asksB t (qs.drop i) = r) ∧ Hid (Mem w wr [.box g3 25 [.int .i64 t.k, .int .i64 t.o], .box g2 63 [.int .i64 tk, .int .i64 tz, .slice q qs.length c]])) (fun iv _ => qs.length - (intOf iv).toNat)
  case atStart => exact ⟨0, rfl, by omega, HR, HM⟩
  case round =>
    clear HM
    obtain ⟨i, rfl, hi, HI, HM⟩ := hrel
    by_cases hlt : i < qs.length
    · obtain ⟨b, rfl, hb⟩ := HS.out.some_at AskD.cs_len (by decide) hlt
      obtain ⟨x, hx⟩ : ∃ x, qs[i]? = some x := ⟨_, List.getElem?_eq_getElem hlt⟩
      have E1 := Lib.hid (hb.elem AskD.cs 3 AskD.cs_len hx)
      have hxf := HF.out x (List.mem_of_getElem? hx)
      obtain ⟨m, hm⟩ : ∃ m, askB t x = m := ⟨_, rfl⟩
      have HI2 := Lib.hid (show (m && asksB t (qs.drop (i + 1))) = r by rw [← HI.out, drop_at hx, asksB_cons, hm])
      have hlt3 := Lib.hid (show i + 1 ≤ qs.length from hlt)
      have d1 : decide ((i : Int) < qs.length) = true := decide_eq_true (by omega)
      obtain ⟨xo, xt⟩ := x
      have E2 := Lib.hid (show Cells w (b.add (i * 3)) [.bool xo, .int .i64 xt.k, .int .i64 xt.o] from E1.out)
      unfold askB at hm
      clear hb hx HI E1
      have E1 := E2
      clear E2
      cases xo
      · have HMt := Lib.hid (fun W => (show meetB t.k t.o xt.k xt.o = m from hm) ▸ meet_any t.k t.o xt.k xt.o W HK.out hxf)
        clear hm hxf
        cases m
        · have HB := Lib.hid (show r = false by rw [← HI2.out]; rfl)
          go_wp2_with (first | ((with_reducible refine igd ?_); (with_reducible refine skip_op ?_ ?_); (exact rfl)) | ((with_reducible refine iload ?_); first | refine ldb1 HM.out 0 rfl rfl rfl ?_ | refine ldb1 HM.out 1 rfl rfl rfl ?_ | refine ldb1 HM.out 2 rfl rfl rfl ?_ | refine ldb1 HM.out 3 rfl rfl rfl ?_ | refine ldbW HM.out 0 rfl rfl rfl ?_ | refine ldbW HM.out 1 rfl rfl rfl ?_ | refine ldbW HM.out 2 rfl rfl rfl ?_ | refine ldbW HM.out 3 rfl rfl rfl ?_ | ((first | refine ldbS HM.out 0 rfl rfl rfl ?_ | refine ldbS HM.out 1 rfl rfl rfl ?_ | refine ldbS HM.out 2 rfl rfl rfl ?_ | refine ldbS HM.out 3 rfl rfl rfl ?_); simp only [List.take, List.drop])) | ((with_reducible refine istore ?_); (first | ((first | refine stbW rfl HM.out 0 rfl rfl rfl rfl rfl rfl ?_ | refine stbW rfl HM.out 1 rfl rfl rfl rfl rfl rfl ?_ | refine stbW rfl HM.out 2 rfl rfl rfl rfl rfl rfl ?_ | refine stbW rfl HM.out 3 rfl rfl rfl rfl rfl rfl ?_); intro W1 HM1; replace HM := Lib.hid HM1; clear HM1; simp only [List.set] at HM) | ((first | refine stbS rfl HM.out 0 rfl rfl rfl rfl rfl rfl ?_ | refine stbS rfl HM.out 1 rfl rfl rfl rfl rfl rfl ?_ | refine stbS rfl HM.out 2 rfl rfl rfl rfl rfl rfl ?_ | refine stbS rfl HM.out 3 rfl rfl rfl rfl rfl rfl ?_); intro W1 HM1; replace HM := Lib.hid HM1; clear HM1; simp only [lss, Nat.reduceAdd] at HM))) | ((with_reducible refine ialloc (d := some 6) ?_); refine alb rfl HM.out ?_; intro g6 W1 HM1; replace HM := Lib.hid HM1; clear HM1) | ((with_reducible refine ibox ?_); refine bxA rfl HM.out rfl ?_; intro g1 W1 HM1; replace HM := Lib.hid HM1; clear HM1) | ((with_reducible refine iat 12 ?_); (refine ixa rfl rfl rfl hlt ?_)) | ((with_reducible refine iat 13 ?_); (refine ldxW (HM.out.olds E1.out) rfl rfl ?_)) | (go_at_call 46; (with_reducible refine (HMt.out _).mono ?_); rintro e W1 ⟨rfl, hb⟩; replace HM := Lib.hid (HM.out.next hb); clear hb))
          go_ret
          exact ⟨by rw [HB.out]; rfl, HM.out.below⟩
        · have HB := Lib.hid (show asksB t (qs.drop (i + 1)) = r by rw [← HI2.out]; rfl)
          go_wp2_with (first | ((with_reducible refine igd ?_); (with_reducible refine skip_op ?_ ?_); (exact rfl)) | ((with_reducible refine iload ?_); first | refine ldb1 HM.out 0 rfl rfl rfl ?_ | refine ldb1 HM.out 1 rfl rfl rfl ?_ | refine ldb1 HM.out 2 rfl rfl rfl ?_ | refine ldb1 HM.out 3 rfl rfl rfl ?_ | refine ldbW HM.out 0 rfl rfl rfl ?_ | refine ldbW HM.out 1 rfl rfl rfl ?_ | refine ldbW HM.out 2 rfl rfl rfl ?_ | refine ldbW HM.out 3 rfl rfl rfl ?_ | ((first | refine ldbS HM.out 0 rfl rfl rfl ?_ | refine ldbS HM.out 1 rfl rfl rfl ?_ | refine ldbS HM.out 2 rfl rfl rfl ?_ | refine ldbS HM.out 3 rfl rfl rfl ?_); simp only [List.take, List.drop])) | ((with_reducible refine istore ?_); (first | ((first | refine stbW rfl HM.out 0 rfl rfl rfl rfl rfl rfl ?_ | refine stbW rfl HM.out 1 rfl rfl rfl rfl rfl rfl ?_ | refine stbW rfl HM.out 2 rfl rfl rfl rfl rfl rfl ?_ | refine stbW rfl HM.out 3 rfl rfl rfl rfl rfl rfl ?_); intro W1 HM1; replace HM := Lib.hid HM1; clear HM1; simp only [List.set] at HM) | ((first | refine stbS rfl HM.out 0 rfl rfl rfl rfl rfl rfl ?_ | refine stbS rfl HM.out 1 rfl rfl rfl rfl rfl rfl ?_ | refine stbS rfl HM.out 2 rfl rfl rfl rfl rfl rfl ?_ | refine stbS rfl HM.out 3 rfl rfl rfl rfl rfl rfl ?_); intro W1 HM1; replace HM := Lib.hid HM1; clear HM1; simp only [lss, Nat.reduceAdd] at HM))) | ((with_reducible refine ialloc (d := some 6) ?_); refine alb rfl HM.out ?_; intro g6 W1 HM1; replace HM := Lib.hid HM1; clear HM1) | ((with_reducible refine ibox ?_); refine bxA rfl HM.out rfl ?_; intro g1 W1 HM1; replace HM := Lib.hid HM1; clear HM1) | ((with_reducible refine iat 12 ?_); (refine ixa rfl rfl rfl hlt ?_)) | ((with_reducible refine iat 13 ?_); (refine ldxW (HM.out.olds E1.out) rfl rfl ?_)) | (go_at_call 46; (with_reducible refine (HMt.out _).mono ?_); rintro e W1 ⟨rfl, hb⟩; replace HM := Lib.hid (HM.out.next hb); clear hb))
          go_roundw
          case rel => exact ⟨i + 1, by go_num, hlt3.out, HB, Lib.hid (HM.out.sub (List.sublist_cons_self _ _))⟩
          case measure => have := hlt3.out; simp [intOf]; omega
      · have HMt := Lib.hid (fun W => (show ordB t.k t.o xt.k xt.o = m from hm) ▸ ordered_any t.k t.o xt.k xt.o W HK.out hxf)
        clear hm hxf
        cases m
        · have HB := Lib.hid (show r = false by rw [← HI2.out]; rfl)
          go_wp2_with (first | ((with_reducible refine igd ?_); (with_reducible refine skip_op ?_ ?_); (exact rfl)) | ((with_reducible refine iload ?_); first | refine ldb1 HM.out 0 rfl rfl rfl ?_ | refine ldb1 HM.out 1 rfl rfl rfl ?_ | refine ldb1 HM.out 2 rfl rfl rfl ?_ | refine ldb1 HM.out 3 rfl rfl rfl ?_ | refine ldbW HM.out 0 rfl rfl rfl ?_ | refine ldbW HM.out 1 rfl rfl rfl ?_ | refine ldbW HM.out 2 rfl rfl rfl ?_ | refine ldbW HM.out 3 rfl rfl rfl ?_ | ((first | refine ldbS HM.out 0 rfl rfl rfl ?_ | refine ldbS HM.out 1 rfl rfl rfl ?_ | refine ldbS HM.out 2 rfl rfl rfl ?_ | refine ldbS HM.out 3 rfl rfl rfl ?_); simp only [List.take, List.drop])) | ((with_reducible refine istore ?_); (first | ((first | refine stbW rfl HM.out 0 rfl rfl rfl rfl rfl rfl ?_ | refine stbW rfl HM.out 1 rfl rfl rfl rfl rfl rfl ?_ | refine stbW rfl HM.out 2 rfl rfl rfl rfl rfl rfl ?_ | refine stbW rfl HM.out 3 rfl rfl rfl rfl rfl rfl ?_); intro W1 HM1; replace HM := Lib.hid HM1; clear HM1; simp only [List.set] at HM) | ((first | refine stbS rfl HM.out 0 rfl rfl rfl rfl rfl rfl ?_ | refine stbS rfl HM.out 1 rfl rfl rfl rfl rfl rfl ?_ | refine stbS rfl HM.out 2 rfl rfl rfl rfl rfl rfl ?_ | refine stbS rfl HM.out 3 rfl rfl rfl rfl rfl rfl ?_); intro W1 HM1; replace HM := Lib.hid HM1; clear HM1; simp only [lss, Nat.reduceAdd] at HM))) | ((with_reducible refine ialloc (d := some 6) ?_); refine alb rfl HM.out ?_; intro g6 W1 HM1; replace HM := Lib.hid HM1; clear HM1) | ((with_reducible refine ibox ?_); refine bxA rfl HM.out rfl ?_; intro g1 W1 HM1; replace HM := Lib.hid HM1; clear HM1) | ((with_reducible refine iat 12 ?_); (refine ixa rfl rfl rfl hlt ?_)) | ((with_reducible refine iat 13 ?_); (refine ldxW (HM.out.olds E1.out) rfl rfl ?_)) | (go_at_call 45; (with_reducible refine (HMt.out _).mono ?_); rintro e W1 ⟨rfl, hb⟩; replace HM := Lib.hid (HM.out.next hb); clear hb))
          go_ret
          exact ⟨by rw [HB.out]; rfl, HM.out.below⟩
        · have HB := Lib.hid (show asksB t (qs.drop (i + 1)) = r by rw [← HI2.out]; rfl)
          go_wp2_with (first | ((with_reducible refine igd ?_); (with_reducible refine skip_op ?_ ?_); (exact rfl)) | ((with_reducible refine iload ?_); first | refine ldb1 HM.out 0 rfl rfl rfl ?_ | refine ldb1 HM.out 1 rfl rfl rfl ?_ | refine ldb1 HM.out 2 rfl rfl rfl ?_ | refine ldb1 HM.out 3 rfl rfl rfl ?_ | refine ldbW HM.out 0 rfl rfl rfl ?_ | refine ldbW HM.out 1 rfl rfl rfl ?_ | refine ldbW HM.out 2 rfl rfl rfl ?_ | refine ldbW HM.out 3 rfl rfl rfl ?_ | ((first | refine ldbS HM.out 0 rfl rfl rfl ?_ | refine ldbS HM.out 1 rfl rfl rfl ?_ | refine ldbS HM.out 2 rfl rfl rfl ?_ | refine ldbS HM.out 3 rfl rfl rfl ?_); simp only [List.take, List.drop])) | ((with_reducible refine istore ?_); (first | ((first | refine stbW rfl HM.out 0 rfl rfl rfl rfl rfl rfl ?_ | refine stbW rfl HM.out 1 rfl rfl rfl rfl rfl rfl ?_ | refine stbW rfl HM.out 2 rfl rfl rfl rfl rfl rfl ?_ | refine stbW rfl HM.out 3 rfl rfl rfl rfl rfl rfl ?_); intro W1 HM1; replace HM := Lib.hid HM1; clear HM1; simp only [List.set] at HM) | ((first | refine stbS rfl HM.out 0 rfl rfl rfl rfl rfl rfl ?_ | refine stbS rfl HM.out 1 rfl rfl rfl rfl rfl rfl ?_ | refine stbS rfl HM.out 2 rfl rfl rfl rfl rfl rfl ?_ | refine stbS rfl HM.out 3 rfl rfl rfl rfl rfl rfl ?_); intro W1 HM1; replace HM := Lib.hid HM1; clear HM1; simp only [lss, Nat.reduceAdd] at HM))) | ((with_reducible refine ialloc (d := some 6) ?_); refine alb rfl HM.out ?_; intro g6 W1 HM1; replace HM := Lib.hid HM1; clear HM1) | ((with_reducible refine ibox ?_); refine bxA rfl HM.out rfl ?_; intro g1 W1 HM1; replace HM := Lib.hid HM1; clear HM1) | ((with_reducible refine iat 12 ?_); (refine ixa rfl rfl rfl hlt ?_)) | ((with_reducible refine iat 13 ?_); (refine ldxW (HM.out.olds E1.out) rfl rfl ?_)) | (go_at_call 45; (with_reducible refine (HMt.out _).mono ?_); rintro e W1 ⟨rfl, hb⟩; replace HM := Lib.hid (HM.out.next hb); clear hb))
          go_roundw
          case rel => exact ⟨i + 1, by go_num, hlt3.out, HB, Lib.hid (HM.out.sub (List.sublist_cons_self _ _))⟩
          case measure => have := hlt3.out; simp [intOf]; omega
    · obtain rfl : i = qs.length := by omega
      have hr : r = true := by rw [← HI.out, List.drop_of_length_le (Nat.le_refl _)]; rfl
      subst hr
      have d1 : decide ((qs.length : Int) < qs.length) = false := by simp
      go_wp2
      go_ret
      exact ⟨rfl, HM.out.below⟩
end Go.Proofs.YtpjcjgikfplgnaaDoor

namespace Go.Proofs.YtpjcjgikfplgnaaDoor
open Go.RowKit
set_option linter.unusedVariables false
set_option linter.unusedSimpArgs false
set_option maxRecDepth 100000

/-- The type of a node without parts. -/
def leafF (l : List SymD) (op : Int) (s : ByteArray) : TyD × Int :=
  if op = 2 ∨ op = 3 then (⟨1, 0⟩, 0) else if op = 4 then (⟨2, 0⟩, 0) else if op = 5 then (⟨3, 0⟩, 0) else if op = 6 then (⟨4, 0⟩, 0) else if op = 7 then (match lookT s l with | some t => (t, 0) | none => (⟨0, 0⟩, 8)) else (⟨0, 0⟩, 0)
def resV (r : TyD × Int) : Value := .tuple #[.agg #[.int .i64 r.1.k, .int .i64 r.1.o], .int .i64 r.2]
/-- A checker: its names, its stack. -/
def CheckerAt (w : World) (gc gm : Nat) (sv : Value) (l : List SymD) : Prop := Cells w ⟨gc, 0, none⟩ [.map (some gm), sv] ∧ MapAt w gm l
set_option maxHeartbeats 4000000 in
theorem leaf_any (gc gm : Nat) (sv : Value) (l : List SymD) (n : NodeD) (w : World) (hC : CheckerAt w gc gm sv l) :
    Calls Tryd.prog 87 #[.pointer (some ⟨gc, 0, none⟩), .agg n.cs.toArray] w fun e w' => e = .returned (resV (leafF l n.op n.text)) ∧ Below w.heap.size w w' := by
  have HM := Lib.hid (Mem.start w)
  obtain ⟨op, kids, text, neg, hi, lo, sc, day⟩ := n
  have HC := Lib.hid hC
  clear hC
  by_cases h7 : op = 7
  · subst h7
    obtain ⟨r, hr⟩ : ∃ r, lookT text l = r := ⟨_, rfl⟩
    have HV := Lib.hid (show findL text (symE l) = r.map TyD.val by rw [find_look, hr])
    have HL := Lib.hid (show leafF l 7 text = r.elim (⟨0, 0⟩, 8) (fun t => (t, 0)) by unfold leafF; rw [if_neg (by decide), if_neg (by decide), if_neg (by decide), if_neg (by decide), if_pos rfl, hr]; cases r <;> rfl)
    clear hr
    cases r
    all_goals
      go_enter Tryd.func87, Tryd.ntmps87
      go_wp2_with (first | ((with_reducible refine inilCheck ?_); (refine lnil rfl ?_)) | ((with_reducible refine iload ?_); first | refine ldb1 HM.out 0 rfl rfl rfl ?_ | refine ldb1 HM.out 1 rfl rfl rfl ?_ | refine ldb1 HM.out 2 rfl rfl rfl ?_ | refine ldb1 HM.out 3 rfl rfl rfl ?_ | refine ldbW HM.out 0 rfl rfl rfl ?_ | refine ldbW HM.out 1 rfl rfl rfl ?_ | refine ldbW HM.out 2 rfl rfl rfl ?_ | refine ldbW HM.out 3 rfl rfl rfl ?_ | ((first | refine ldbS HM.out 0 rfl rfl rfl ?_ | refine ldbS HM.out 1 rfl rfl rfl ?_ | refine ldbS HM.out 2 rfl rfl rfl ?_ | refine ldbS HM.out 3 rfl rfl rfl ?_); simp only [List.take, List.drop])) | ((with_reducible refine istore ?_); (first | ((first | refine stbW rfl HM.out 0 rfl rfl rfl rfl rfl rfl ?_ | refine stbW rfl HM.out 1 rfl rfl rfl rfl rfl rfl ?_ | refine stbW rfl HM.out 2 rfl rfl rfl rfl rfl rfl ?_ | refine stbW rfl HM.out 3 rfl rfl rfl rfl rfl rfl ?_); intro W1 HM1; replace HM := Lib.hid HM1; clear HM1; simp only [List.set] at HM) | ((first | refine stbS rfl HM.out 0 rfl rfl rfl rfl rfl rfl ?_ | refine stbS rfl HM.out 1 rfl rfl rfl rfl rfl rfl ?_ | refine stbS rfl HM.out 2 rfl rfl rfl rfl rfl rfl ?_ | refine stbS rfl HM.out 3 rfl rfl rfl rfl rfl rfl ?_); intro W1 HM1; replace HM := Lib.hid HM1; clear HM1; simp only [lss, Nat.reduceAdd] at HM))) | ((with_reducible refine ibox (d := some 3) ?_); refine bxA rfl HM.out rfl ?_; intro g3 W1 HM1; replace HM := Lib.hid HM1; clear HM1) | ((with_reducible refine ialloc (d := some 4) ?_); refine alb rfl HM.out ?_; intro g4 W1 HM1; replace HM := Lib.hid HM1; clear HM1) | ((with_reducible refine ialloc (d := some 6) ?_); refine alb rfl HM.out ?_; intro g6 W1 HM1; replace HM := Lib.hid HM1; clear HM1))
      refine wp_region_steps2 [(true, 0), (true, 1), (true, 2), (true, 3), (true, 4), (true, 5), (true, 6), (true, 7), (true, 8), (true, 9), (false, 10), (false, 11), (true, 12)] (by kernel_rfl) (by kernel_rfl) rfl (by kernel_rfl) (fun _ _ _ _ _ h => h) HM.out _ (.cons_cons _ (.cons_cons _ .slnil)) ?_
      intro hNE W1 HM1; replace HM := Lib.hid HM1; clear HM1
      have HS0 := Lib.hid (HM.out.sub (.cons_cons _ (.cons_cons _ .slnil)))
      simp only [wpSteps, List.getElem?_cons_succ, List.getElem?_cons_zero]
      (repeat (first | ((with_reducible refine qnilCheck ?_); (refine qnil rfl ?_)) | ((with_reducible refine wpQuiet_nil ?_); (try dsimp only)) | ((with_reducible refine qload ?_); first | (refine qdb1 HS0.out 0 rfl rfl rfl ?_) | (refine qdb1 HS0.out 1 rfl rfl rfl ?_)) | ((with_reducible refine qat 29 ?_); (refine qdx0 (HC.out.1) rfl rfl ?_)) | ((with_reducible refine qat 32 ?_); (refine qlkm (l := symE l) (B := 0) (fun W ⟨q, hq⟩ => hq ▸ q.mem.oldmap HC.out.2) rfl rfl ?_; rw [HV.out]; simp only [Option.map_none, Option.map_some, Option.getD_none, Option.getD_some, Option.isSome_none, Option.isSome_some, TyD.val])) | go_big_quiet_step (fail) | quiet_step (fail)))
      go_wp2_with (first | ((with_reducible refine ialloc (d := some 6) ?_); refine alb rfl HM.out ?_; intro g6 W1 HM1; replace HM := Lib.hid HM1; clear HM1))
      refine ⟨⟨⟨_, HM.out.sub (by repeat (first | exact List.nil_sublist _ | with_reducible refine List.Sublist.cons_cons _ ?_ | refine List.Sublist.cons _ ?_))⟩, rfl⟩, ?_⟩
      (try dsimp only)
      go_wp2_with (first | ((with_reducible refine istore ?_); (first | ((first | refine stbW rfl HM.out 0 rfl rfl rfl rfl rfl rfl ?_ | refine stbW rfl HM.out 1 rfl rfl rfl rfl rfl rfl ?_ | refine stbW rfl HM.out 2 rfl rfl rfl rfl rfl rfl ?_ | refine stbW rfl HM.out 3 rfl rfl rfl rfl rfl rfl ?_); intro W1 HM1; replace HM := Lib.hid HM1; clear HM1; simp only [List.set] at HM) | ((first | refine stbS rfl HM.out 0 rfl rfl rfl rfl rfl rfl ?_ | refine stbS rfl HM.out 1 rfl rfl rfl rfl rfl rfl ?_ | refine stbS rfl HM.out 2 rfl rfl rfl rfl rfl rfl ?_ | refine stbS rfl HM.out 3 rfl rfl rfl rfl rfl rfl ?_); intro W1 HM1; replace HM := Lib.hid HM1; clear HM1; simp only [lss, Nat.reduceAdd] at HM))))
      refine ⟨⟨⟨_, HM.out.sub (by repeat (first | exact List.nil_sublist _ | with_reducible refine List.Sublist.cons_cons _ ?_ | refine List.Sublist.cons _ ?_))⟩, rfl⟩, ?_⟩
      (try dsimp only)
      (repeat (first | ((with_reducible refine wpQuiet_nil ?_); (try dsimp only)) | go_big_quiet_step (fail) | quiet_step (fail)))
      clear HS0 hNE
      go_wp2_with (first | ((with_reducible refine inilCheck ?_); (refine lnil rfl ?_)) | ((with_reducible refine iload ?_); first | refine ldb1 HM.out 0 rfl rfl rfl ?_ | refine ldb1 HM.out 1 rfl rfl rfl ?_ | refine ldb1 HM.out 2 rfl rfl rfl ?_ | refine ldb1 HM.out 3 rfl rfl rfl ?_ | refine ldbW HM.out 0 rfl rfl rfl ?_ | refine ldbW HM.out 1 rfl rfl rfl ?_ | refine ldbW HM.out 2 rfl rfl rfl ?_ | refine ldbW HM.out 3 rfl rfl rfl ?_ | ((first | refine ldbS HM.out 0 rfl rfl rfl ?_ | refine ldbS HM.out 1 rfl rfl rfl ?_ | refine ldbS HM.out 2 rfl rfl rfl ?_ | refine ldbS HM.out 3 rfl rfl rfl ?_); simp only [List.take, List.drop])) | ((with_reducible refine istore ?_); (first | ((first | refine stbW rfl HM.out 0 rfl rfl rfl rfl rfl rfl ?_ | refine stbW rfl HM.out 1 rfl rfl rfl rfl rfl rfl ?_ | refine stbW rfl HM.out 2 rfl rfl rfl rfl rfl rfl ?_ | refine stbW rfl HM.out 3 rfl rfl rfl rfl rfl rfl ?_); intro W1 HM1; replace HM := Lib.hid HM1; clear HM1; simp only [List.set] at HM) | ((first | refine stbS rfl HM.out 0 rfl rfl rfl rfl rfl rfl ?_ | refine stbS rfl HM.out 1 rfl rfl rfl rfl rfl rfl ?_ | refine stbS rfl HM.out 2 rfl rfl rfl rfl rfl rfl ?_ | refine stbS rfl HM.out 3 rfl rfl rfl rfl rfl rfl ?_); intro W1 HM1; replace HM := Lib.hid HM1; clear HM1; simp only [lss, Nat.reduceAdd] at HM))) | ((with_reducible refine ibox (d := some 3) ?_); refine bxA rfl HM.out rfl ?_; intro g3 W1 HM1; replace HM := Lib.hid HM1; clear HM1) | ((with_reducible refine ialloc (d := some 4) ?_); refine alb rfl HM.out ?_; intro g4 W1 HM1; replace HM := Lib.hid HM1; clear HM1) | ((with_reducible refine ialloc (d := some 6) ?_); refine alb rfl HM.out ?_; intro g6 W1 HM1; replace HM := Lib.hid HM1; clear HM1))
      exact bodyPost_ret (res_box_tmp rfl HM.out 1 rfl rfl rfl rfl) rfl ⟨by rw [HL.out]; rfl, HM.out.below⟩
  by_cases h : op = 2 ∨ op = 3 ∨ op = 4 ∨ op = 5 ∨ op = 6
  · clear h7
    rcases h with rfl | rfl | rfl | rfl | rfl
    all_goals
      go_enter Tryd.func87, Tryd.ntmps87
      go_wp2_with (first | ((with_reducible refine inilCheck ?_); (refine lnil rfl ?_)) | ((with_reducible refine iload ?_); first | refine ldb1 HM.out 0 rfl rfl rfl ?_ | refine ldb1 HM.out 1 rfl rfl rfl ?_ | refine ldb1 HM.out 2 rfl rfl rfl ?_ | refine ldbW HM.out 0 rfl rfl rfl ?_ | refine ldbW HM.out 1 rfl rfl rfl ?_ | refine ldbW HM.out 2 rfl rfl rfl ?_ | ((first | refine ldbS HM.out 0 rfl rfl rfl ?_ | refine ldbS HM.out 1 rfl rfl rfl ?_ | refine ldbS HM.out 2 rfl rfl rfl ?_); simp only [List.take, List.drop])) | ((with_reducible refine istore ?_); (first | ((first | refine stbW rfl HM.out 0 rfl rfl rfl rfl rfl rfl ?_ | refine stbW rfl HM.out 1 rfl rfl rfl rfl rfl rfl ?_ | refine stbW rfl HM.out 2 rfl rfl rfl rfl rfl rfl ?_); intro W1 HM1; replace HM := Lib.hid HM1; clear HM1; simp only [List.set] at HM) | ((first | refine stbS rfl HM.out 0 rfl rfl rfl rfl rfl rfl ?_ | refine stbS rfl HM.out 1 rfl rfl rfl rfl rfl rfl ?_ | refine stbS rfl HM.out 2 rfl rfl rfl rfl rfl rfl ?_); intro W1 HM1; replace HM := Lib.hid HM1; clear HM1; simp only [lss, Nat.reduceAdd] at HM))) | ((with_reducible refine ibox (d := some 3) ?_); refine bxA rfl HM.out rfl ?_; intro g3 W1 HM1; replace HM := Lib.hid HM1; clear HM1) | ((with_reducible refine ialloc (d := some 4) ?_); refine alb rfl HM.out ?_; intro g4 W1 HM1; replace HM := Lib.hid HM1; clear HM1) | ((with_reducible refine ialloc (d := some 6) ?_); refine alb rfl HM.out ?_; intro g6 W1 HM1; replace HM := Lib.hid HM1; clear HM1) | (go_at_call 17; (with_reducible refine (cof_any _ _).mono ?_); rintro e W1 ⟨rfl, hb⟩; replace HM := Lib.hid (HM.out.next hb); clear hb))
      exact bodyPost_ret (res_box_tmp rfl HM.out 0 rfl rfl rfl rfl) rfl ⟨rfl, HM.out.below⟩
  · have HL := Lib.hid (show leafF l op text = (⟨0, 0⟩, 0) by unfold leafF; rw [if_neg (by omega), if_neg (by omega), if_neg (by omega), if_neg (by omega), if_neg h7])
    have b2 : (op == 2) = false := beq_false_of_ne (by omega)
    have b3 : (op == 3) = false := beq_false_of_ne (by omega)
    have b4 : (op == 4) = false := beq_false_of_ne (by omega)
    have b5 : (op == 5) = false := beq_false_of_ne (by omega)
    have b6 : (op == 6) = false := beq_false_of_ne (by omega)
    have b7 : (op == 7) = false := beq_false_of_ne h7
    clear h h7
    go_enter Tryd.func87, Tryd.ntmps87
    go_wp2_with (first | ((with_reducible refine inilCheck ?_); (refine lnil rfl ?_)) | ((with_reducible refine iload ?_); first | refine ldb1 HM.out 0 rfl rfl rfl ?_ | refine ldb1 HM.out 1 rfl rfl rfl ?_ | refine ldb1 HM.out 2 rfl rfl rfl ?_ | refine ldbW HM.out 0 rfl rfl rfl ?_ | refine ldbW HM.out 1 rfl rfl rfl ?_ | refine ldbW HM.out 2 rfl rfl rfl ?_ | ((first | refine ldbS HM.out 0 rfl rfl rfl ?_ | refine ldbS HM.out 1 rfl rfl rfl ?_ | refine ldbS HM.out 2 rfl rfl rfl ?_); simp only [List.take, List.drop])) | ((with_reducible refine istore ?_); (first | ((first | refine stbW rfl HM.out 0 rfl rfl rfl rfl rfl rfl ?_ | refine stbW rfl HM.out 1 rfl rfl rfl rfl rfl rfl ?_ | refine stbW rfl HM.out 2 rfl rfl rfl rfl rfl rfl ?_); intro W1 HM1; replace HM := Lib.hid HM1; clear HM1; simp only [List.set] at HM) | ((first | refine stbS rfl HM.out 0 rfl rfl rfl rfl rfl rfl ?_ | refine stbS rfl HM.out 1 rfl rfl rfl rfl rfl rfl ?_ | refine stbS rfl HM.out 2 rfl rfl rfl rfl rfl rfl ?_); intro W1 HM1; replace HM := Lib.hid HM1; clear HM1; simp only [lss, Nat.reduceAdd] at HM))) | ((with_reducible refine ibox (d := some 3) ?_); refine bxA rfl HM.out rfl ?_; intro g3 W1 HM1; replace HM := Lib.hid HM1; clear HM1) | ((with_reducible refine ialloc (d := some 4) ?_); refine alb rfl HM.out ?_; intro g4 W1 HM1; replace HM := Lib.hid HM1; clear HM1) | ((with_reducible refine ialloc (d := some 6) ?_); refine alb rfl HM.out ?_; intro g6 W1 HM1; replace HM := Lib.hid HM1; clear HM1) | (go_at_call 17; (with_reducible refine (cof_any _ _).mono ?_); rintro e W1 ⟨rfl, hb⟩; replace HM := Lib.hid (HM.out.next hb); clear hb))
    exact bodyPost_ret (res_box_tmp rfl HM.out 0 rfl rfl rfl rfl) rfl ⟨by rw [HL.out]; rfl, HM.out.below⟩
end Go.Proofs.YtpjcjgikfplgnaaDoor

namespace Go.Proofs.YtpjcjgikfplgnaaDoor
open Go.RowKit
set_option linter.unusedVariables false
set_option linter.unusedSimpArgs false
set_option maxRecDepth 100000

/-- A list's type. -/
def itemsG : Nat → Int → List TyD → TyD
  | _, k, [] => ⟨5, k⟩
  | i, k, t :: l => if t.k < 1 ∨ 4 < t.k ∨ (0 < i ∧ t.k ≠ k) then ⟨5, 0⟩ else itemsG (i + 1) t.k l
def itemsF (l : List TyD) : TyD := itemsG 0 0 l
theorem itemsG_cons (i : Nat) (k : Int) (t : TyD) (l : List TyD) : itemsG i k (t :: l) = if t.k < 1 ∨ 4 < t.k ∨ (0 < i ∧ t.k ≠ k) then ⟨5, 0⟩ else itemsG (i + 1) t.k l := rfl

theorem list_fin {k : Int} {r : TyD} (h : (⟨5, k⟩ : TyD) = r) : r.val = .agg #[.int .i64 5, .int .i64 k] := by rw [← h]; rfl
set_option maxHeartbeats 2000000 in
theorem items_any (p : Option Addr) (c : Nat) (ts : List ThT) (w : World) (hS : Sl w p (ts.flatMap ThT.cs)) (hl : ts.length ≤ 4611686018427387904) :
    Calls Tryd.prog 86 #[.slice p ts.length c] w fun e w' => e = .returned (itemsF (ts.map ThT.t)).val ∧ Below w.heap.size w w' := by
  have HM := Lib.hid (Mem.start w)
  obtain ⟨r, hr⟩ : ∃ r, itemsF (ts.map ThT.t) = r := ⟨_, rfl⟩
  rw [hr]
  have HR := Lib.hid (show itemsG 0 0 ((ts.drop 0).map ThT.t) = r from hr)
  have HS := Lib.hid hS
  clear hr hS
  go_enter Tryd.func86, Tryd.ntmps86
  go_wp2_with (first | ((with_reducible refine igd ?_); (with_reducible refine skip_op ?_ ?_); (exact rfl)) | ((with_reducible refine iload ?_); first | refine ldb1 HM.out 0 rfl rfl rfl ?_ | refine ldb1 HM.out 1 rfl rfl rfl ?_ | refine ldbW HM.out 0 rfl rfl rfl ?_ | refine ldbW HM.out 1 rfl rfl rfl ?_ | ((first | refine ldbS HM.out 0 rfl rfl rfl ?_ | refine ldbS HM.out 1 rfl rfl rfl ?_); simp only [List.take, List.drop])) | ((with_reducible refine istore ?_); (first | ((first | refine stbW rfl HM.out 0 rfl rfl rfl rfl rfl rfl ?_ | refine stbW rfl HM.out 1 rfl rfl rfl rfl rfl rfl ?_); intro W1 HM1; replace HM := Lib.hid HM1; clear HM1; simp only [List.set] at HM) | ((first | refine stbS rfl HM.out 0 rfl rfl rfl rfl rfl rfl ?_ | refine stbS rfl HM.out 1 rfl rfl rfl rfl rfl rfl ?_); intro W1 HM1; replace HM := Lib.hid HM1; clear HM1; simp only [lss, Nat.reduceAdd] at HM))) | ((with_reducible refine ialloc (d := some 2) ?_); refine alb rfl HM.out ?_; intro g2 W1 HM1; replace HM := Lib.hid HM1; clear HM1) | ((with_reducible refine ialloc ?_); refine alb rfl HM.out ?_; intro g1 W1 HM1; replace HM := Lib.hid HM1; clear HM1))
  go_loopw [8, 3] (fun iv kv wr => ∃ (i : Nat) (k : Int), iv = .int .i64 i ∧ kv = .int .i64 k ∧ i ≤ ts.length ∧ Hid (itemsG i k ((ts.drop i).map ThT.t) = r) ∧ Hid (Mem w wr [.box g2 25 [.int .i64 0, .int .i64 0]])) (fun iv _ _ => ts.length - (intOf iv).toNat)
  case atStart => exact ⟨0, 0, rfl, rfl, by omega, HR, HM⟩
  case round =>
    clear HM
    obtain ⟨i, k, rfl, rfl, hi, HI, HM⟩ := hrel
    by_cases hlt : i < ts.length
    · obtain ⟨b, rfl, hb⟩ := HS.out.some_at ThT.cs_len (by decide) hlt
      obtain ⟨x, hx⟩ : ∃ x, ts[i]? = some x := ⟨_, List.getElem?_eq_getElem hlt⟩
      have E1 := Lib.hid (hb.elem ThT.cs 3 ThT.cs_len hx)
      have HI2 := Lib.hid (show (if x.t.k < 1 ∨ 4 < x.t.k ∨ (0 < i ∧ x.t.k ≠ k) then ⟨5, 0⟩ else itemsG (i + 1) x.t.k ((ts.drop (i + 1)).map ThT.t)) = r by rw [← itemsG_cons, ← HI.out, drop_at hx]; rfl)
      have hlt3 := Lib.hid (show i + 1 ≤ ts.length from hlt)
      have d1 : decide ((i : Int) < ts.length) = true := decide_eq_true (by omega)
      obtain ⟨⟨tk, tz⟩, tq, tn, tc⟩ := x
      have E2 := Lib.hid (show Cells w (b.add (i * 3)) [.int .i64 tk, .int .i64 tz, .slice tq tn tc] from E1.out)
      clear hb hx HI E1
      have E1 := E2
      clear E2
      have hc : tk < 1 ∨ (1 ≤ tk ∧ 4 < tk) ∨ (1 ≤ tk ∧ tk ≤ 4 ∧ i = 0) ∨ (1 ≤ tk ∧ tk ≤ 4 ∧ 0 < i ∧ tk ≠ k) ∨ (1 ≤ tk ∧ tk ≤ 4 ∧ 0 < i ∧ tk = k) := by omega
      have HC := Lib.hid hc
      have hbad : (tk < 1 ∨ 4 < tk ∨ (0 < i ∧ tk ≠ k)) → Hid ((⟨5, 0⟩ : TyD) = r) := fun h => Lib.hid (by rw [← HI2.out, if_pos h])
      have hgood : ¬ (tk < 1 ∨ 4 < tk ∨ (0 < i ∧ tk ≠ k)) → Hid (itemsG (i + 1) tk ((ts.drop (i + 1)).map ThT.t) = r) := fun h => Lib.hid (by rw [← HI2.out, if_neg h])
      clear hc HI2
      rcases HC.out with h1 | ⟨h1, h2⟩ | ⟨h1, h2, h3⟩ | ⟨h1, h2, h3, h4⟩ | ⟨h1, h2, h3, h4⟩
      · have HB := hbad (by omega)
        clear hbad hgood
        go_wp2_with (first | ((with_reducible refine igd ?_); (with_reducible refine skip_op ?_ ?_); (exact rfl)) | ((with_reducible refine iload ?_); first | refine ldb1 HM.out 0 rfl rfl rfl ?_ | refine ldb1 HM.out 1 rfl rfl rfl ?_ | refine ldb1 HM.out 2 rfl rfl rfl ?_ | refine ldbW HM.out 0 rfl rfl rfl ?_ | refine ldbW HM.out 1 rfl rfl rfl ?_ | refine ldbW HM.out 2 rfl rfl rfl ?_ | ((first | refine ldbS HM.out 0 rfl rfl rfl ?_ | refine ldbS HM.out 1 rfl rfl rfl ?_ | refine ldbS HM.out 2 rfl rfl rfl ?_); simp only [List.take, List.drop])) | ((with_reducible refine istore ?_); (first | ((first | refine stbW rfl HM.out 0 rfl rfl rfl rfl rfl rfl ?_ | refine stbW rfl HM.out 1 rfl rfl rfl rfl rfl rfl ?_ | refine stbW rfl HM.out 2 rfl rfl rfl rfl rfl rfl ?_); intro W1 HM1; replace HM := Lib.hid HM1; clear HM1; simp only [List.set] at HM) | ((first | refine stbS rfl HM.out 0 rfl rfl rfl rfl rfl rfl ?_ | refine stbS rfl HM.out 1 rfl rfl rfl rfl rfl rfl ?_ | refine stbS rfl HM.out 2 rfl rfl rfl rfl rfl rfl ?_); intro W1 HM1; replace HM := Lib.hid HM1; clear HM1; simp only [lss, Nat.reduceAdd] at HM))) | ((with_reducible refine ialloc (d := some 5) ?_); refine alb rfl HM.out ?_; intro g5 W1 HM1; replace HM := Lib.hid HM1; clear HM1) | ((with_reducible refine ialloc ?_); refine alb rfl HM.out ?_; intro g1 W1 HM1; replace HM := Lib.hid HM1; clear HM1) | ((with_reducible refine iat 11 ?_); (refine ixa rfl rfl rfl hlt ?_)) | ((with_reducible refine iat 12 ?_); (refine ldxW (HM.out.olds E1.out) rfl rfl ?_)) | (go_at_call 18; (with_reducible refine (clist_any _ _).mono ?_); rintro e W1 ⟨rfl, hb⟩; replace HM := Lib.hid (HM.out.next hb); clear hb))
        exact bodyPost_ret (res_box rfl HM.out 1 rfl rfl rfl) rfl ⟨by rw [list_fin HB.out], HM.out.below⟩
      · have HB := hbad (by omega)
        clear hbad hgood
        go_wp2_with (first | ((with_reducible refine igd ?_); (with_reducible refine skip_op ?_ ?_); (exact rfl)) | ((with_reducible refine iload ?_); first | refine ldb1 HM.out 0 rfl rfl rfl ?_ | refine ldb1 HM.out 1 rfl rfl rfl ?_ | refine ldb1 HM.out 2 rfl rfl rfl ?_ | refine ldbW HM.out 0 rfl rfl rfl ?_ | refine ldbW HM.out 1 rfl rfl rfl ?_ | refine ldbW HM.out 2 rfl rfl rfl ?_ | ((first | refine ldbS HM.out 0 rfl rfl rfl ?_ | refine ldbS HM.out 1 rfl rfl rfl ?_ | refine ldbS HM.out 2 rfl rfl rfl ?_); simp only [List.take, List.drop])) | ((with_reducible refine istore ?_); (first | ((first | refine stbW rfl HM.out 0 rfl rfl rfl rfl rfl rfl ?_ | refine stbW rfl HM.out 1 rfl rfl rfl rfl rfl rfl ?_ | refine stbW rfl HM.out 2 rfl rfl rfl rfl rfl rfl ?_); intro W1 HM1; replace HM := Lib.hid HM1; clear HM1; simp only [List.set] at HM) | ((first | refine stbS rfl HM.out 0 rfl rfl rfl rfl rfl rfl ?_ | refine stbS rfl HM.out 1 rfl rfl rfl rfl rfl rfl ?_ | refine stbS rfl HM.out 2 rfl rfl rfl rfl rfl rfl ?_); intro W1 HM1; replace HM := Lib.hid HM1; clear HM1; simp only [lss, Nat.reduceAdd] at HM))) | ((with_reducible refine ialloc (d := some 5) ?_); refine alb rfl HM.out ?_; intro g5 W1 HM1; replace HM := Lib.hid HM1; clear HM1) | ((with_reducible refine ialloc ?_); refine alb rfl HM.out ?_; intro g1 W1 HM1; replace HM := Lib.hid HM1; clear HM1) | ((with_reducible refine iat 11 ?_); (refine ixa rfl rfl rfl hlt ?_)) | ((with_reducible refine iat 12 ?_); (refine ldxW (HM.out.olds E1.out) rfl rfl ?_)) | (go_at_call 18; (with_reducible refine (clist_any _ _).mono ?_); rintro e W1 ⟨rfl, hb⟩; replace HM := Lib.hid (HM.out.next hb); clear hb))
        exact bodyPost_ret (res_box rfl HM.out 1 rfl rfl rfl) rfl ⟨by rw [list_fin HB.out], HM.out.below⟩
      · subst h3
        have HB := hgood (by omega)
        clear hbad hgood
        go_wp2_with (first | ((with_reducible refine igd ?_); (with_reducible refine skip_op ?_ ?_); (exact rfl)) | ((with_reducible refine iload ?_); first | refine ldb1 HM.out 0 rfl rfl rfl ?_ | refine ldb1 HM.out 1 rfl rfl rfl ?_ | refine ldb1 HM.out 2 rfl rfl rfl ?_ | refine ldbW HM.out 0 rfl rfl rfl ?_ | refine ldbW HM.out 1 rfl rfl rfl ?_ | refine ldbW HM.out 2 rfl rfl rfl ?_ | ((first | refine ldbS HM.out 0 rfl rfl rfl ?_ | refine ldbS HM.out 1 rfl rfl rfl ?_ | refine ldbS HM.out 2 rfl rfl rfl ?_); simp only [List.take, List.drop])) | ((with_reducible refine istore ?_); (first | ((first | refine stbW rfl HM.out 0 rfl rfl rfl rfl rfl rfl ?_ | refine stbW rfl HM.out 1 rfl rfl rfl rfl rfl rfl ?_ | refine stbW rfl HM.out 2 rfl rfl rfl rfl rfl rfl ?_); intro W1 HM1; replace HM := Lib.hid HM1; clear HM1; simp only [List.set] at HM) | ((first | refine stbS rfl HM.out 0 rfl rfl rfl rfl rfl rfl ?_ | refine stbS rfl HM.out 1 rfl rfl rfl rfl rfl rfl ?_ | refine stbS rfl HM.out 2 rfl rfl rfl rfl rfl rfl ?_); intro W1 HM1; replace HM := Lib.hid HM1; clear HM1; simp only [lss, Nat.reduceAdd] at HM))) | ((with_reducible refine ialloc (d := some 5) ?_); refine alb rfl HM.out ?_; intro g5 W1 HM1; replace HM := Lib.hid HM1; clear HM1) | ((with_reducible refine ialloc ?_); refine alb rfl HM.out ?_; intro g1 W1 HM1; replace HM := Lib.hid HM1; clear HM1) | ((with_reducible refine iat 11 ?_); (refine ixa rfl rfl rfl hlt ?_)) | ((with_reducible refine iat 12 ?_); (refine ldxW (HM.out.olds E1.out) rfl rfl ?_)) | (go_at_call 18; (with_reducible refine (clist_any _ _).mono ?_); rintro e W1 ⟨rfl, hb⟩; replace HM := Lib.hid (HM.out.next hb); clear hb))
        go_roundw
        case rel => exact ⟨1, tk, rfl, rfl, hlt3.out, HB, Lib.hid (HM.out.sub (List.sublist_cons_self _ _))⟩
        case measure => have := hlt3.out; simp [intOf]; omega
      · have HB := hbad (by omega)
        have b1 : (tk != k) = true := by simpa using h4
        have d2 : decide ((0 : Int) < i) = true := decide_eq_true (by omega)
        clear hbad hgood h4
        go_wp2_with (first | ((with_reducible refine igd ?_); (with_reducible refine skip_op ?_ ?_); (exact rfl)) | ((with_reducible refine iload ?_); first | refine ldb1 HM.out 0 rfl rfl rfl ?_ | refine ldb1 HM.out 1 rfl rfl rfl ?_ | refine ldb1 HM.out 2 rfl rfl rfl ?_ | refine ldbW HM.out 0 rfl rfl rfl ?_ | refine ldbW HM.out 1 rfl rfl rfl ?_ | refine ldbW HM.out 2 rfl rfl rfl ?_ | ((first | refine ldbS HM.out 0 rfl rfl rfl ?_ | refine ldbS HM.out 1 rfl rfl rfl ?_ | refine ldbS HM.out 2 rfl rfl rfl ?_); simp only [List.take, List.drop])) | ((with_reducible refine istore ?_); (first | ((first | refine stbW rfl HM.out 0 rfl rfl rfl rfl rfl rfl ?_ | refine stbW rfl HM.out 1 rfl rfl rfl rfl rfl rfl ?_ | refine stbW rfl HM.out 2 rfl rfl rfl rfl rfl rfl ?_); intro W1 HM1; replace HM := Lib.hid HM1; clear HM1; simp only [List.set] at HM) | ((first | refine stbS rfl HM.out 0 rfl rfl rfl rfl rfl rfl ?_ | refine stbS rfl HM.out 1 rfl rfl rfl rfl rfl rfl ?_ | refine stbS rfl HM.out 2 rfl rfl rfl rfl rfl rfl ?_); intro W1 HM1; replace HM := Lib.hid HM1; clear HM1; simp only [lss, Nat.reduceAdd] at HM))) | ((with_reducible refine ialloc (d := some 5) ?_); refine alb rfl HM.out ?_; intro g5 W1 HM1; replace HM := Lib.hid HM1; clear HM1) | ((with_reducible refine ialloc ?_); refine alb rfl HM.out ?_; intro g1 W1 HM1; replace HM := Lib.hid HM1; clear HM1) | ((with_reducible refine iat 11 ?_); (refine ixa rfl rfl rfl hlt ?_)) | ((with_reducible refine iat 12 ?_); (refine ldxW (HM.out.olds E1.out) rfl rfl ?_)) | (go_at_call 18; (with_reducible refine (clist_any _ _).mono ?_); rintro e W1 ⟨rfl, hb⟩; replace HM := Lib.hid (HM.out.next hb); clear hb))
        exact bodyPost_ret (res_box rfl HM.out 1 rfl rfl rfl) rfl ⟨by rw [list_fin HB.out], HM.out.below⟩
      · have HB := hgood (by omega)
        have b1 : (tk != k) = false := by simpa using h4
        have d2 : decide ((0 : Int) < i) = true := decide_eq_true (by omega)
        clear hbad hgood h4
        go_wp2_with (first | ((with_reducible refine igd ?_); (with_reducible refine skip_op ?_ ?_); (exact rfl)) | ((with_reducible refine iload ?_); first | refine ldb1 HM.out 0 rfl rfl rfl ?_ | refine ldb1 HM.out 1 rfl rfl rfl ?_ | refine ldb1 HM.out 2 rfl rfl rfl ?_ | refine ldbW HM.out 0 rfl rfl rfl ?_ | refine ldbW HM.out 1 rfl rfl rfl ?_ | refine ldbW HM.out 2 rfl rfl rfl ?_ | ((first | refine ldbS HM.out 0 rfl rfl rfl ?_ | refine ldbS HM.out 1 rfl rfl rfl ?_ | refine ldbS HM.out 2 rfl rfl rfl ?_); simp only [List.take, List.drop])) | ((with_reducible refine istore ?_); (first | ((first | refine stbW rfl HM.out 0 rfl rfl rfl rfl rfl rfl ?_ | refine stbW rfl HM.out 1 rfl rfl rfl rfl rfl rfl ?_ | refine stbW rfl HM.out 2 rfl rfl rfl rfl rfl rfl ?_); intro W1 HM1; replace HM := Lib.hid HM1; clear HM1; simp only [List.set] at HM) | ((first | refine stbS rfl HM.out 0 rfl rfl rfl rfl rfl rfl ?_ | refine stbS rfl HM.out 1 rfl rfl rfl rfl rfl rfl ?_ | refine stbS rfl HM.out 2 rfl rfl rfl rfl rfl rfl ?_); intro W1 HM1; replace HM := Lib.hid HM1; clear HM1; simp only [lss, Nat.reduceAdd] at HM))) | ((with_reducible refine ialloc (d := some 5) ?_); refine alb rfl HM.out ?_; intro g5 W1 HM1; replace HM := Lib.hid HM1; clear HM1) | ((with_reducible refine ialloc ?_); refine alb rfl HM.out ?_; intro g1 W1 HM1; replace HM := Lib.hid HM1; clear HM1) | ((with_reducible refine iat 11 ?_); (refine ixa rfl rfl rfl hlt ?_)) | ((with_reducible refine iat 12 ?_); (refine ldxW (HM.out.olds E1.out) rfl rfl ?_)) | (go_at_call 18; (with_reducible refine (clist_any _ _).mono ?_); rintro e W1 ⟨rfl, hb⟩; replace HM := Lib.hid (HM.out.next hb); clear hb))
        go_roundw
        case rel => exact ⟨i + 1, tk, by go_num, rfl, hlt3.out, HB, Lib.hid (HM.out.sub (List.sublist_cons_self _ _))⟩
        case measure => have := hlt3.out; simp [intOf]; omega
    · obtain rfl : i = ts.length := by omega
      have HB := Lib.hid (show (⟨5, k⟩ : TyD) = r by rw [← HI.out, List.drop_of_length_le (Nat.le_refl _)]; rfl)
      have d1 : decide ((ts.length : Int) < ts.length) = false := by simp
      go_wp2_with (first | ((with_reducible refine igd ?_); (with_reducible refine skip_op ?_ ?_); (exact rfl)) | ((with_reducible refine iload ?_); first | refine ldb1 HM.out 0 rfl rfl rfl ?_ | refine ldb1 HM.out 1 rfl rfl rfl ?_ | refine ldb1 HM.out 2 rfl rfl rfl ?_ | refine ldbW HM.out 0 rfl rfl rfl ?_ | refine ldbW HM.out 1 rfl rfl rfl ?_ | refine ldbW HM.out 2 rfl rfl rfl ?_ | ((first | refine ldbS HM.out 0 rfl rfl rfl ?_ | refine ldbS HM.out 1 rfl rfl rfl ?_ | refine ldbS HM.out 2 rfl rfl rfl ?_); simp only [List.take, List.drop])) | ((with_reducible refine istore ?_); (first | ((first | refine stbW rfl HM.out 0 rfl rfl rfl rfl rfl rfl ?_ | refine stbW rfl HM.out 1 rfl rfl rfl rfl rfl rfl ?_ | refine stbW rfl HM.out 2 rfl rfl rfl rfl rfl rfl ?_); intro W1 HM1; replace HM := Lib.hid HM1; clear HM1; simp only [List.set] at HM) | ((first | refine stbS rfl HM.out 0 rfl rfl rfl rfl rfl rfl ?_ | refine stbS rfl HM.out 1 rfl rfl rfl rfl rfl rfl ?_ | refine stbS rfl HM.out 2 rfl rfl rfl rfl rfl rfl ?_); intro W1 HM1; replace HM := Lib.hid HM1; clear HM1; simp only [lss, Nat.reduceAdd] at HM))) | ((with_reducible refine ialloc (d := some 5) ?_); refine alb rfl HM.out ?_; intro g5 W1 HM1; replace HM := Lib.hid HM1; clear HM1) | ((with_reducible refine ialloc ?_); refine alb rfl HM.out ?_; intro g1 W1 HM1; replace HM := Lib.hid HM1; clear HM1) | (go_at_call 18; (with_reducible refine (clist_any _ _).mono ?_); rintro e W1 ⟨rfl, hb⟩; replace HM := Lib.hid (HM.out.next hb); clear hb))
      exact bodyPost_ret (res_box rfl HM.out 0 rfl rfl rfl) rfl ⟨by rw [list_fin HB.out], HM.out.below⟩
end Go.Proofs.YtpjcjgikfplgnaaDoor

namespace Go.Proofs.YtpjcjgikfplgnaaDoor
open Go.RowKit
set_option linter.unusedVariables false
set_option linter.unusedSimpArgs false
set_option maxRecDepth 100000

def namesGo : List SymD → List SymD → Int
  | _, [] => 0
  | seen, s :: l => if (lookT s.name seen).isSome || !nameB s.name || !formB s.t.k s.t.o then 2 else namesGo (seen ++ [s]) l
def namesF (l : List SymD) : Int := if 100 < l.length then 6 else namesGo [] l
theorem namesGo_cons (seen : List SymD) (s : SymD) (l : List SymD) : namesGo seen (s :: l) = if (lookT s.name seen).isSome || !nameB s.name || !formB s.t.k s.t.o then 2 else namesGo (seen ++ [s]) l := rfl
def NamedPost (l : List SymD) (r : Int) (w : World) (e : Ending) (w' : World) : Prop :=
  if r = 0 then ∃ g, e = .returned (.tuple #[.map (some g), .int .i64 0]) ∧ Mem w w' [.map g (mapEs (symE l)) (symE l).length] else e = .returned (.tuple #[.map none, .int .i64 r]) ∧ Below w.heap.size w w'
theorem symE_push (l : List SymD) (s : SymD) : symE (l ++ [s]) = symE l ++ [(s.name, s.t.val)] := by unfold symE; simp
theorem named_err {l : List SymD} {r : Int} {w w' : World} {x : Int} (h : x = r) (hx : x ≠ 0) (hb : Below w.heap.size w w') : NamedPost l r w (.returned (.tuple #[.map none, .int .i64 x])) w' := by
  subst h
  unfold NamedPost
  rw [if_neg hx]
  exact ⟨rfl, hb⟩

set_option maxHeartbeats 4000000 in
theorem named_any (p : Option Addr) (c : Nat) (l : List SymD) (w : World) (hS : Sl w p (l.flatMap SymD.cs)) (hl : l.length ≤ 4611686018427387904) :
    Calls Tryd.prog 23 #[.slice p l.length c] w (NamedPost l (namesF l) w) := by
  have HM := Lib.hid (Mem.start w)
  by_cases hlong : 100 < l.length
  · have HR := Lib.hid (show (6 : Int) = namesF l by unfold namesF; rw [if_pos hlong])
    have hlong' : (100 : Int) < (l.length : Int) := by omega
    clear hlong
    go_enter Tryd.func23, Tryd.ntmps23
    go_wp2_with fail
    go_ret2
    exact named_err HR.out (by decide) HM.out.below
  have hshort : (l.length : Int) ≤ 100 := by omega
  obtain ⟨r, hr⟩ : ∃ r, namesF l = r := ⟨_, rfl⟩
  rw [hr]
  have HR := Lib.hid (show namesGo (l.take 0) (l.drop 0) = r by rw [← hr]; unfold namesF; rw [if_neg hlong]; rfl)
  have HS := Lib.hid hS
  clear hr hS hlong
  go_enter Tryd.func23, Tryd.ntmps23
  go_wp2_with (first | (refine mkm rfl HM.out ?_; intro gm W1 HM1; replace HM := Lib.hid HM1; clear HM1))
  go_loopw [15] (fun iv wr => ∃ i : Nat, iv = .int .i64 i ∧ i ≤ l.length ∧ Hid (namesGo (l.take i) (l.drop i) = r) ∧ Hid (Mem w wr [.map gm (mapEs (symE (l.take i))) (symE (l.take i)).length])) (fun iv _ => l.length - (intOf iv).toNat)
  case atStart => exact ⟨0, rfl, by omega, HR, HM⟩
  case round =>
    clear HM
    obtain ⟨i, rfl, hi, HI, HM⟩ := hrel
    by_cases hlt : i < l.length
    · obtain ⟨b, rfl, hb⟩ := HS.out.some_at SymD.cs_len (by decide) hlt
      obtain ⟨s, hs⟩ : ∃ s, l[i]? = some s := ⟨_, List.getElem?_eq_getElem hlt⟩
      obtain ⟨sn, tk, tz⟩ := s
      have E1 := Lib.hid (show Cells w (b.add (i * 3)) [.string sn, .int .i64 tk, .int .i64 tz] from hb.elem SymD.cs 3 SymD.cs_len hs)
      have HI2 := Lib.hid (show (if (lookT sn (l.take i)).isSome || !nameB sn || !formB tk tz then 2 else namesGo (l.take i ++ [⟨sn, tk, tz⟩]) (l.drop (i + 1))) = r by rw [← namesGo_cons (l.take i) ⟨sn, tk, tz⟩, ← HI.out, drop_at hs])
      have HT := Lib.hid (show l.take (i + 1) = l.take i ++ [⟨sn, tk, tz⟩] by rw [List.take_add_one, hs]; rfl)
      have hlt3 := Lib.hid (show i + 1 ≤ l.length from hlt)
      have d1 : decide ((i : Int) < l.length) = true := decide_eq_true (by omega)
      obtain ⟨q, hq⟩ : ∃ q, lookT sn (l.take i) = q := ⟨_, rfl⟩
      have HV := Lib.hid (show findL sn (symE (l.take i)) = q.map TyD.val by rw [find_look, hq])
      rw [hq] at HI2
      obtain ⟨nb, hnb⟩ : ∃ nb, nameB sn = nb := ⟨_, rfl⟩
      obtain ⟨fb, hfb⟩ : ∃ fb, formB tk tz = fb := ⟨_, rfl⟩
      have HN := Lib.hid (fun W => hnb ▸ name_any sn W)
      have HF := Lib.hid (fun W => hfb ▸ kForm_any tk tz W)
      rw [hnb, hfb] at HI2
      clear hb hs HI hq hnb hfb
      cases q with
      | some t =>
        have HB := Lib.hid (show (2 : Int) = r by rw [← HI2.out]; rfl)
        clear HI2
        go_wp2_with (first | ((with_reducible refine iat 17 ?_); (refine ixa rfl rfl rfl hlt ?_)) | ((with_reducible refine iat 18 ?_); (refine ldxW (HM.out.olds E1.out) rfl rfl ?_)) | ((with_reducible refine iat 23 ?_); (refine lkm (l := symE (l.take i)) HM.out 1 rfl rfl rfl ?_; rw [HV.out]; simp only [Option.map_none, Option.map_some, Option.getD_none, Option.getD_some, Option.isSome_none, Option.isSome_some, TyD.val])) | ((with_reducible refine igd ?_); (with_reducible refine skip_op ?_ ?_); (exact rfl)) | ((with_reducible refine iload ?_); first | refine ldb1 HM.out 0 rfl rfl rfl ?_ | refine ldb1 HM.out 1 rfl rfl rfl ?_ | refine ldb1 HM.out 2 rfl rfl rfl ?_ | refine ldbW HM.out 0 rfl rfl rfl ?_ | refine ldbW HM.out 1 rfl rfl rfl ?_ | refine ldbW HM.out 2 rfl rfl rfl ?_ | ((first | refine ldbS HM.out 0 rfl rfl rfl ?_ | refine ldbS HM.out 1 rfl rfl rfl ?_ | refine ldbS HM.out 2 rfl rfl rfl ?_); simp only [List.take, List.drop])) | ((with_reducible refine istore ?_); (first | ((first | refine stbW rfl HM.out 0 rfl rfl rfl rfl rfl rfl ?_ | refine stbW rfl HM.out 1 rfl rfl rfl rfl rfl rfl ?_ | refine stbW rfl HM.out 2 rfl rfl rfl rfl rfl rfl ?_); intro W1 HM1; replace HM := Lib.hid HM1; clear HM1; simp only [List.set] at HM) | ((first | refine stbS rfl HM.out 0 rfl rfl rfl rfl rfl rfl ?_ | refine stbS rfl HM.out 1 rfl rfl rfl rfl rfl rfl ?_ | refine stbS rfl HM.out 2 rfl rfl rfl rfl rfl rfl ?_); intro W1 HM1; replace HM := Lib.hid HM1; clear HM1; simp only [lss, Nat.reduceAdd] at HM))) | ((with_reducible refine ialloc (d := some 6) ?_); refine alb rfl HM.out ?_; intro g6 W1 HM1; replace HM := Lib.hid HM1; clear HM1) | ((with_reducible refine ialloc (d := some 7) ?_); refine alb rfl HM.out ?_; intro g7 W1 HM1; replace HM := Lib.hid HM1; clear HM1))
        go_ret2
        exact named_err HB.out (by decide) HM.out.below
      | none =>
        cases nb
        · have HB := Lib.hid (show (2 : Int) = r by rw [← HI2.out]; rfl)
          clear HI2
          go_wp2_with (first | ((with_reducible refine iat 17 ?_); (refine ixa rfl rfl rfl hlt ?_)) | ((with_reducible refine iat 18 ?_); (refine ldxW (HM.out.olds E1.out) rfl rfl ?_)) | ((with_reducible refine iat 23 ?_); (refine lkm (l := symE (l.take i)) HM.out 1 rfl rfl rfl ?_; rw [HV.out]; simp only [Option.map_none, Option.map_some, Option.getD_none, Option.getD_some, Option.isSome_none, Option.isSome_some, TyD.val])) | ((with_reducible refine igd ?_); (with_reducible refine skip_op ?_ ?_); (exact rfl)) | ((with_reducible refine iload ?_); first | refine ldb1 HM.out 0 rfl rfl rfl ?_ | refine ldb1 HM.out 1 rfl rfl rfl ?_ | refine ldb1 HM.out 2 rfl rfl rfl ?_ | refine ldbW HM.out 0 rfl rfl rfl ?_ | refine ldbW HM.out 1 rfl rfl rfl ?_ | refine ldbW HM.out 2 rfl rfl rfl ?_ | ((first | refine ldbS HM.out 0 rfl rfl rfl ?_ | refine ldbS HM.out 1 rfl rfl rfl ?_ | refine ldbS HM.out 2 rfl rfl rfl ?_); simp only [List.take, List.drop])) | ((with_reducible refine istore ?_); (first | ((first | refine stbW rfl HM.out 0 rfl rfl rfl rfl rfl rfl ?_ | refine stbW rfl HM.out 1 rfl rfl rfl rfl rfl rfl ?_ | refine stbW rfl HM.out 2 rfl rfl rfl rfl rfl rfl ?_); intro W1 HM1; replace HM := Lib.hid HM1; clear HM1; simp only [List.set] at HM) | ((first | refine stbS rfl HM.out 0 rfl rfl rfl rfl rfl rfl ?_ | refine stbS rfl HM.out 1 rfl rfl rfl rfl rfl rfl ?_ | refine stbS rfl HM.out 2 rfl rfl rfl rfl rfl rfl ?_); intro W1 HM1; replace HM := Lib.hid HM1; clear HM1; simp only [lss, Nat.reduceAdd] at HM))) | ((with_reducible refine ialloc (d := some 6) ?_); refine alb rfl HM.out ?_; intro g6 W1 HM1; replace HM := Lib.hid HM1; clear HM1) | ((with_reducible refine ialloc (d := some 7) ?_); refine alb rfl HM.out ?_; intro g7 W1 HM1; replace HM := Lib.hid HM1; clear HM1) | (go_at_call 43; (with_reducible refine (HN.out _).mono ?_); rintro e W2 ⟨rfl, rfl⟩))
          go_ret2
          exact named_err HB.out (by decide) HM.out.below
        · cases fb
          · have HB := Lib.hid (show (2 : Int) = r by rw [← HI2.out]; rfl)
            clear HI2
            go_wp2_with (first | ((with_reducible refine iat 17 ?_); (refine ixa rfl rfl rfl hlt ?_)) | ((with_reducible refine iat 18 ?_); (refine ldxW (HM.out.olds E1.out) rfl rfl ?_)) | ((with_reducible refine iat 23 ?_); (refine lkm (l := symE (l.take i)) HM.out 1 rfl rfl rfl ?_; rw [HV.out]; simp only [Option.map_none, Option.map_some, Option.getD_none, Option.getD_some, Option.isSome_none, Option.isSome_some, TyD.val])) | ((with_reducible refine igd ?_); (with_reducible refine skip_op ?_ ?_); (exact rfl)) | ((with_reducible refine iload ?_); first | refine ldb1 HM.out 0 rfl rfl rfl ?_ | refine ldb1 HM.out 1 rfl rfl rfl ?_ | refine ldb1 HM.out 2 rfl rfl rfl ?_ | refine ldbW HM.out 0 rfl rfl rfl ?_ | refine ldbW HM.out 1 rfl rfl rfl ?_ | refine ldbW HM.out 2 rfl rfl rfl ?_ | ((first | refine ldbS HM.out 0 rfl rfl rfl ?_ | refine ldbS HM.out 1 rfl rfl rfl ?_ | refine ldbS HM.out 2 rfl rfl rfl ?_); simp only [List.take, List.drop])) | ((with_reducible refine istore ?_); (first | ((first | refine stbW rfl HM.out 0 rfl rfl rfl rfl rfl rfl ?_ | refine stbW rfl HM.out 1 rfl rfl rfl rfl rfl rfl ?_ | refine stbW rfl HM.out 2 rfl rfl rfl rfl rfl rfl ?_); intro W1 HM1; replace HM := Lib.hid HM1; clear HM1; simp only [List.set] at HM) | ((first | refine stbS rfl HM.out 0 rfl rfl rfl rfl rfl rfl ?_ | refine stbS rfl HM.out 1 rfl rfl rfl rfl rfl rfl ?_ | refine stbS rfl HM.out 2 rfl rfl rfl rfl rfl rfl ?_); intro W1 HM1; replace HM := Lib.hid HM1; clear HM1; simp only [lss, Nat.reduceAdd] at HM))) | ((with_reducible refine ialloc (d := some 6) ?_); refine alb rfl HM.out ?_; intro g6 W1 HM1; replace HM := Lib.hid HM1; clear HM1) | ((with_reducible refine ialloc (d := some 7) ?_); refine alb rfl HM.out ?_; intro g7 W1 HM1; replace HM := Lib.hid HM1; clear HM1) | (go_at_call 43; (with_reducible refine (HN.out _).mono ?_); rintro e W2 ⟨rfl, rfl⟩) | (go_at_call 25; (with_reducible refine (HF.out _).mono ?_); rintro e W1 ⟨rfl, hb⟩; replace HM := Lib.hid (HM.out.next hb); clear hb))
            go_ret2
            exact named_err HB.out (by decide) HM.out.below
          · have HB := Lib.hid (show namesGo (l.take i ++ [⟨sn, tk, tz⟩]) (l.drop (i + 1)) = r by rw [← HI2.out]; rfl)
            clear HI2
            go_wp2_with (first | ((with_reducible refine iat 17 ?_); (refine ixa rfl rfl rfl hlt ?_)) | ((with_reducible refine iat 18 ?_); (refine ldxW (HM.out.olds E1.out) rfl rfl ?_)) | ((with_reducible refine iat 23 ?_); (refine lkm (l := symE (l.take i)) HM.out 1 rfl rfl rfl ?_; rw [HV.out]; simp only [Option.map_none, Option.map_some, Option.getD_none, Option.getD_some, Option.isSome_none, Option.isSome_some, TyD.val])) | ((with_reducible refine igd ?_); (with_reducible refine skip_op ?_ ?_); (exact rfl)) | ((with_reducible refine iload ?_); first | refine ldb1 HM.out 0 rfl rfl rfl ?_ | refine ldb1 HM.out 1 rfl rfl rfl ?_ | refine ldb1 HM.out 2 rfl rfl rfl ?_ | refine ldbW HM.out 0 rfl rfl rfl ?_ | refine ldbW HM.out 1 rfl rfl rfl ?_ | refine ldbW HM.out 2 rfl rfl rfl ?_ | ((first | refine ldbS HM.out 0 rfl rfl rfl ?_ | refine ldbS HM.out 1 rfl rfl rfl ?_ | refine ldbS HM.out 2 rfl rfl rfl ?_); simp only [List.take, List.drop])) | ((with_reducible refine istore ?_); (first | ((first | refine stbW rfl HM.out 0 rfl rfl rfl rfl rfl rfl ?_ | refine stbW rfl HM.out 1 rfl rfl rfl rfl rfl rfl ?_ | refine stbW rfl HM.out 2 rfl rfl rfl rfl rfl rfl ?_); intro W1 HM1; replace HM := Lib.hid HM1; clear HM1; simp only [List.set] at HM) | ((first | refine stbS rfl HM.out 0 rfl rfl rfl rfl rfl rfl ?_ | refine stbS rfl HM.out 1 rfl rfl rfl rfl rfl rfl ?_ | refine stbS rfl HM.out 2 rfl rfl rfl rfl rfl rfl ?_); intro W1 HM1; replace HM := Lib.hid HM1; clear HM1; simp only [lss, Nat.reduceAdd] at HM))) | ((with_reducible refine ialloc (d := some 6) ?_); refine alb rfl HM.out ?_; intro g6 W1 HM1; replace HM := Lib.hid HM1; clear HM1) | ((with_reducible refine ialloc (d := some 7) ?_); refine alb rfl HM.out ?_; intro g7 W1 HM1; replace HM := Lib.hid HM1; clear HM1) | (go_at_call 43; (with_reducible refine (HN.out _).mono ?_); rintro e W2 ⟨rfl, rfl⟩) | (go_at_call 25; (with_reducible refine (HF.out _).mono ?_); rintro e W1 ⟨rfl, hb⟩; replace HM := Lib.hid (HM.out.next hb); clear hb) | ((with_reducible refine imapUpdate ?_); (refine upm (l := symE (l.take i)) rfl HM.out 2 rfl rfl rfl rfl HV.out ?_; intro W1 HM1; replace HM := Lib.hid HM1; clear HM1; simp only [List.set] at HM)))
            go_roundw
            case rel => exact ⟨i + 1, by go_num, hlt3.out, by rw [HT.out]; exact HB, by
              rw [HT.out, symE_push, List.length_append]
              exact Lib.hid (HM.out.sub (.cons _ (.cons _ (.refl _))))⟩
            case measure => have := hlt3.out; simp [intOf]; omega
    · obtain rfl : i = l.length := by omega
      have hr : r = 0 := by rw [← HI.out, List.drop_of_length_le (Nat.le_refl _)]; rfl
      subst hr
      have HT := Lib.hid (show l.take l.length = l from List.take_length)
      have d1 : decide ((l.length : Int) < l.length) = false := by simp
      go_wp2
      go_ret2
      unfold NamedPost
      rw [if_pos rfl]
      exact ⟨gm, rfl, by have h := HM.out; rw [HT.out] at h; exact h⟩
end Go.Proofs.YtpjcjgikfplgnaaDoor

namespace Go.Proofs.YtpjcjgikfplgnaaDoor
open Go.RowKit
set_option linter.unusedVariables false
set_option linter.unusedSimpArgs false
set_option maxRecDepth 100000

/-- What the reference's Function answers: a slice of its own. -/
def RFnPost (r : Option (List TyD × TyD)) (w : World) (e : Ending) (w' : World) : Prop :=
  match r with
  | none => e = .returned (.tuple #[.slice none 0 0, .agg #[.int .i64 0, .int .i64 0], .bool false]) ∧ Below w.heap.size w w'
  | some (ts, g) => ∃ q, e = .returned (.tuple #[.slice (some ⟨q, 0, none⟩) ts.length ts.length, .agg g.cs.toArray, .bool true]) ∧ Mem w w' [.row (some ⟨q, 0, none⟩) ts.length 25 2 ts.length (ts.flatMap TyD.cs)]
end Go.Proofs.YtpjcjgikfplgnaaDoor
