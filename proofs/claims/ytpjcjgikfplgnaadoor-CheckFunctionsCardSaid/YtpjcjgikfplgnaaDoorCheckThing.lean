/- The small functions of check's machine: fits, items, leaf; told by its two ways.  (fast) -/
import Derived.Test.YtpjcjgikfplgnaaDoorCheckA
import Derived.Test.YtpjcjgikfplgnaaDoorSepA
namespace Go.Proofs.YtpjcjgikfplgnaaDoor
open Go.RowKit
set_option linter.unusedVariables false
set_option linter.unusedSimpArgs false
set_option maxRecDepth 100000

/-- A test with the type of what it compares; a symbol. -/
structure AskD where
  ord : Bool
  t : TyD
def AskD.cs (a : AskD) : List Value := [.bool a.ord, .int .i64 a.t.k, .int .i64 a.t.o]
theorem AskD.cs_len (a : AskD) : a.cs.length = 3 := rfl
def askB (t : TyD) (a : AskD) : Bool := if a.ord then ordB t.k t.o a.t.k a.t.o else meetB t.k t.o a.t.k a.t.o
def asksB (t : TyD) (l : List AskD) : Bool := l.all (askB t)
theorem asksB_cons (t : TyD) (a : AskD) (l : List AskD) : asksB t (a :: l) = (askB t a && asksB t l) := rfl
structure SymD where
  name : ByteArray
  t : TyD
def SymD.cs (s : SymD) : List Value := [.string s.name, .int .i64 s.t.k, .int .i64 s.t.o]
theorem SymD.cs_len (s : SymD) : s.cs.length = 3 := rfl
def TyD.val (t : TyD) : Value := .agg #[.int .i64 t.k, .int .i64 t.o]
def symE (l : List SymD) : List (ByteArray × Value) := l.map fun s => (s.name, s.t.val)
def lookT (s : ByteArray) : List SymD → Option TyD
  | [] => none
  | x :: l => if s = x.name then some x.t else lookT s l
theorem find_look (s : ByteArray) : ∀ l : List SymD, findL s (symE l) = (lookT s l).map TyD.val
  | [] => rfl
  | x :: l => by
    show (if s = x.name then some x.t.val else findL s (symE l)) = _
    rw [find_look s l]
    show _ = Option.map TyD.val (if s = x.name then some x.t else lookT s l)
    split <;> rfl
def MapAt (w : World) (g : Nat) (l : List SymD) : Prop := w.heap[g]? = some (.map (mapEs (symE l)) (symE l).length)
theorem Mem.oldmap {w0 W : World} {L : List Res} (h : Mem w0 W L) {g : Nat} {l : List SymD} (hm : MapAt w0 g l) : (Res.map g (mapEs (symE l)) (symE l).length).holds 0 W :=
  ⟨Nat.zero_le _, (h.below.block g (Array.getElem?_eq_some_iff.1 hm).1).trans hm⟩
instance : MapT Tryd.prog 54 25 (.agg #[.int .i64 0, .int .i64 0]) := ⟨⟨9, by kernel_rfl, by kernel_rfl⟩, fun w => by kernel_rfl⟩

theorem told_yes (k o : Int) (w : World) : Calls Tryd.prog 82 #[.bool true, .agg #[.int .i64 k, .int .i64 o]] w fun e w' => e = .returned (.tuple #[.agg #[.int .i64 k, .int .i64 o], .int .i64 0]) ∧ RowKit.Below w.heap.size w w' := told_any true k o w
theorem told_no (k o : Int) (w : World) : Calls Tryd.prog 82 #[.bool false, .agg #[.int .i64 k, .int .i64 o]] w fun e w' => e = .returned (.tuple #[.agg #[.int .i64 0, .int .i64 0], .int .i64 9]) ∧ RowKit.Below w.heap.size w w' := told_any false k o w
theorem must_yes (k : Int) (w : World) : Calls Tryd.prog 57 #[.bool true, .int .i64 k] w fun e w' => e = .returned (.tuple #[.agg #[.int .i64 k, .int .i64 0], .int .i64 0]) ∧ RowKit.Below w.heap.size w w' := must_any true k w
theorem must_no (k : Int) (w : World) : Calls Tryd.prog 57 #[.bool false, .int .i64 k] w fun e w' => e = .returned (.tuple #[.agg #[.int .i64 0, .int .i64 0], .int .i64 9]) ∧ RowKit.Below w.heap.size w w' := must_any false k w

set_option maxHeartbeats 2000000 in
theorem fits_any (tk tz : Int) (q : Option Addr) (c : Nat) (qs : List AskD) (t : TyD) (w : World) (hS : Sl w q (qs.flatMap AskD.cs)) (hf : ∀ a, a ∈ qs → a.t.form) (ht : t.form) (hl : qs.length ≤ 4611686018427387904) :
    Calls Tryd.prog 26 #[.agg #[.int .i64 tk, .int .i64 tz, .slice q qs.length c], .agg #[.int .i64 t.k, .int .i64 t.o]] w fun e w' => e = .returned (.bool (asksB t qs)) ∧ Below w.heap.size w w' := by
  have HM := Lib.hid (Mem.start w)
  obtain ⟨r, hr⟩ : ∃ r, asksB t qs = r := ⟨_, rfl⟩
  rw [hr]
  have HR := Lib.hid (show asksB t (qs.drop 0) = r from hr)
  have HS := Lib.hid hS
  have HF := Lib.hid hf
  have HK := Lib.hid ht
  clear hr hS hf ht
  go_enter Tryd.func26, Tryd.ntmps26
  go_wp2_with (first | ((with_reducible show wpList _ _ _ (Oper.mk _ _ _ _ _ (some _) :: _) _ _); (with_reducible refine skip_op ?_ ?_); (exact rfl)) | ((with_reducible show wpList _ _ _ (Oper.mk _ (Op.load _ _) _ _ _ _ :: _) _ _); first | refine ldb1 HM.out 0 rfl rfl rfl ?_ | refine ldb1 HM.out 1 rfl rfl rfl ?_ | refine ldb1 HM.out 2 rfl rfl rfl ?_ | refine ldbW HM.out 0 rfl rfl rfl ?_ | refine ldbW HM.out 1 rfl rfl rfl ?_ | refine ldbW HM.out 2 rfl rfl rfl ?_ | ((first | refine ldbS HM.out 0 rfl rfl rfl ?_ | refine ldbS HM.out 1 rfl rfl rfl ?_ | refine ldbS HM.out 2 rfl rfl rfl ?_); simp only [List.take, List.drop])) | ((with_reducible show wpList _ _ _ (Oper.mk _ (Op.store _ _ _) _ _ _ _ :: _) _ _); (first | ((first | refine stbW rfl HM.out 0 rfl rfl rfl rfl rfl rfl ?_ | refine stbW rfl HM.out 1 rfl rfl rfl rfl rfl rfl ?_ | refine stbW rfl HM.out 2 rfl rfl rfl rfl rfl rfl ?_); intro W2 HM1; clear HM; (try clear W1); rename World => W1; have HM := Lib.hid HM1; clear HM1; simp only [List.set] at HM) | ((first | refine stbS rfl HM.out 0 rfl rfl rfl rfl rfl rfl ?_ | refine stbS rfl HM.out 1 rfl rfl rfl rfl rfl rfl ?_ | refine stbS rfl HM.out 2 rfl rfl rfl rfl rfl rfl ?_); intro W2 HM1; clear HM; (try clear W1); rename World => W1; have HM := Lib.hid HM1; clear HM1; simp only [List.set, List.take, List.drop, List.cons_append, List.nil_append, Nat.reduceAdd, List.length_cons, List.length_nil] at HM))) | ((with_reducible show wpList _ _ _ (Oper.mk (some 2) (Op.box _ _) _ _ _ _ :: _) _ _); refine bxA rfl HM.out rfl ?_; intro g2 W2 HM1; clear HM; (try clear W1); rename World => W1; have HM := Lib.hid HM1; clear HM1) | ((with_reducible show wpList _ _ _ (Oper.mk (some 3) (Op.box _ _) _ _ _ _ :: _) _ _); refine bxA rfl HM.out rfl ?_; intro g3 W2 HM1; clear HM; (try clear W1); rename World => W1; have HM := Lib.hid HM1; clear HM1) | ((with_reducible show wpList _ _ _ (Oper.mk _ (Op.alloc _) _ _ _ _ :: _) _ _); refine alb rfl HM.out ?_; intro g1 W2 HM1; clear HM; (try clear W1); rename World => W1; have HM := Lib.hid HM1; clear HM1))
  go_loopw [10] (fun iv wr => ∃ i : Nat, iv = .int .i64 i ∧ i ≤ qs.length ∧ Hid (asksB t (qs.drop i) = r) ∧ Hid (Mem w wr [.box g3 25 [.int .i64 t.k, .int .i64 t.o], .box g2 63 [.int .i64 tk, .int .i64 tz, .slice q qs.length c]])) (fun iv _ => qs.length - (intOf iv).toNat)
  case atStart => exact ⟨0, rfl, by omega, HR, HM⟩
  case round =>
    clear HM
    obtain ⟨i, rfl, hi, HI, HM⟩ := hrel
    by_cases hlt : i < qs.length
    · obtain ⟨b, rfl, hb⟩ := HS.out.some_at AskD.cs_len (by decide) hlt
      obtain ⟨x, hx⟩ : ∃ x, qs[i]? = some x := ⟨_, List.getElem?_eq_getElem hlt⟩
      have E1 := Lib.hid (hb.elem AskD.cs 3 AskD.cs_len hx)
      have hxf := HF.out x (List.mem_of_getElem? hx)
      obtain ⟨m, hm⟩ : ∃ m, askB t x = m := ⟨_, rfl⟩
      have HI2 := Lib.hid (show (m && asksB t (qs.drop (i + 1))) = r by rw [← HI.out, drop_at hx, asksB_cons, hm])
      have hlt3 := Lib.hid (show i + 1 ≤ qs.length from hlt)
      have d1 : decide ((i : Int) < qs.length) = true := decide_eq_true (by omega)
      obtain ⟨xo, xt⟩ := x
      have E2 := Lib.hid (show Cells w (b.add (i * 3)) [.bool xo, .int .i64 xt.k, .int .i64 xt.o] from E1.out)
      unfold askB at hm
      clear hb hx HI E1
      have E1 := E2
      clear E2
      cases xo
      · have HMt := Lib.hid (fun W => (show meetB t.k t.o xt.k xt.o = m from hm) ▸ meet_any t.k t.o xt.k xt.o W HK.out hxf)
        clear hm hxf
        cases m
        · have HB := Lib.hid (show r = false by rw [← HI2.out]; rfl)
          go_wp2_with (first | ((with_reducible show wpList _ _ _ (Oper.mk _ _ _ _ _ (some _) :: _) _ _); (with_reducible refine skip_op ?_ ?_); (exact rfl)) | ((with_reducible show wpList _ _ _ (Oper.mk _ (Op.load _ _) _ _ _ _ :: _) _ _); first | refine ldb1 HM.out 0 rfl rfl rfl ?_ | refine ldb1 HM.out 1 rfl rfl rfl ?_ | refine ldb1 HM.out 2 rfl rfl rfl ?_ | refine ldb1 HM.out 3 rfl rfl rfl ?_ | refine ldbW HM.out 0 rfl rfl rfl ?_ | refine ldbW HM.out 1 rfl rfl rfl ?_ | refine ldbW HM.out 2 rfl rfl rfl ?_ | refine ldbW HM.out 3 rfl rfl rfl ?_ | ((first | refine ldbS HM.out 0 rfl rfl rfl ?_ | refine ldbS HM.out 1 rfl rfl rfl ?_ | refine ldbS HM.out 2 rfl rfl rfl ?_ | refine ldbS HM.out 3 rfl rfl rfl ?_); simp only [List.take, List.drop])) | ((with_reducible show wpList _ _ _ (Oper.mk _ (Op.store _ _ _) _ _ _ _ :: _) _ _); (first | ((first | refine stbW rfl HM.out 0 rfl rfl rfl rfl rfl rfl ?_ | refine stbW rfl HM.out 1 rfl rfl rfl rfl rfl rfl ?_ | refine stbW rfl HM.out 2 rfl rfl rfl rfl rfl rfl ?_ | refine stbW rfl HM.out 3 rfl rfl rfl rfl rfl rfl ?_); intro W2 HM1; clear HM; (try clear W1); rename World => W1; have HM := Lib.hid HM1; clear HM1; simp only [List.set] at HM) | ((first | refine stbS rfl HM.out 0 rfl rfl rfl rfl rfl rfl ?_ | refine stbS rfl HM.out 1 rfl rfl rfl rfl rfl rfl ?_ | refine stbS rfl HM.out 2 rfl rfl rfl rfl rfl rfl ?_ | refine stbS rfl HM.out 3 rfl rfl rfl rfl rfl rfl ?_); intro W2 HM1; clear HM; (try clear W1); rename World => W1; have HM := Lib.hid HM1; clear HM1; simp only [List.set, List.take, List.drop, List.cons_append, List.nil_append, Nat.reduceAdd, List.length_cons, List.length_nil] at HM))) | ((with_reducible show wpList _ _ _ (Oper.mk (some 6) (Op.alloc _) _ _ _ _ :: _) _ _); refine alb rfl HM.out ?_; intro g6 W2 HM1; clear HM; (try clear W1); rename World => W1; have HM := Lib.hid HM1; clear HM1) | ((with_reducible show wpList _ _ _ (Oper.mk _ (Op.box _ _) _ _ _ _ :: _) _ _); refine bxA rfl HM.out rfl ?_; intro g1 W2 HM1; clear HM; (try clear W1); rename World => W1; have HM := Lib.hid HM1; clear HM1) | ((with_reducible show wpList _ _ _ (Oper.mk (some 12) _ _ _ _ _ :: _) _ _); (refine ixa rfl rfl rfl hlt ?_)) | ((with_reducible show wpList _ _ _ (Oper.mk (some 13) _ _ _ _ _ :: _) _ _); (refine ldxW (HM.out.olds E1.out) rfl rfl ?_)) | (go_at_call 46; (with_reducible refine (HMt.out _).mono ?_); rintro e W2 ⟨rfl, hb⟩; have HM1 := HM.out.next hb; clear hb; clear HM; (try clear W1); rename World => W1; have HM := Lib.hid HM1; clear HM1))
          go_ret
          exact ⟨by rw [HB.out]; rfl, HM.out.below⟩
        · have HB := Lib.hid (show asksB t (qs.drop (i + 1)) = r by rw [← HI2.out]; rfl)
          go_wp2_with (first | ((with_reducible show wpList _ _ _ (Oper.mk _ _ _ _ _ (some _) :: _) _ _); (with_reducible refine skip_op ?_ ?_); (exact rfl)) | ((with_reducible show wpList _ _ _ (Oper.mk _ (Op.load _ _) _ _ _ _ :: _) _ _); first | refine ldb1 HM.out 0 rfl rfl rfl ?_ | refine ldb1 HM.out 1 rfl rfl rfl ?_ | refine ldb1 HM.out 2 rfl rfl rfl ?_ | refine ldb1 HM.out 3 rfl rfl rfl ?_ | refine ldbW HM.out 0 rfl rfl rfl ?_ | refine ldbW HM.out 1 rfl rfl rfl ?_ | refine ldbW HM.out 2 rfl rfl rfl ?_ | refine ldbW HM.out 3 rfl rfl rfl ?_ | ((first | refine ldbS HM.out 0 rfl rfl rfl ?_ | refine ldbS HM.out 1 rfl rfl rfl ?_ | refine ldbS HM.out 2 rfl rfl rfl ?_ | refine ldbS HM.out 3 rfl rfl rfl ?_); simp only [List.take, List.drop])) | ((with_reducible show wpList _ _ _ (Oper.mk _ (Op.store _ _ _) _ _ _ _ :: _) _ _); (first | ((first | refine stbW rfl HM.out 0 rfl rfl rfl rfl rfl rfl ?_ | refine stbW rfl HM.out 1 rfl rfl rfl rfl rfl rfl ?_ | refine stbW rfl HM.out 2 rfl rfl rfl rfl rfl rfl ?_ | refine stbW rfl HM.out 3 rfl rfl rfl rfl rfl rfl ?_); intro W2 HM1; clear HM; (try clear W1); rename World => W1; have HM := Lib.hid HM1; clear HM1; simp only [List.set] at HM) | ((first | refine stbS rfl HM.out 0 rfl rfl rfl rfl rfl rfl ?_ | refine stbS rfl HM.out 1 rfl rfl rfl rfl rfl rfl ?_ | refine stbS rfl HM.out 2 rfl rfl rfl rfl rfl rfl ?_ | refine stbS rfl HM.out 3 rfl rfl rfl rfl rfl rfl ?_); intro W2 HM1; clear HM; (try clear W1); rename World => W1; have HM := Lib.hid HM1; clear HM1; simp only [List.set, List.take, List.drop, List.cons_append, List.nil_append, Nat.reduceAdd, List.length_cons, List.length_nil] at HM))) | ((with_reducible show wpList _ _ _ (Oper.mk (some 6) (Op.alloc _) _ _ _ _ :: _) _ _); refine alb rfl HM.out ?_; intro g6 W2 HM1; clear HM; (try clear W1); rename World => W1; have HM := Lib.hid HM1; clear HM1) | ((with_reducible show wpList _ _ _ (Oper.mk _ (Op.box _ _) _ _ _ _ :: _) _ _); refine bxA rfl HM.out rfl ?_; intro g1 W2 HM1; clear HM; (try clear W1); rename World => W1; have HM := Lib.hid HM1; clear HM1) | ((with_reducible show wpList _ _ _ (Oper.mk (some 12) _ _ _ _ _ :: _) _ _); (refine ixa rfl rfl rfl hlt ?_)) | ((with_reducible show wpList _ _ _ (Oper.mk (some 13) _ _ _ _ _ :: _) _ _); (refine ldxW (HM.out.olds E1.out) rfl rfl ?_)) | (go_at_call 46; (with_reducible refine (HMt.out _).mono ?_); rintro e W2 ⟨rfl, hb⟩; have HM1 := HM.out.next hb; clear hb; clear HM; (try clear W1); rename World => W1; have HM := Lib.hid HM1; clear HM1))
          go_roundw
          case rel => exact ⟨i + 1, by go_num, hlt3.out, HB, Lib.hid (HM.out.sub (List.sublist_cons_self _ _))⟩
          case measure => have := hlt3.out; simp [intOf]; omega
      · have HMt := Lib.hid (fun W => (show ordB t.k t.o xt.k xt.o = m from hm) ▸ ordered_any t.k t.o xt.k xt.o W HK.out hxf)
        clear hm hxf
        cases m
        · have HB := Lib.hid (show r = false by rw [← HI2.out]; rfl)
          go_wp2_with (first | ((with_reducible show wpList _ _ _ (Oper.mk _ _ _ _ _ (some _) :: _) _ _); (with_reducible refine skip_op ?_ ?_); (exact rfl)) | ((with_reducible show wpList _ _ _ (Oper.mk _ (Op.load _ _) _ _ _ _ :: _) _ _); first | refine ldb1 HM.out 0 rfl rfl rfl ?_ | refine ldb1 HM.out 1 rfl rfl rfl ?_ | refine ldb1 HM.out 2 rfl rfl rfl ?_ | refine ldb1 HM.out 3 rfl rfl rfl ?_ | refine ldbW HM.out 0 rfl rfl rfl ?_ | refine ldbW HM.out 1 rfl rfl rfl ?_ | refine ldbW HM.out 2 rfl rfl rfl ?_ | refine ldbW HM.out 3 rfl rfl rfl ?_ | ((first | refine ldbS HM.out 0 rfl rfl rfl ?_ | refine ldbS HM.out 1 rfl rfl rfl ?_ | refine ldbS HM.out 2 rfl rfl rfl ?_ | refine ldbS HM.out 3 rfl rfl rfl ?_); simp only [List.take, List.drop])) | ((with_reducible show wpList _ _ _ (Oper.mk _ (Op.store _ _ _) _ _ _ _ :: _) _ _); (first | ((first | refine stbW rfl HM.out 0 rfl rfl rfl rfl rfl rfl ?_ | refine stbW rfl HM.out 1 rfl rfl rfl rfl rfl rfl ?_ | refine stbW rfl HM.out 2 rfl rfl rfl rfl rfl rfl ?_ | refine stbW rfl HM.out 3 rfl rfl rfl rfl rfl rfl ?_); intro W2 HM1; clear HM; (try clear W1); rename World => W1; have HM := Lib.hid HM1; clear HM1; simp only [List.set] at HM) | ((first | refine stbS rfl HM.out 0 rfl rfl rfl rfl rfl rfl ?_ | refine stbS rfl HM.out 1 rfl rfl rfl rfl rfl rfl ?_ | refine stbS rfl HM.out 2 rfl rfl rfl rfl rfl rfl ?_ | refine stbS rfl HM.out 3 rfl rfl rfl rfl rfl rfl ?_); intro W2 HM1; clear HM; (try clear W1); rename World => W1; have HM := Lib.hid HM1; clear HM1; simp only [List.set, List.take, List.drop, List.cons_append, List.nil_append, Nat.reduceAdd, List.length_cons, List.length_nil] at HM))) | ((with_reducible show wpList _ _ _ (Oper.mk (some 6) (Op.alloc _) _ _ _ _ :: _) _ _); refine alb rfl HM.out ?_; intro g6 W2 HM1; clear HM; (try clear W1); rename World => W1; have HM := Lib.hid HM1; clear HM1) | ((with_reducible show wpList _ _ _ (Oper.mk _ (Op.box _ _) _ _ _ _ :: _) _ _); refine bxA rfl HM.out rfl ?_; intro g1 W2 HM1; clear HM; (try clear W1); rename World => W1; have HM := Lib.hid HM1; clear HM1) | ((with_reducible show wpList _ _ _ (Oper.mk (some 12) _ _ _ _ _ :: _) _ _); (refine ixa rfl rfl rfl hlt ?_)) | ((with_reducible show wpList _ _ _ (Oper.mk (some 13) _ _ _ _ _ :: _) _ _); (refine ldxW (HM.out.olds E1.out) rfl rfl ?_)) | (go_at_call 45; (with_reducible refine (HMt.out _).mono ?_); rintro e W2 ⟨rfl, hb⟩; have HM1 := HM.out.next hb; clear hb; clear HM; (try clear W1); rename World => W1; have HM := Lib.hid HM1; clear HM1))
          go_ret
          exact ⟨by rw [HB.out]; rfl, HM.out.below⟩
        · have HB := Lib.hid (show asksB t (qs.drop (i + 1)) = r by rw [← HI2.out]; rfl)
          go_wp2_with (first | ((with_reducible show wpList _ _ _ (Oper.mk _ _ _ _ _ (some _) :: _) _ _); (with_reducible refine skip_op ?_ ?_); (exact rfl)) | ((with_reducible show wpList _ _ _ (Oper.mk _ (Op.load _ _) _ _ _ _ :: _) _ _); first | refine ldb1 HM.out 0 rfl rfl rfl ?_ | refine ldb1 HM.out 1 rfl rfl rfl ?_ | refine ldb1 HM.out 2 rfl rfl rfl ?_ | refine ldb1 HM.out 3 rfl rfl rfl ?_ | refine ldbW HM.out 0 rfl rfl rfl ?_ | refine ldbW HM.out 1 rfl rfl rfl ?_ | refine ldbW HM.out 2 rfl rfl rfl ?_ | refine ldbW HM.out 3 rfl rfl rfl ?_ | ((first | refine ldbS HM.out 0 rfl rfl rfl ?_ | refine ldbS HM.out 1 rfl rfl rfl ?_ | refine ldbS HM.out 2 rfl rfl rfl ?_ | refine ldbS HM.out 3 rfl rfl rfl ?_); simp only [List.take, List.drop])) | ((with_reducible show wpList _ _ _ (Oper.mk _ (Op.store _ _ _) _ _ _ _ :: _) _ _); (first | ((first | refine stbW rfl HM.out 0 rfl rfl rfl rfl rfl rfl ?_ | refine stbW rfl HM.out 1 rfl rfl rfl rfl rfl rfl ?_ | refine stbW rfl HM.out 2 rfl rfl rfl rfl rfl rfl ?_ | refine stbW rfl HM.out 3 rfl rfl rfl rfl rfl rfl ?_); intro W2 HM1; clear HM; (try clear W1); rename World => W1; have HM := Lib.hid HM1; clear HM1; simp only [List.set] at HM) | ((first | refine stbS rfl HM.out 0 rfl rfl rfl rfl rfl rfl ?_ | refine stbS rfl HM.out 1 rfl rfl rfl rfl rfl rfl ?_ | refine stbS rfl HM.out 2 rfl rfl rfl rfl rfl rfl ?_ | refine stbS rfl HM.out 3 rfl rfl rfl rfl rfl rfl ?_); intro W2 HM1; clear HM; (try clear W1); rename World => W1; have HM := Lib.hid HM1; clear HM1; simp only [List.set, List.take, List.drop, List.cons_append, List.nil_append, Nat.reduceAdd, List.length_cons, List.length_nil] at HM))) | ((with_reducible show wpList _ _ _ (Oper.mk (some 6) (Op.alloc _) _ _ _ _ :: _) _ _); refine alb rfl HM.out ?_; intro g6 W2 HM1; clear HM; (try clear W1); rename World => W1; have HM := Lib.hid HM1; clear HM1) | ((with_reducible show wpList _ _ _ (Oper.mk _ (Op.box _ _) _ _ _ _ :: _) _ _); refine bxA rfl HM.out rfl ?_; intro g1 W2 HM1; clear HM; (try clear W1); rename World => W1; have HM := Lib.hid HM1; clear HM1) | ((with_reducible show wpList _ _ _ (Oper.mk (some 12) _ _ _ _ _ :: _) _ _); (refine ixa rfl rfl rfl hlt ?_)) | ((with_reducible show wpList _ _ _ (Oper.mk (some 13) _ _ _ _ _ :: _) _ _); (refine ldxW (HM.out.olds E1.out) rfl rfl ?_)) | (go_at_call 45; (with_reducible refine (HMt.out _).mono ?_); rintro e W2 ⟨rfl, hb⟩; have HM1 := HM.out.next hb; clear hb; clear HM; (try clear W1); rename World => W1; have HM := Lib.hid HM1; clear HM1))
          go_roundw
          case rel => exact ⟨i + 1, by go_num, hlt3.out, HB, Lib.hid (HM.out.sub (List.sublist_cons_self _ _))⟩
          case measure => have := hlt3.out; simp [intOf]; omega
    · obtain rfl : i = qs.length := by omega
      have hr : r = true := by rw [← HI.out, List.drop_of_length_le (Nat.le_refl _)]; rfl
      subst hr
      have d1 : decide ((qs.length : Int) < qs.length) = false := by simp
      go_wp2
      go_ret
      exact ⟨rfl, HM.out.below⟩
end Go.Proofs.YtpjcjgikfplgnaaDoor
