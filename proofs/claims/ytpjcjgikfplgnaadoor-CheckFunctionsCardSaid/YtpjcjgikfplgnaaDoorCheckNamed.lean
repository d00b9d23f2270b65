/- named of check: the map of the names. (fast) -/
import Derived.Test.YtpjcjgikfplgnaaDoorCheckThing
namespace Go.Proofs.YtpjcjgikfplgnaaDoor
open Go.RowKit
set_option linter.unusedVariables false
set_option linter.unusedSimpArgs false
set_option maxRecDepth 100000

def namesGo : List SymD → List SymD → Int
  | _, [] => 0
  | seen, s :: l => if (lookT s.name seen).isSome || !nameB s.name || !formB s.t.k s.t.o then 2 else namesGo (seen ++ [s]) l
def namesF (l : List SymD) : Int := if 100 < l.length then 6 else namesGo [] l
theorem namesGo_cons (seen : List SymD) (s : SymD) (l : List SymD) : namesGo seen (s :: l) = if (lookT s.name seen).isSome || !nameB s.name || !formB s.t.k s.t.o then 2 else namesGo (seen ++ [s]) l := rfl
def NamedPost (l : List SymD) (r : Int) (w : World) (e : Ending) (w' : World) : Prop :=
  if r = 0 then ∃ g, e = .returned (.tuple #[.map (some g), .int .i64 0]) ∧ Mem w w' [.map g (mapEs (symE l)) (symE l).length] else e = .returned (.tuple #[.map none, .int .i64 r]) ∧ Below w.heap.size w w'
theorem symE_push (l : List SymD) (s : SymD) : symE (l ++ [s]) = symE l ++ [(s.name, s.t.val)] := by unfold symE; simp
theorem named_err {l : List SymD} {r : Int} {w w' : World} {x : Int} (h : x = r) (hx : x ≠ 0) (hb : Below w.heap.size w w') : NamedPost l r w (.returned (.tuple #[.map none, .int .i64 x])) w' := by
  subst h
  unfold NamedPost
  rw [if_neg hx]
  exact ⟨rfl, hb⟩

set_option maxHeartbeats 4000000 in
theorem named_any (p : Option Addr) (c : Nat) (l : List SymD) (w : World) (hS : Sl w p (l.flatMap SymD.cs)) (hl : l.length ≤ 4611686018427387904) :
    Calls Tryd.prog 23 #[.slice p l.length c] w (NamedPost l (namesF l) w) := by
  have HM := Lib.hid (Mem.start w)
  by_cases hlong : 100 < l.length
  · have HR := Lib.hid (show (6 : Int) = namesF l by unfold namesF; rw [if_pos hlong])
    have hlong' : (100 : Int) < (l.length : Int) := by omega
    clear hlong
    go_enter Tryd.func23, Tryd.ntmps23
    go_wp2_with fail
    go_ret2
    exact named_err HR.out (by decide) HM.out.below
  have hshort : (l.length : Int) ≤ 100 := by omega
  obtain ⟨r, hr⟩ : ∃ r, namesF l = r := ⟨_, rfl⟩
  rw [hr]
  have HR := Lib.hid (show namesGo (l.take 0) (l.drop 0) = r by rw [← hr]; unfold namesF; rw [if_neg hlong]; rfl)
  have HS := Lib.hid hS
  clear hr hS hlong
  go_enter Tryd.func23, Tryd.ntmps23
  go_wp2_with (first | (refine mkm rfl HM.out ?_; intro gm W2 HM1; clear HM; (try clear W1); rename World => W1; have HM := Lib.hid HM1; clear HM1))
  go_loopw [15] (fun iv wr => ∃ i : Nat, iv = .int .i64 i ∧ i ≤ l.length ∧ Hid (namesGo (l.take i) (l.drop i) = r) ∧ Hid (Mem w wr [.map gm (mapEs (symE (l.take i))) (symE (l.take i)).length])) (fun iv _ => l.length - (intOf iv).toNat)
  case atStart => exact ⟨0, rfl, by omega, HR, HM⟩
  case round =>
    clear HM
    obtain ⟨i, rfl, hi, HI, HM⟩ := hrel
    by_cases hlt : i < l.length
    · obtain ⟨b, rfl, hb⟩ := HS.out.some_at SymD.cs_len (by decide) hlt
      obtain ⟨s, hs⟩ : ∃ s, l[i]? = some s := ⟨_, List.getElem?_eq_getElem hlt⟩
      obtain ⟨sn, tk, tz⟩ := s
      have E1 := Lib.hid (show Cells w (b.add (i * 3)) [.string sn, .int .i64 tk, .int .i64 tz] from hb.elem SymD.cs 3 SymD.cs_len hs)
      have HI2 := Lib.hid (show (if (lookT sn (l.take i)).isSome || !nameB sn || !formB tk tz then 2 else namesGo (l.take i ++ [⟨sn, tk, tz⟩]) (l.drop (i + 1))) = r by rw [← namesGo_cons (l.take i) ⟨sn, tk, tz⟩, ← HI.out, drop_at hs])
      have HT := Lib.hid (show l.take (i + 1) = l.take i ++ [⟨sn, tk, tz⟩] by rw [List.take_add_one, hs]; rfl)
      have hlt3 := Lib.hid (show i + 1 ≤ l.length from hlt)
      have d1 : decide ((i : Int) < l.length) = true := decide_eq_true (by omega)
      obtain ⟨q, hq⟩ : ∃ q, lookT sn (l.take i) = q := ⟨_, rfl⟩
      have HV := Lib.hid (show findL sn (symE (l.take i)) = q.map TyD.val by rw [find_look, hq])
      rw [hq] at HI2
      obtain ⟨nb, hnb⟩ : ∃ nb, nameB sn = nb := ⟨_, rfl⟩
      obtain ⟨fb, hfb⟩ : ∃ fb, formB tk tz = fb := ⟨_, rfl⟩
      have HN := Lib.hid (fun W => hnb ▸ name_any sn W)
      have HF := Lib.hid (fun W => hfb ▸ kForm_any tk tz W)
      rw [hnb, hfb] at HI2
      clear hb hs HI hq hnb hfb
      cases q with
      | some t =>
        have HB := Lib.hid (show (2 : Int) = r by rw [← HI2.out]; rfl)
        clear HI2
        go_wp2_with (first | ((with_reducible show wpList _ _ _ (Oper.mk (some 17) _ _ _ _ _ :: _) _ _); (refine ixa rfl rfl rfl hlt ?_)) | ((with_reducible show wpList _ _ _ (Oper.mk (some 18) _ _ _ _ _ :: _) _ _); (refine ldxW (HM.out.olds E1.out) rfl rfl ?_)) | ((with_reducible show wpList _ _ _ (Oper.mk (some 23) _ _ _ _ _ :: _) _ _); (refine lkm (l := symE (l.take i)) HM.out 1 rfl rfl rfl ?_; rw [HV.out]; simp only [Option.map_none, Option.map_some, Option.getD_none, Option.getD_some, Option.isSome_none, Option.isSome_some, TyD.val])) | ((with_reducible show wpList _ _ _ (Oper.mk _ _ _ _ _ (some _) :: _) _ _); (with_reducible refine skip_op ?_ ?_); (exact rfl)) | ((with_reducible show wpList _ _ _ (Oper.mk _ (Op.load _ _) _ _ _ _ :: _) _ _); first | refine ldb1 HM.out 0 rfl rfl rfl ?_ | refine ldb1 HM.out 1 rfl rfl rfl ?_ | refine ldb1 HM.out 2 rfl rfl rfl ?_ | refine ldbW HM.out 0 rfl rfl rfl ?_ | refine ldbW HM.out 1 rfl rfl rfl ?_ | refine ldbW HM.out 2 rfl rfl rfl ?_ | ((first | refine ldbS HM.out 0 rfl rfl rfl ?_ | refine ldbS HM.out 1 rfl rfl rfl ?_ | refine ldbS HM.out 2 rfl rfl rfl ?_); simp only [List.take, List.drop])) | ((with_reducible show wpList _ _ _ (Oper.mk _ (Op.store _ _ _) _ _ _ _ :: _) _ _); (first | ((first | refine stbW rfl HM.out 0 rfl rfl rfl rfl rfl rfl ?_ | refine stbW rfl HM.out 1 rfl rfl rfl rfl rfl rfl ?_ | refine stbW rfl HM.out 2 rfl rfl rfl rfl rfl rfl ?_); intro W2 HM1; clear HM; (try clear W1); rename World => W1; have HM := Lib.hid HM1; clear HM1; simp only [List.set] at HM) | ((first | refine stbS rfl HM.out 0 rfl rfl rfl rfl rfl rfl ?_ | refine stbS rfl HM.out 1 rfl rfl rfl rfl rfl rfl ?_ | refine stbS rfl HM.out 2 rfl rfl rfl rfl rfl rfl ?_); intro W2 HM1; clear HM; (try clear W1); rename World => W1; have HM := Lib.hid HM1; clear HM1; simp only [List.set, List.take, List.drop, List.cons_append, List.nil_append, Nat.reduceAdd, List.length_cons, List.length_nil] at HM))) | ((with_reducible show wpList _ _ _ (Oper.mk (some 6) (Op.alloc _) _ _ _ _ :: _) _ _); refine alb rfl HM.out ?_; intro g6 W2 HM1; clear HM; (try clear W1); rename World => W1; have HM := Lib.hid HM1; clear HM1) | ((with_reducible show wpList _ _ _ (Oper.mk (some 7) (Op.alloc _) _ _ _ _ :: _) _ _); refine alb rfl HM.out ?_; intro g7 W2 HM1; clear HM; (try clear W1); rename World => W1; have HM := Lib.hid HM1; clear HM1))
        go_ret2
        exact named_err HB.out (by decide) HM.out.below
      | none =>
        cases nb
        · have HB := Lib.hid (show (2 : Int) = r by rw [← HI2.out]; rfl)
          clear HI2
          go_wp2_with (first | ((with_reducible show wpList _ _ _ (Oper.mk (some 17) _ _ _ _ _ :: _) _ _); (refine ixa rfl rfl rfl hlt ?_)) | ((with_reducible show wpList _ _ _ (Oper.mk (some 18) _ _ _ _ _ :: _) _ _); (refine ldxW (HM.out.olds E1.out) rfl rfl ?_)) | ((with_reducible show wpList _ _ _ (Oper.mk (some 23) _ _ _ _ _ :: _) _ _); (refine lkm (l := symE (l.take i)) HM.out 1 rfl rfl rfl ?_; rw [HV.out]; simp only [Option.map_none, Option.map_some, Option.getD_none, Option.getD_some, Option.isSome_none, Option.isSome_some, TyD.val])) | ((with_reducible show wpList _ _ _ (Oper.mk _ _ _ _ _ (some _) :: _) _ _); (with_reducible refine skip_op ?_ ?_); (exact rfl)) | ((with_reducible show wpList _ _ _ (Oper.mk _ (Op.load _ _) _ _ _ _ :: _) _ _); first | refine ldb1 HM.out 0 rfl rfl rfl ?_ | refine ldb1 HM.out 1 rfl rfl rfl ?_ | refine ldb1 HM.out 2 rfl rfl rfl ?_ | refine ldbW HM.out 0 rfl rfl rfl ?_ | refine ldbW HM.out 1 rfl rfl rfl ?_ | refine ldbW HM.out 2 rfl rfl rfl ?_ | ((first | refine ldbS HM.out 0 rfl rfl rfl ?_ | refine ldbS HM.out 1 rfl rfl rfl ?_ | refine ldbS HM.out 2 rfl rfl rfl ?_); simp only [List.take, List.drop])) | ((with_reducible show wpList _ _ _ (Oper.mk _ (Op.store _ _ _) _ _ _ _ :: _) _ _); (first | ((first | refine stbW rfl HM.out 0 rfl rfl rfl rfl rfl rfl ?_ | refine stbW rfl HM.out 1 rfl rfl rfl rfl rfl rfl ?_ | refine stbW rfl HM.out 2 rfl rfl rfl rfl rfl rfl ?_); intro W2 HM1; clear HM; (try clear W1); rename World => W1; have HM := Lib.hid HM1; clear HM1; simp only [List.set] at HM) | ((first | refine stbS rfl HM.out 0 rfl rfl rfl rfl rfl rfl ?_ | refine stbS rfl HM.out 1 rfl rfl rfl rfl rfl rfl ?_ | refine stbS rfl HM.out 2 rfl rfl rfl rfl rfl rfl ?_); intro W2 HM1; clear HM; (try clear W1); rename World => W1; have HM := Lib.hid HM1; clear HM1; simp only [List.set, List.take, List.drop, List.cons_append, List.nil_append, Nat.reduceAdd, List.length_cons, List.length_nil] at HM))) | ((with_reducible show wpList _ _ _ (Oper.mk (some 6) (Op.alloc _) _ _ _ _ :: _) _ _); refine alb rfl HM.out ?_; intro g6 W2 HM1; clear HM; (try clear W1); rename World => W1; have HM := Lib.hid HM1; clear HM1) | ((with_reducible show wpList _ _ _ (Oper.mk (some 7) (Op.alloc _) _ _ _ _ :: _) _ _); refine alb rfl HM.out ?_; intro g7 W2 HM1; clear HM; (try clear W1); rename World => W1; have HM := Lib.hid HM1; clear HM1) | (go_at_call 43; (with_reducible refine (HN.out _).mono ?_); rintro e W2 ⟨rfl, rfl⟩))
          go_ret2
          exact named_err HB.out (by decide) HM.out.below
        · cases fb
          · have HB := Lib.hid (show (2 : Int) = r by rw [← HI2.out]; rfl)
            clear HI2
            go_wp2_with (first | ((with_reducible show wpList _ _ _ (Oper.mk (some 17) _ _ _ _ _ :: _) _ _); (refine ixa rfl rfl rfl hlt ?_)) | ((with_reducible show wpList _ _ _ (Oper.mk (some 18) _ _ _ _ _ :: _) _ _); (refine ldxW (HM.out.olds E1.out) rfl rfl ?_)) | ((with_reducible show wpList _ _ _ (Oper.mk (some 23) _ _ _ _ _ :: _) _ _); (refine lkm (l := symE (l.take i)) HM.out 1 rfl rfl rfl ?_; rw [HV.out]; simp only [Option.map_none, Option.map_some, Option.getD_none, Option.getD_some, Option.isSome_none, Option.isSome_some, TyD.val])) | ((with_reducible show wpList _ _ _ (Oper.mk _ _ _ _ _ (some _) :: _) _ _); (with_reducible refine skip_op ?_ ?_); (exact rfl)) | ((with_reducible show wpList _ _ _ (Oper.mk _ (Op.load _ _) _ _ _ _ :: _) _ _); first | refine ldb1 HM.out 0 rfl rfl rfl ?_ | refine ldb1 HM.out 1 rfl rfl rfl ?_ | refine ldb1 HM.out 2 rfl rfl rfl ?_ | refine ldbW HM.out 0 rfl rfl rfl ?_ | refine ldbW HM.out 1 rfl rfl rfl ?_ | refine ldbW HM.out 2 rfl rfl rfl ?_ | ((first | refine ldbS HM.out 0 rfl rfl rfl ?_ | refine ldbS HM.out 1 rfl rfl rfl ?_ | refine ldbS HM.out 2 rfl rfl rfl ?_); simp only [List.take, List.drop])) | ((with_reducible show wpList _ _ _ (Oper.mk _ (Op.store _ _ _) _ _ _ _ :: _) _ _); (first | ((first | refine stbW rfl HM.out 0 rfl rfl rfl rfl rfl rfl ?_ | refine stbW rfl HM.out 1 rfl rfl rfl rfl rfl rfl ?_ | refine stbW rfl HM.out 2 rfl rfl rfl rfl rfl rfl ?_); intro W2 HM1; clear HM; (try clear W1); rename World => W1; have HM := Lib.hid HM1; clear HM1; simp only [List.set] at HM) | ((first | refine stbS rfl HM.out 0 rfl rfl rfl rfl rfl rfl ?_ | refine stbS rfl HM.out 1 rfl rfl rfl rfl rfl rfl ?_ | refine stbS rfl HM.out 2 rfl rfl rfl rfl rfl rfl ?_); intro W2 HM1; clear HM; (try clear W1); rename World => W1; have HM := Lib.hid HM1; clear HM1; simp only [List.set, List.take, List.drop, List.cons_append, List.nil_append, Nat.reduceAdd, List.length_cons, List.length_nil] at HM))) | ((with_reducible show wpList _ _ _ (Oper.mk (some 6) (Op.alloc _) _ _ _ _ :: _) _ _); refine alb rfl HM.out ?_; intro g6 W2 HM1; clear HM; (try clear W1); rename World => W1; have HM := Lib.hid HM1; clear HM1) | ((with_reducible show wpList _ _ _ (Oper.mk (some 7) (Op.alloc _) _ _ _ _ :: _) _ _); refine alb rfl HM.out ?_; intro g7 W2 HM1; clear HM; (try clear W1); rename World => W1; have HM := Lib.hid HM1; clear HM1) | (go_at_call 43; (with_reducible refine (HN.out _).mono ?_); rintro e W2 ⟨rfl, rfl⟩) | (go_at_call 25; (with_reducible refine (HF.out _).mono ?_); rintro e W2 ⟨rfl, hb⟩; have HM1 := HM.out.next hb; clear hb; clear HM; (try clear W1); rename World => W1; have HM := Lib.hid HM1; clear HM1))
            go_ret2
            exact named_err HB.out (by decide) HM.out.below
          · have HB := Lib.hid (show namesGo (l.take i ++ [⟨sn, tk, tz⟩]) (l.drop (i + 1)) = r by rw [← HI2.out]; rfl)
            clear HI2
            go_wp2_with (first | ((with_reducible show wpList _ _ _ (Oper.mk (some 17) _ _ _ _ _ :: _) _ _); (refine ixa rfl rfl rfl hlt ?_)) | ((with_reducible show wpList _ _ _ (Oper.mk (some 18) _ _ _ _ _ :: _) _ _); (refine ldxW (HM.out.olds E1.out) rfl rfl ?_)) | ((with_reducible show wpList _ _ _ (Oper.mk (some 23) _ _ _ _ _ :: _) _ _); (refine lkm (l := symE (l.take i)) HM.out 1 rfl rfl rfl ?_; rw [HV.out]; simp only [Option.map_none, Option.map_some, Option.getD_none, Option.getD_some, Option.isSome_none, Option.isSome_some, TyD.val])) | ((with_reducible show wpList _ _ _ (Oper.mk _ _ _ _ _ (some _) :: _) _ _); (with_reducible refine skip_op ?_ ?_); (exact rfl)) | ((with_reducible show wpList _ _ _ (Oper.mk _ (Op.load _ _) _ _ _ _ :: _) _ _); first | refine ldb1 HM.out 0 rfl rfl rfl ?_ | refine ldb1 HM.out 1 rfl rfl rfl ?_ | refine ldb1 HM.out 2 rfl rfl rfl ?_ | refine ldbW HM.out 0 rfl rfl rfl ?_ | refine ldbW HM.out 1 rfl rfl rfl ?_ | refine ldbW HM.out 2 rfl rfl rfl ?_ | ((first | refine ldbS HM.out 0 rfl rfl rfl ?_ | refine ldbS HM.out 1 rfl rfl rfl ?_ | refine ldbS HM.out 2 rfl rfl rfl ?_); simp only [List.take, List.drop])) | ((with_reducible show wpList _ _ _ (Oper.mk _ (Op.store _ _ _) _ _ _ _ :: _) _ _); (first | ((first | refine stbW rfl HM.out 0 rfl rfl rfl rfl rfl rfl ?_ | refine stbW rfl HM.out 1 rfl rfl rfl rfl rfl rfl ?_ | refine stbW rfl HM.out 2 rfl rfl rfl rfl rfl rfl ?_); intro W2 HM1; clear HM; (try clear W1); rename World => W1; have HM := Lib.hid HM1; clear HM1; simp only [List.set] at HM) | ((first | refine stbS rfl HM.out 0 rfl rfl rfl rfl rfl rfl ?_ | refine stbS rfl HM.out 1 rfl rfl rfl rfl rfl rfl ?_ | refine stbS rfl HM.out 2 rfl rfl rfl rfl rfl rfl ?_); intro W2 HM1; clear HM; (try clear W1); rename World => W1; have HM := Lib.hid HM1; clear HM1; simp only [List.set, List.take, List.drop, List.cons_append, List.nil_append, Nat.reduceAdd, List.length_cons, List.length_nil] at HM))) | ((with_reducible show wpList _ _ _ (Oper.mk (some 6) (Op.alloc _) _ _ _ _ :: _) _ _); refine alb rfl HM.out ?_; intro g6 W2 HM1; clear HM; (try clear W1); rename World => W1; have HM := Lib.hid HM1; clear HM1) | ((with_reducible show wpList _ _ _ (Oper.mk (some 7) (Op.alloc _) _ _ _ _ :: _) _ _); refine alb rfl HM.out ?_; intro g7 W2 HM1; clear HM; (try clear W1); rename World => W1; have HM := Lib.hid HM1; clear HM1) | (go_at_call 43; (with_reducible refine (HN.out _).mono ?_); rintro e W2 ⟨rfl, rfl⟩) | (go_at_call 25; (with_reducible refine (HF.out _).mono ?_); rintro e W2 ⟨rfl, hb⟩; have HM1 := HM.out.next hb; clear hb; clear HM; (try clear W1); rename World => W1; have HM := Lib.hid HM1; clear HM1) | ((with_reducible show wpList _ _ _ (Oper.mk _ (Op.mapUpdate _ _ _ _) _ _ _ _ :: _) _ _); (refine upm (l := symE (l.take i)) rfl HM.out 2 rfl rfl rfl rfl HV.out ?_; intro W2 HM1; clear HM; (try clear W1); rename World => W1; have HM := Lib.hid HM1; clear HM1; simp only [List.set] at HM)))
            go_roundw
            case rel => exact ⟨i + 1, by go_num, hlt3.out, by rw [HT.out]; exact HB, by
              rw [HT.out, symE_push, List.length_append]
              exact Lib.hid (HM.out.sub (.cons _ (.cons _ (.refl _))))⟩
            case measure => have := hlt3.out; simp [intOf]; omega
    · obtain rfl : i = l.length := by omega
      have hr : r = 0 := by rw [← HI.out, List.drop_of_length_le (Nat.le_refl _)]; rfl
      subst hr
      have HT := Lib.hid (show l.take l.length = l from List.take_length)
      have d1 : decide ((l.length : Int) < l.length) = false := by simp
      go_wp2
      go_ret2
      unfold NamedPost
      rw [if_pos rfl]
      exact ⟨gm, rfl, by have h := HM.out; rw [HT.out] at h; exact h⟩
end Go.Proofs.YtpjcjgikfplgnaaDoor
