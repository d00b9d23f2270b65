/- run of check's machine. (fast) -/
import Derived.Test.YtpjcjgikfplgnaaDoorStepA
import Derived.Test.YtpjcjgikfplgnaaDoorCheckStepE
import Derived.Test.YtpjcjgikfplgnaaDoorCheckStepS
import Derived.Test.YtpjcjgikfplgnaaDoorCheckStepT
namespace Go.Proofs.YtpjcjgikfplgnaaDoor
open Go.RowKit
set_option linter.unusedVariables false
set_option linter.unusedSimpArgs false
set_option maxRecDepth 100000

theorem step_any (w0 W : World) (gc gm cap : Nat) (sq : Option Addr) (T : List Res) (l : List SymD) (st : List ThT) (ds : List ThD) (n : NodeD)
    (HM0 : Mem w0 W (.box gc 60 [.map (some gm), .slice sq st.length cap] :: .row sq cap 63 3 st.length (st.flatMap ThT.cs) :: .map gm (mapEs (symE l)) (symE l).length :: T))
    (hO : StOk T st ds) (hF : ∀ d, d ∈ ds → ThForm d) (hk : kidsB n.op n.kids = true) (hkl : n.kids ≤ st.length) (hz : sizeT ds ≤ 300) :
    Calls Tryd.prog 44 #[.pointer (some ⟨gc, 0, none⟩), .agg n.cs.toArray] W (StepPost w0 gc gm T l (nextT l ds n) (stepT l ds n).2) := by
  have hop := kidsB_op hk
  by_cases h1 : n.op < 30
  · exact step_E w0 W gc gm cap sq T l st ds n h1 HM0 hO hF hk hkl hz
  by_cases h2 : n.op ≤ 35
  · exact step_T w0 W gc gm cap sq T l st ds n ⟨by omega, h2⟩ HM0 hO hF hk hkl hz
  · exact step_S w0 W gc gm cap sq T l st ds n (by omega) HM0 hO hF hk hkl hz

/-- What run leaves: beside what was there (T), a thing and its tests; or an error. -/
def RunPost (w0 : World) (T : List Res) (r : ThD × Int) (e : Ending) (w' : World) : Prop :=
  if r.2 = 0 then ∃ x R, e = .returned (.tuple #[.agg (ThT.cs x).toArray, .int .i64 0]) ∧ Mem w0 w' (R ++ T) ∧ StIn (R ++ T) x r.1
  else e = .returned (.tuple #[.agg #[.int .i64 0, .int .i64 0, .slice none 0 0], .int .i64 r.2]) ∧ Mem w0 w' T
theorem run_err {w0 : World} {T : List Res} {r : ThD × Int} {w' : World} {x : Int} {e : Ending} (h : x = r.2) (hx : x ≠ 0) (he : e = .returned (.tuple #[.agg #[.int .i64 0, .int .i64 0, .slice none 0 0], .int .i64 x])) (hb : Mem w0 w' T) : RunPost w0 T r e w' := by
  unfold RunPost
  rw [if_neg (by rw [← h]; exact hx), ← h]
  exact ⟨he, hb⟩
theorem run_fine {w0 : World} {T R : List Res} {r : ThD × Int} {d : ThD} {x : ThT} {w' : World} {e : Ending} (h : r = (d, 0)) (he : e = .returned (.tuple #[.agg (ThT.cs x).toArray, .int .i64 0])) (hb : Mem w0 w' (R ++ T)) (hi : StIn (R ++ T) x d) : RunPost w0 T r e w' := by
  subst h
  unfold RunPost
  rw [if_pos rfl]
  exact ⟨x, R, he, hb, hi⟩
theorem StIn.lose {R T : List Res} {g : Nat} {t : TypeId} {cs : List Value} {x : ThT} {d : ThD} (h : StIn (R ++ .box g t cs :: T) x d) : StIn (R ++ T) x d := by
  refine ⟨h.1, h.2.1, h.2.2.imp (fun hm => ?_) id⟩
  rcases List.mem_append.1 hm with hm | hm
  · exact List.mem_append.2 (Or.inl hm)
  · rcases List.mem_cons.1 hm with hm | hm
    · cases hm
    · exact List.mem_append.2 (Or.inr hm)

theorem run_front {w0 W : World} {A B C D E : Res} {R1 R T : List Res} (h : Mem w0 W (A :: B :: C :: (R1 ++ D :: (R ++ E :: T)))) : Mem w0 W (E :: A :: B :: C :: ((R1 ++ D :: R) ++ T)) := by
  have e : A :: B :: C :: (R1 ++ D :: (R ++ E :: T)) = (A :: B :: C :: (R1 ++ D :: R)) ++ E :: T := by simp
  rw [e] at h
  exact h.perm List.perm_middle
set_option maxHeartbeats 8000000 in
theorem run_any (w0 W : World) (gc gm : Nat) (T : List Res) (l : List SymD) (p : Option Addr) (c : Nat) (ns : List NodeD) (tests : Bool)
    (HM0 : Mem w0 W (.box gc 60 [.map (some gm), .slice none 0 0] :: .map gm (mapEs (symE l)) (symE l).length :: T))
    (hN : Sl w0 p (ns.flatMap NodeD.cs)) (hl : ∀ s, s ∈ l → s.t.form) (hc : checkC ns tests = 0) :
    Calls Tryd.prog 24 #[.pointer (some ⟨gc, 0, none⟩), .slice p ns.length c] W (RunPost w0 T (runT l ns [])) := by
  obtain ⟨hn300, hrun⟩ := checkC_ok hc
  obtain ⟨r, hr⟩ : ∃ r, runT l ns [] = r := ⟨_, rfl⟩
  rw [hr]
  have HR := Lib.hid (show runT l (ns.drop 0) [] = r from hr)
  have HC := Lib.hid (show ∃ cst deep, cst.length = ([] : List ThD).length ∧ runC ns tests (ns.drop 0) 0 cst deep = 0 from ⟨[], 0, rfl, hrun⟩)
  have HN := Lib.hid hN
  have HF := Lib.hid hl
  have HM := Lib.hid ((HM0.row0 63 3).perm (List.perm_middle (l₁ := [_]) (l₂ := .map gm (mapEs (symE l)) (symE l).length :: T)).symm)
  clear hr hN hl hrun hc HM0
  go_enter Tryd.func24, Tryd.ntmps24
  go_wp2_with (first | ((with_reducible refine inilCheck ?_); (refine lnil rfl ?_)) | ((with_reducible refine iload ?_); first | refine ldb1 HM.out 0 rfl rfl rfl ?_ | refine ldbW HM.out 0 rfl rfl rfl ?_ | (refine ldbS HM.out 0 rfl rfl rfl ?_; simp only [List.take, List.drop])) | ((with_reducible refine istore ?_); (first | (refine stbW rfl HM.out 0 rfl rfl rfl rfl rfl rfl ?_; intro W1 HM1; replace HM := Lib.hid HM1; clear HM1; simp only [List.set] at HM) | (refine stbS rfl HM.out 0 rfl rfl rfl rfl rfl rfl ?_; intro W1 HM1; replace HM := Lib.hid HM1; clear HM1; simp only [lss, Nat.reduceAdd] at HM))) | ((with_reducible refine ialloc (d := some 4) ?_); refine alb rfl HM.out ?_; intro g4 W1 HM1; replace HM := Lib.hid HM1; clear HM1) | ((with_reducible refine ialloc ?_); refine alb rfl HM.out ?_; intro g1 W1 HM1; replace HM := Lib.hid HM1; clear HM1))
  go_loopw [11] (fun iv wr => ∃ (i : Nat) (sq : Option Addr) (cap : Nat) (st : List ThT) (ds : List ThD) (R : List Res), iv = .int .i64 i ∧ i ≤ ns.length ∧ Hid (runT l (ns.drop i) ds = r) ∧ Hid (∃ cst deep, cst.length = ds.length ∧ runC ns tests (ns.drop i) i cst deep = 0) ∧ Hid (sizeT ds ≤ i) ∧ Hid (∀ d, d ∈ ds → ThForm d) ∧ Hid (StOk (R ++ .box g4 63 [.int .i64 0, .int .i64 0, .slice none 0 0] :: T) st ds) ∧ Hid (Mem w0 wr (.box gc 60 [.map (some gm), .slice sq st.length cap] :: .row sq cap 63 3 st.length (st.flatMap ThT.cs) :: .map gm (mapEs (symE l)) (symE l).length :: (R ++ .box g4 63 [.int .i64 0, .int .i64 0, .slice none 0 0] :: T)))) (fun iv _ => ns.length - (intOf iv).toNat)
  case atStart => exact ⟨0, none, 0, [], [], [], rfl, by omega, HR, HC, Lib.hid (Nat.zero_le _), Lib.hid (fun d hd => by cases hd), Lib.hid trivial, Lib.hid (HM.out.perm (List.perm_middle (l₁ := [_, _, _])).symm)⟩
  case round =>
    clear HM
    obtain ⟨i, sq, cap, st, ds, R, rfl, hi, HI, HC, HZ, HD, HO, HM⟩ := hrel
    by_cases hlt : i < ns.length
    · obtain ⟨b, rfl, hb⟩ := HN.out.some_at NodeD.cs_len (by decide) hlt
      obtain ⟨n, hn⟩ : ∃ n, ns[i]? = some n := ⟨_, List.getElem?_eq_getElem hlt⟩
      have E1 := Lib.hid (hb.elem NodeD.cs 8 NodeD.cs_len hn)
      have HI2 := Lib.hid (show (if (stepT l ds n).2 = 0 then runT l (ns.drop (i + 1)) (nextT l ds n) else (⟨⟨0, 0⟩, []⟩, (stepT l ds n).2)) = r by rw [← HI.out, drop_at hn]; rfl)
      obtain ⟨cst, deep, hcl, hcr⟩ := HC.out
      rw [drop_at hn] at hcr
      obtain ⟨hk, hkl, cst', deep', hcl', hcr'⟩ := runC_next hcr
      have HC2 := Lib.hid (show ∃ cst deep, cst.length = (nextT l ds n).length ∧ runC ns tests (ns.drop (i + 1)) (i + 1) cst deep = 0 from ⟨cst', deep', by rw [hcl', nextT_len, hcl], hcr'⟩)
      have hsl := HO.out.len
      have HZ2 := Lib.hid (show sizeT (nextT l ds n) ≤ i + 1 from Nat.le_trans (nextT_size l ds n) (Nat.succ_le_succ HZ.out))
      have HD2 := Lib.hid (nextT_form HF.out ds n HD.out)
      obtain ⟨se, hse⟩ : ∃ se, (stepT l ds n).2 = se := ⟨_, rfl⟩
      rw [hse] at HI2
      have HSt := Lib.hid (fun V T' (h : Mem w0 V (.box gc 60 [.map (some gm), .slice sq st.length cap] :: .row sq cap 63 3 st.length (st.flatMap ThT.cs) :: .map gm (mapEs (symE l)) (symE l).length :: T')) (h2 : StOk T' st ds) => hse ▸ step_any w0 V gc gm cap sq T' l st ds n h h2 HD.out hk (by rw [hcl] at hkl; rw [hsl]; exact hkl) (Nat.le_trans HZ.out (by omega)))
      have d1 : decide ((i : Int) < ns.length) = true := decide_eq_true (by omega)
      have hlt3 := Lib.hid (show i + 1 ≤ ns.length from hlt)
      clear hb hn HI HC hcl hcr hk hkl hcl' hcr' hse HZ HD
      by_cases h0 : se = 0
      · subst h0
        have HB := Lib.hid (show runT l (ns.drop (i + 1)) (nextT l ds n) = r by rw [← HI2.out]; rfl)
        clear HI2
        go_wp2_with (first | ((with_reducible refine iat 13 ?_); (refine ixa rfl rfl rfl hlt ?_)) | ((with_reducible refine iat 14 ?_); (refine ldxW (HM.out.olds E1.out) rfl rfl ?_)) | ((with_reducible refine inilCheck ?_); (refine lnil rfl ?_)) | ((with_reducible refine iload ?_); first | refine ldb1 HM.out 0 rfl rfl rfl ?_ | refine ldbW HM.out 0 rfl rfl rfl ?_ | (refine ldbS HM.out 0 rfl rfl rfl ?_; simp only [List.take, List.drop])) | ((with_reducible refine istore ?_); (first | (refine stbW rfl HM.out 0 rfl rfl rfl rfl rfl rfl ?_; intro W1 HM1; replace HM := Lib.hid HM1; clear HM1; simp only [List.set] at HM) | (refine stbS rfl HM.out 0 rfl rfl rfl rfl rfl rfl ?_; intro W1 HM1; replace HM := Lib.hid HM1; clear HM1; simp only [lss, Nat.reduceAdd] at HM))) | ((with_reducible refine ialloc (d := some 7) ?_); refine alb rfl HM.out ?_; intro g7 W1 HM1; replace HM := Lib.hid HM1; clear HM1) | ((with_reducible refine ialloc ?_); refine alb rfl HM.out ?_; intro g1 W1 HM1; replace HM := Lib.hid HM1; clear HM1) | (go_at_call 44; (with_reducible refine (HSt.out _ (.box g7 44 n.cs :: (R ++ .box g4 63 [.int .i64 0, .int .i64 0, .slice none 0 0] :: T)) (HM.out.perm (List.perm_middle (l₁ := [_, _, _])).symm) (HO.out.mono (fun r hr => List.mem_cons_of_mem _ hr))).mono ?_); rintro e W2 ⟨rfl, sq1, cap1, st1, R1, hM2, hO2⟩; have HM1 := Lib.hid (hM2); have HO1 := Lib.hid hO2; clear hM2 hO2 HM HO; (try clear W1); rename World => W1; have HM := HM1; have HO := HO1; clear HM1 HO1))
        go_roundw
        case rel =>
          have e : R1 ++ .box g7 44 n.cs :: (R ++ .box g4 63 [.int .i64 0, .int .i64 0, .slice none 0 0] :: T) = (R1 ++ .box g7 44 n.cs :: R) ++ .box g4 63 [.int .i64 0, .int .i64 0, .slice none 0 0] :: T := by simp
          exact ⟨i + 1, sq1, cap1, st1, nextT l ds n, R1 ++ .box g7 44 n.cs :: R, by go_num, hlt3.out, HB, HC2, HZ2, HD2, by rw [← e]; exact HO, by rw [← e]; exact HM⟩
        case measure => have := hlt3.out; simp [intOf]; omega
      · have HB := Lib.hid (show se = r.2 by rw [← HI2.out, if_neg h0])
        have b0 : (se != 0) = true := by simpa using h0
        have H0 := Lib.hid h0
        clear HI2 h0
        go_wp2_with (first | ((with_reducible refine iat 13 ?_); (refine ixa rfl rfl rfl hlt ?_)) | ((with_reducible refine iat 14 ?_); (refine ldxW (HM.out.olds E1.out) rfl rfl ?_)) | ((with_reducible refine inilCheck ?_); (refine lnil rfl ?_)) | ((with_reducible refine iload ?_); first | refine ldb1 HM.out 0 rfl rfl rfl ?_ | refine ldbW HM.out 0 rfl rfl rfl ?_ | (refine ldbS HM.out 0 rfl rfl rfl ?_; simp only [List.take, List.drop])) | ((with_reducible refine istore ?_); (first | (refine stbW rfl HM.out 0 rfl rfl rfl rfl rfl rfl ?_; intro W1 HM1; replace HM := Lib.hid HM1; clear HM1; simp only [List.set] at HM) | (refine stbS rfl HM.out 0 rfl rfl rfl rfl rfl rfl ?_; intro W1 HM1; replace HM := Lib.hid HM1; clear HM1; simp only [lss, Nat.reduceAdd] at HM))) | ((with_reducible refine ialloc (d := some 7) ?_); refine alb rfl HM.out ?_; intro g7 W1 HM1; replace HM := Lib.hid HM1; clear HM1) | ((with_reducible refine ialloc ?_); refine alb rfl HM.out ?_; intro g1 W1 HM1; replace HM := Lib.hid HM1; clear HM1) | (go_at_call 44; (with_reducible refine (HSt.out _ (.box g7 44 n.cs :: (R ++ .box g4 63 [.int .i64 0, .int .i64 0, .slice none 0 0] :: T)) (HM.out.perm (List.perm_middle (l₁ := [_, _, _])).symm) (HO.out.mono (fun r hr => List.mem_cons_of_mem _ hr))).mono ?_); rintro e W2 ⟨rfl, sq1, cap1, st1, R1, hM2, hO2⟩; have HM1 := Lib.hid (run_front hM2); have HO1 := Lib.hid hO2; clear hM2 hO2 HM HO; (try clear W1); rename World => W1; have HM := HM1; have HO := HO1; clear HM1 HO1))
        exact bodyPost_ret (res_box_tmp rfl HM.out 0 rfl rfl rfl rfl) rfl (run_err HB.out H0.out rfl (HM.out.sub (.cons _ (.cons _ (.cons _ (.cons _ (List.sublist_append_right _ _)))))))
    · obtain rfl : i = ns.length := by omega
      have d1 : decide ((ns.length : Int) < ns.length) = false := by simp
      obtain ⟨cst, deep, hcl, hcr⟩ := HC.out
      rw [List.drop_of_length_le (Nat.le_refl _)] at hcr
      obtain ⟨d, rfl⟩ := one_of (hcl ▸ runC_end hcr)
      obtain ⟨x, rfl⟩ := one_of (HO.out.len)
      have HB := Lib.hid (show r = (d, 0) by rw [← HI.out, List.drop_of_length_le (Nat.le_refl _)]; rfl)
      have HS := Lib.hid (StIn.lose HO.out.1)
      have HM1 := Lib.hid (HM.out.perm (List.perm_middle (l₁ := _ :: _ :: _ :: R)))
      clear HM HC hcl hcr HI HO HZ HD
      have HM := HM1
      clear HM1
      obtain ⟨g, rfl⟩ := row_some (HM.out.get (k := 2) rfl) (by simp)
      obtain ⟨⟨xk, xo⟩, xq, xn, xc⟩ := x
      go_wp2_with (first | ((with_reducible refine iat 27 ?_); (refine ixa rfl rfl (i := 0) rfl (by decide) ?_)) | ((with_reducible refine iat 28 ?_); (refine ldxW (vs := [.int .i64 xk, .int .i64 xo, .slice xq xn xc]) (row_el ThT.cs 3 ThT.cs_len (l := [⟨⟨xk, xo⟩, xq, xn, xc⟩]) (i := 0) (HM.out.get (k := 2) rfl) rfl) rfl rfl ?_)) | ((with_reducible refine inilCheck ?_); (refine lnil rfl ?_)) | ((with_reducible refine iload ?_); first | refine ldb1 HM.out 0 rfl rfl rfl ?_ | refine ldb1 HM.out 1 rfl rfl rfl ?_ | refine ldbW HM.out 0 rfl rfl rfl ?_ | refine ldbW HM.out 1 rfl rfl rfl ?_ | ((first | refine ldbS HM.out 0 rfl rfl rfl ?_ | refine ldbS HM.out 1 rfl rfl rfl ?_); simp only [List.take, List.drop])) | ((with_reducible refine istore ?_); (first | ((first | refine stbW rfl HM.out 0 rfl rfl rfl rfl rfl rfl ?_ | refine stbW rfl HM.out 1 rfl rfl rfl rfl rfl rfl ?_); intro W1 HM1; replace HM := Lib.hid HM1; clear HM1; simp only [List.set] at HM) | ((first | refine stbS rfl HM.out 0 rfl rfl rfl rfl rfl rfl ?_ | refine stbS rfl HM.out 1 rfl rfl rfl rfl rfl rfl ?_); intro W1 HM1; replace HM := Lib.hid HM1; clear HM1; simp only [lss, Nat.reduceAdd] at HM))) | ((with_reducible refine ialloc (d := some 7) ?_); refine alb rfl HM.out ?_; intro g7 W1 HM1; replace HM := Lib.hid HM1; clear HM1) | ((with_reducible refine ialloc ?_); refine alb rfl HM.out ?_; intro g1 W1 HM1; replace HM := Lib.hid HM1; clear HM1))
      exact bodyPost_ret (res_box_tmp rfl HM.out 0 rfl rfl rfl rfl) rfl (run_fine (x := ⟨⟨xk, xo⟩, xq, xn, xc⟩) (R := _ :: _ :: _ :: R) HB.out rfl (HM.out.sub (.cons _ (.refl _))) (HS.out.mono (fun r hr => List.mem_cons_of_mem _ (List.mem_cons_of_mem _ (List.mem_cons_of_mem _ hr)))))
end Go.Proofs.YtpjcjgikfplgnaaDoor
