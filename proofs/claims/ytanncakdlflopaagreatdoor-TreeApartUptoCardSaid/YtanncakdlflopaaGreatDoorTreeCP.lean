/- A copy of elements with room to spare; is the room empty? (short) Is the room to spare empty? (short) The walk over TreeApart. (short) -/
import Derived.Test.YtanncakdlflopaaGreatDoorTreeHI
import Derived.Test.YtanncakdlflopaaGreatDoorTreeWA
import Derived.Test.YtanncakdlflopaaGreatDoorTreeRW
namespace Go.Proofs.YtanncakdlflopaaGreatDoor
open Go.RowKit
set_option linter.unusedVariables false
set_option linter.unusedSimpArgs false
set_option maxRecDepth 100000

section
variable {P : Program} {ops : Array Oper} {Q : Exit → Act → World → Prop} {a : Act} {W W' w0 : World} {rest : List Oper} {L : List Res}
variable {dst : Option Tmp} {ty0 : TypeId} {pos : String} {after : Array Edge} {gd : Option (Nat × Bool)}
/-- A slice that is made with room to spare. -/
theorem mkroom {t e : TypeId} {k bytes : Nat} {z : Value} [hR : RowT P t e k bytes z] {x y : Operand} {d d' : Int} {m n : Nat} {cs : List Value} (hw : Region.wanted ⟨dst, .makeSlice t x y, ty0, pos, after, gd⟩ (yielded ops a.tmps) = true) (HM : Mem w0 W L)
  (hx : a.eval x = .int .i64 d) (hy : a.eval y = .int .i64 d') (hd : d = (m : Int)) (hd' : d' = (n : Int)) (hmn : m ≤ n) (hz : z.cells = cs.toArray) (hn : bytes * n ≤ 140737488355328) (hm : n ≤ 9223372036854775807)
  (h : ∀ g W', Mem w0 W' (.box g e (List.replicate n cs).flatten :: L) → wpList P ops Q (⟨dst, .move (.const (.slice (some ⟨g, 0, none⟩) m n)), ty0, pos, after, gd⟩ :: rest) a W') : wpList P ops Q (⟨dst, .makeSlice t x y, ty0, pos, after, gd⟩ :: rest) a W := by
 subst hd hd'
 obtain ⟨i, hi, hz1, hsz, hby⟩ := rowT_parts hR
 have hb' : (i.bytes : Int) * (n : Int) ≤ 281474976710656 := by
  have h1 : ((i.bytes * n : Nat) : Int) ≤ 281474976710656 := by rw [hby]; omega
  rwa [Int.natCast_mul] at h1
 have hr := run_make (P := P) W t e i z hR.under hi hz1 .i64 .i64 m n (by omega) (by omega) hb' (by omega)
 have hzk := hR.zero
 have hfl := made_flat z.cells (by rw [hzk]; exact hR.pos) n
 have harr : madeCells z.cells (n * i.size) = ((List.replicate n cs).flatten).toArray := by
  apply Array.ext'
  rw [hsz, ← hzk, hfl, hz]
 rw [Int.toNat_natCast, Int.toNat_natCast, harr] at hr
 have hM := new_box (cs := (List.replicate n cs).flatten) HM e
 refine as_moveW (o := ⟨dst, .makeSlice t x y, ty0, pos, after, gd⟩) hw ?_ (h _ _ hM)
 show (do pure (.value (← Instr.makeSlice t (a.eval x) (a.eval y))) : Sem Next).run P W = _
 rw [hx, hy]
 simp only [Sem.run_bind, hr, Result.andThen_ok]
 rfl
end

/-- A copy: the element, where its attributes lie. -/
structure CpM where
 d : ElD
 g : Nat
def CpM.m (c : CpM) : ElM := ⟨c.d, some ⟨c.g, 0, none⟩, c.d.l.length + 2⟩
def zA : AtD := (⟨#[]⟩, ⟨#[]⟩)
def zE : ElM := ⟨⟨⟨#[]⟩, 0, [], ⟨#[]⟩⟩, none, 0⟩
def CpM.res (c : CpM) : Res := .box c.g 44 ((c.d.l ++ List.replicate 2 zA).flatMap AtD.cs)
/-- What a copy's row holds when some are copied. -/
def cpE (n : Nat) (cps : List CpM) : List ElM := cps.map CpM.m ++ List.replicate (n + 3 - cps.length) zE
theorem rep_flat {α : Type} (f : α → List Value) (n : Nat) (z : α) : (List.replicate n (f z)).flatten = (List.replicate n z).flatMap f := by rw [List.flatMap_def, List.map_replicate]
theorem flat_put {α : Type} (f : α → List Value) (k : Nat) (hf : ∀ x, (f x).length = k) : ∀ {l : List α} {i : Nat} {y : α}, i < l.length → (l.flatMap f).take (i * k) ++ f y ++ (l.flatMap f).drop (i * k + k) = (l.set i y).flatMap f
 | [], i, y, h => by simp at h
 | z :: l, 0, y, h => by
  rw [List.flatMap_cons, List.set_cons_zero, List.flatMap_cons, Nat.zero_mul, List.take_zero, List.nil_append, Nat.zero_add, List.drop_append, hf, Nat.sub_self, List.drop_zero, List.drop_of_length_le (by rw [hf]; exact Nat.le_refl _), List.nil_append]
 | z :: l, i + 1, y, h => by
  have hk : (i + 1) * k = k + i * k := by rw [Nat.add_mul, Nat.one_mul, Nat.add_comm]
  rw [List.flatMap_cons, List.set_cons_succ, List.flatMap_cons, hk, List.take_append, List.drop_append, hf, List.take_of_length_le (by rw [hf]; omega), List.drop_of_length_le (by rw [hf]; omega), List.nil_append, show k + i * k - k = i * k by omega, show k + i * k + k - k = i * k + k by omega, List.append_assoc, List.append_assoc, ← List.append_assoc (List.take _ _), flat_put f k hf (by simpa using h)]
theorem cpE_len {n : Nat} {cps : List CpM} (h : cps.length ≤ n + 3) : (cpE n cps).length = n + 3 := by unfold cpE; rw [List.length_append, List.length_map, List.length_replicate]; omega
theorem cpE_next {n : Nat} {cps : List CpM} {c : CpM} (h : cps.length < n + 3) : (cpE n cps).set cps.length c.m = cpE n (cps ++ [c]) := by
 unfold cpE
 rw [List.set_append_right _ _ (by rw [List.length_map]; exact Nat.le_refl _), List.length_map, Nat.sub_self, List.map_append, List.append_assoc, show n + 3 - cps.length = n + 3 - (cps ++ [c]).length + 1 by rw [List.length_append]; simp; omega, List.replicate_succ]
 rfl
theorem cpE_at {n i : Nat} {cps : List CpM} {c : CpM} (h : cps[i]? = some c) : (cpE n cps)[i]? = some c.m := by
 unfold cpE
 have := (List.getElem?_eq_some_iff.1 h).1
 rw [List.getElem?_append_left (by rw [List.length_map]; exact this), List.getElem?_map, h]
 rfl
theorem cpE_zero {n i : Nat} {cps : List CpM} (h1 : cps.length ≤ i) (h2 : i < n + 3) : (cpE n cps)[i]? = some zE := by
 unfold cpE
 rw [List.getElem?_append_right (by rw [List.length_map]; exact h1), List.length_map, List.getElem?_replicate, if_pos (by omega)]

theorem add0 (g j : Nat) : (⟨g, 0, none⟩ : Addr).add j = ⟨g, j, none⟩ := by rw [add_none, Nat.zero_add]
theorem at_ones (l : List AtD) : ∀ u ∈ l.flatMap AtD.cs, u.oneCell' = true := by
 intro u hu
 obtain ⟨x, -, hx⟩ := List.mem_flatMap.1 hu
 simp only [AtD.cs, List.mem_cons, List.not_mem_nil, or_false] at hx
 rcases hx with rfl | rfl <;> rfl
theorem flat_fill (l : List AtD) : l.flatMap AtD.cs ++ ((List.replicate (l.length + 2) zA.cs).flatten).drop (l.flatMap AtD.cs).length = (l ++ List.replicate 2 zA).flatMap AtD.cs := by
 rw [rep_flat AtD.cs, ← List.replicate_append_replicate, List.flatMap_append, List.drop_append, flat_len AtD.cs 2 AtD.cs_len, flat_len AtD.cs 2 AtD.cs_len, List.length_replicate, Nat.sub_self, List.drop_zero, List.drop_of_length_le (by rw [flat_len AtD.cs 2 AtD.cs_len, List.length_replicate]; exact Nat.le_refl _), List.nil_append, List.flatMap_append]
/-- What Copy leaves. -/
def CPost (ms : List ElM) (w0 : World) (e : Ending) (w' : World) : Prop :=
 ∃ (g : Nat) (cps : List CpM), cps.map CpM.d = elD ms ∧ e = .returned (.slice (some ⟨g, 0, none⟩) ms.length (ms.length + 3)) ∧ Mem w0 w' (.row (some ⟨g, 0, none⟩) (ms.length + 3) 42 4 (ms.length + 3) (elC (cpE ms.length cps)) :: cps.map CpM.res)

set_option maxHeartbeats 16000000 in
theorem rcopy_any (p : Option Addr) (cp : Nat) (ms : List ElM) (w0 : World) (h : ElIn w0 p ms) (hz : ∀ m ∈ ms, m.d.l.length ≤ 1048576) (hl : ms.length ≤ 1048576) :
  Calls Tryz.prog 18 #[.slice p ms.length cp] w0 (CPost ms w0) := by
 have HM := Lib.hid (Mem.start w0)
 have HI := Lib.hid h
 have HZ := Lib.hid hz
 clear h hz
 go_enter Tryz.func18, Tryz.ntmps18
 go_wp2_with (first | (refine mkroom (m := ms.length) (n := ms.length + 3) (cs := zE.cs) rfl HM.out rfl rfl rfl (by omega) (by omega) rfl (by omega) (by omega) ?_; intro gd W1 HM1; replace HM := Lib.hid HM1; clear HM1))
 have HM1 := HM.out.boxrow (k := 0) (j := 4) (n := ms.length + 3) (cs := (List.replicate (ms.length + 3) zE.cs).flatten) rfl (by rw [rep_flat ElM.cs, flat_len ElM.cs 4 ElM.cs_len, List.length_replicate]) (by unfold maxLen; omega)
 simp only [List.set] at HM1
 rw [rep_flat ElM.cs] at HM1
 have HM0 := Lib.hid (show Mem w0 _ (.row (some ⟨gd, 0, none⟩) (ms.length + 3) 42 4 (ms.length + 3) (elC (cpE ms.length [])) :: ([] : List CpM).map CpM.res) from HM1)
 clear HM HM1
 go_loopw [4] (fun iv wr => ∃ (i : Nat) (cps : List CpM), iv = .int .i64 i ∧ i ≤ ms.length ∧ Hid (cps.length = i) ∧ Hid (cps.map CpM.d = (elD ms).take i) ∧ Hid (Mem w0 wr (.row (some ⟨gd, 0, none⟩) (ms.length + 3) 42 4 (ms.length + 3) (elC (cpE ms.length cps)) :: cps.map CpM.res))) (fun iv _ => ms.length - (intOf iv).toNat)
 case atStart => exact ⟨0, [], rfl, by omega, Lib.hid rfl, Lib.hid rfl, HM0⟩
 case round =>
  clear HM0
  obtain ⟨i, cps, rfl, hi, HCl, HCd, HM⟩ := hrel
  by_cases hlt : i < ms.length
  ·obtain ⟨b, rfl, hb⟩ := HI.out.row.some_at ElM.cs_len (by decide) hlt
   obtain ⟨x, hx⟩ : ∃ x, ms[i]? = some x := ⟨_, List.getElem?_eq_getElem hlt⟩
   have hxz := HZ.out x (List.mem_of_getElem? hx)
   obtain ⟨hxa, hxc⟩ := HI.out.at_ x (List.mem_of_getElem? hx)
   have HEd := Lib.hid (elD_get hx)
   have e1 := hb.elem ElM.cs 4 ElM.cs_len hx
   clear hx
   obtain ⟨⟨n, up, l, t⟩, pa, ca⟩ := x
   dsimp only at hxa hxz hxc
   have E1 := Lib.hid (show Cells w0 (b.add (i * 4)) [.string n, .int .i64 up, .slice pa l.length ca, .string t] from e1)
   have HXa := Lib.hid hxa
   have d1 : decide ((i : Int) < ms.length) = true := decide_eq_true (by omega)
   have hlt3 := Lib.hid (show i + 1 ≤ ms.length from hlt)
   obtain ⟨T, hT⟩ : ∃ T, cps.map CpM.res = T := ⟨_, rfl⟩
   obtain ⟨cs, hcs⟩ : ∃ cs, elC (cpE ms.length cps) = cs := ⟨_, rfl⟩
   rw [hT, hcs] at HM
   have hcl : i * 4 + 4 ≤ cs.length := by rw [← hcs, elC_len, cpE_len (by rw [HCl.out]; omega)]; omega
   have hcl2 : i * 4 + 2 < (cs.take (i * 4) ++ ([.string n, .int .i64 up, .slice pa l.length ca, .string t] : List Value) ++ cs.drop (i * 4 + 4)).length := by simp only [List.length_append, List.length_take, List.length_drop, List.length_cons, List.length_nil]; omega
   have HPut := Lib.hid (show ∀ g : Nat, (cs.take (i * 4) ++ ([.string n, .int .i64 up, .slice pa l.length ca, .string t] : List Value) ++ cs.drop (i * 4 + 4)).set (i * 4 + 2) (.slice (some ⟨g, 0, none⟩) l.length (l.length + 2)) = elC (cpE ms.length (cps ++ [⟨⟨n, up, l, t⟩, g⟩])) from fun g => by
    have hil : i < (cpE ms.length cps).length := by rw [cpE_len (by rw [HCl.out]; omega)]; omega
    have h1 := flat_put ElM.cs 4 ElM.cs_len (y := ⟨⟨n, up, l, t⟩, pa, ca⟩) hil
    have h2 := flat_set ElM.cs 4 ElM.cs_len (l := (cpE ms.length cps).set i ⟨⟨n, up, l, t⟩, pa, ca⟩) (i := i) (j := 2) (x := ⟨⟨n, up, l, t⟩, pa, ca⟩) (y := (CpM.mk ⟨n, up, l, t⟩ g).m) (v := .slice (some ⟨g, 0, none⟩) l.length (l.length + 2)) (List.getElem?_set_self hil) rfl (by omega)
    rw [← hcs]
    refine Eq.trans (congrArg (fun z => List.set z (i * 4 + 2) _) h1) ?_
    rw [h2, List.set_set, ← HCl.out, cpE_next (by rw [HCl.out]; omega)]
    rfl)
   have HLen := Lib.hid (show ∀ (W2 : World) (L2 : List Res), Mem w0 W2 (.row (some ⟨gd, 0, none⟩) (ms.length + 3) 42 4 (ms.length + 3) (cs.take (i * 4) ++ ([.string n, .int .i64 up, .slice pa l.length ca, .string t] : List Value) ++ cs.drop (i * 4 + ([.string n, .int .i64 up, .slice pa l.length ca, .string t] : List Value).length)) :: L2) →
    Mem w0 W2 (.row (some ⟨gd, 0, none⟩) (ms.length + 3) 42 4 (ms.length + 3) (cs.take (i * 4) ++ ([.string n, .int .i64 up, .slice pa l.length ca, .string t] : List Value) ++ cs.drop (i * 4 + 4)) :: L2) from fun _ _ h => h)
   clear hb e1 hxa hcs
   as_aux_lemma =>
   go_wp2_with (first | ((with_reducible refine iat 21 ?_); (refine ixa (i := i) rfl rfl rfl hlt ?_)) | ((with_reducible refine iat 22 ?_); (refine ldxW (HM.out.olds E1.out) rfl rfl ?_)) | ((with_reducible refine iat 23 ?_); (refine ixa (i := i) rfl rfl rfl hlt ?_)) | ((with_reducible refine istore ?_); (refine strA (vs := [.string n, .int .i64 up, .slice pa l.length ca, .string t]) (i := i * 4) rfl HM.out 0 rfl rfl rfl rfl ?_ hcl ?_; (intro u hu; revert u hu; simp [Value.oneCell']); intro W2 HM1; clear HM; (try clear W1); rename World => W1; simp only [List.set] at HM1; have HM := Lib.hid (HLen.out _ _ HM1); clear HM1)))
   refine wp_region_steps2 [(true, 0), (true, 1), (true, 2), (true, 3), (true, 4), (true, 5), (true, 6), (true, 7), (true, 8), (true, 10), (true, 11), (true, 12), (true, 13), (true, 14), (false, 9), (false, 15), (true, 16), (true, 17), (false, 18)] (by kernel_rfl) (by kernel_rfl) rfl (by kernel_rfl) (fun _ _ _ _ _ h => h) HM.out _ (.cons _ (List.nil_sublist _)) ?_
   intro hNE W1 HM1; replace HM := Lib.hid HM1; clear HM1
   have HS0 := Lib.hid (HM.out.sub (.cons _ (List.nil_sublist _)))
   simp only [wpSteps, List.getElem?_cons_succ, List.getElem?_cons_zero]
   (repeat (first | ((with_reducible refine wpQuiet_nil ?_); (try dsimp only)) | refine mQ ?_ | ((with_reducible refine qat 28 ?_); (refine qixa (i := i) rfl rfl rfl hlt ?_)) | ((with_reducible refine qat 30 ?_); (refine qdx1 (i := 2) E1.out rfl rfl ?_)) | ((with_reducible refine qat 36 ?_); (refine qixa (i := i) rfl rfl rfl hlt ?_)) | ((with_reducible refine qat 38 ?_); (refine qdx1 (i := 2) E1.out rfl rfl ?_)) | go_big_quiet_step (fail) | quiet_step (fail)))
   go_wp2_with (first | (refine mkroom (m := 0) (n := l.length + 2) (cs := zA.cs) rfl HM.out rfl rfl rfl (by omega) (by omega) rfl (by omega) (by omega) ?_; intro g33 W1 HM1; replace HM := Lib.hid HM1; clear HM1) | (refine appin (news := l.flatMap AtD.cs) rfl HM.out 0 rfl rfl rfl (HM.out.sl HXa.out) (by rw [flat_len AtD.cs 2 AtD.cs_len]) (at_ones l) (by omega) (by rw [rep_flat AtD.cs, flat_len AtD.cs 2 AtD.cs_len, flat_len AtD.cs 2 AtD.cs_len, List.length_replicate]; omega) ?_; intro W1 HM1; replace HM := Lib.hid HM1; clear HM1; simp only [List.set] at HM) | ((with_reducible refine istore ?_); (refine strw (i := i * 4 + 2) (v := .slice (some ⟨g33, 0, none⟩) l.length (l.length + 2)) rfl HM.out 1 rfl (congrArg (fun z => Value.pointer (some z)) (add0 gd (i * 4 + 2)).symm) rfl rfl hcl2 ?_); intro W1 HM1; replace HM := Lib.hid HM1; clear HM1; simp only [List.set] at HM))
   refine ⟨⟨⟨_, HM.out.sub (by repeat (first | exact List.nil_sublist _ | with_reducible refine List.Sublist.cons_cons _ ?_ | refine List.Sublist.cons _ ?_))⟩, rfl⟩, ?_⟩
   (try dsimp only)
   go_wp2_with (first | (refine mkroom (m := 0) (n := l.length + 2) (cs := zA.cs) rfl HM.out rfl rfl rfl (by omega) (by omega) rfl (by omega) (by omega) ?_; intro g33 W1 HM1; replace HM := Lib.hid HM1; clear HM1) | (refine appin (news := l.flatMap AtD.cs) rfl HM.out 0 rfl rfl rfl (HM.out.sl HXa.out) (by rw [flat_len AtD.cs 2 AtD.cs_len]) (at_ones l) (by omega) (by rw [rep_flat AtD.cs, flat_len AtD.cs 2 AtD.cs_len, flat_len AtD.cs 2 AtD.cs_len, List.length_replicate]; omega) ?_; intro W1 HM1; replace HM := Lib.hid HM1; clear HM1; simp only [List.set] at HM) | ((with_reducible refine istore ?_); (refine strw (i := i * 4 + 2) (v := .slice (some ⟨g33, 0, none⟩) l.length (l.length + 2)) rfl HM.out 1 rfl (congrArg (fun z => Value.pointer (some z)) (add0 gd (i * 4 + 2)).symm) rfl rfl hcl2 ?_); intro W1 HM1; replace HM := Lib.hid HM1; clear HM1; simp only [List.set] at HM))
   refine ⟨⟨⟨_, HM.out.sub (by repeat (first | exact List.nil_sublist _ | with_reducible refine List.Sublist.cons_cons _ ?_ | refine List.Sublist.cons _ ?_))⟩, rfl⟩, ?_⟩
   (try dsimp only)
   (repeat (first | ((with_reducible refine wpQuiet_nil ?_); (try dsimp only)) | refine mQ ?_ | ((with_reducible refine qat 40 ?_); (refine qixa (i := i) rfl rfl rfl hlt ?_)) | go_big_quiet_step (fail) | quiet_step (fail)))
   go_wp2_with (first | (refine mkroom (m := 0) (n := l.length + 2) (cs := zA.cs) rfl HM.out rfl rfl rfl (by omega) (by omega) rfl (by omega) (by omega) ?_; intro g33 W1 HM1; replace HM := Lib.hid HM1; clear HM1) | (refine appin (news := l.flatMap AtD.cs) rfl HM.out 0 rfl rfl rfl (HM.out.sl HXa.out) (by rw [flat_len AtD.cs 2 AtD.cs_len]) (at_ones l) (by omega) (by rw [rep_flat AtD.cs, flat_len AtD.cs 2 AtD.cs_len, flat_len AtD.cs 2 AtD.cs_len, List.length_replicate]; omega) ?_; intro W1 HM1; replace HM := Lib.hid HM1; clear HM1; simp only [List.set] at HM) | ((with_reducible refine istore ?_); (refine strw (i := i * 4 + 2) (v := .slice (some ⟨g33, 0, none⟩) l.length (l.length + 2)) rfl HM.out 1 rfl (congrArg (fun z => Value.pointer (some z)) (add0 gd (i * 4 + 2)).symm) rfl rfl hcl2 ?_); intro W1 HM1; replace HM := Lib.hid HM1; clear HM1; simp only [List.set] at HM))
   refine ⟨⟨⟨_, HM.out.sub (by repeat (first | exact List.nil_sublist _ | with_reducible refine List.Sublist.cons_cons _ ?_ | refine List.Sublist.cons _ ?_))⟩, rfl⟩, ?_⟩
   (try dsimp only)
   clear HS0 hNE
   go_wp2_with fail
   go_roundw
   case rel =>
    refine ⟨i + 1, cps ++ [⟨⟨n, up, l, t⟩, g33⟩], by go_num, hlt3.out, Lib.hid (by rw [List.length_append, HCl.out]; rfl), Lib.hid (by rw [List.map_append, HCd.out, List.take_add_one, HEd.out]; rfl), Lib.hid ?_⟩
    have h9 := HM.out
    rw [flat_fill, HPut.out, ← hT] at h9
    rw [List.map_append]
    refine h9.perm ?_
    exact (List.Perm.swap _ _ _).trans (.cons _ (List.perm_append_comm (l₁ := [_])))
   case measure => have := hlt3.out; simp [intOf]; omega
  ·obtain rfl : i = ms.length := by omega
   have d1 : decide ((ms.length : Int) < ms.length) = false := by simp
   have hln : (elD ms).length = ms.length := List.length_map ..
   have HCd2 := Lib.hid (show cps.map CpM.d = elD ms by rw [HCd.out, List.take_of_length_le (by omega)])
   go_wp2_with fail
   go_ret
   exact ⟨gd, cps, HCd2.out, rfl, HM.out⟩
end Go.Proofs.YtanncakdlflopaaGreatDoor

namespace Go.Proofs.YtanncakdlflopaaGreatDoor
open Go.RowKit
set_option linter.unusedVariables false
set_option linter.unusedSimpArgs false
set_option maxRecDepth 100000

set_option maxHeartbeats 16000000 in
theorem rempty_any (b : Addr) (n : Nat) (cps : List CpM) (w0 : World) (hn : n ≤ 1048576) (hl : cps.length = n) (hr : Cells w0 b (elC (cpE n cps))) (ha : ∀ c ∈ cps, Cells w0 ⟨c.g, 0, none⟩ ((c.d.l ++ List.replicate 2 zA).flatMap AtD.cs)) (hz : ∀ c ∈ cps, c.d.l.length ≤ 1048576) :
  Calls Tryz.prog 19 #[.slice (some b) n (n + 3 : Nat)] w0 fun e w' => e = .returned (.bool true) ∧ Below w0.heap.size w0 w' := by
 have HM := Lib.hid (Mem.start w0)
 have HR := Lib.hid hr
 have HA := Lib.hid ha
 have HZ := Lib.hid hz
 have HL := Lib.hid hl
 clear hr ha hz hl
 go_enter Tryz.func19, Tryz.ntmps19
 go_wp2_with (first | ((with_reducible refine iat 11 ?_); (refine sltx (m := n + 3) rfl rfl (by omega) (by omega) ?_)))
 go_loopw [4] (fun iv wr => ∃ i : Nat, iv = .int .i64 i ∧ n ≤ i ∧ i ≤ n + 3 ∧ Hid (Mem w0 wr [])) (fun iv _ => n + 3 - (intOf iv).toNat)
 case atStart => exact ⟨n, rfl, by omega, by omega, HM⟩
 case round =>
  clear HM
  obtain ⟨i, rfl, hi1, hi2, HM⟩ := hrel
  by_cases hlt : i < n + 3
  ·have EI := Lib.hid (show Cells w0 (b.add (i * 4)) [.string ⟨#[]⟩, .int .i64 0, .slice none 0 0, .string ⟨#[]⟩] from HR.out.elem ElM.cs 4 ElM.cs_len (cpE_zero (by rw [HL.out]; exact hi1) hlt))
   have d1 : decide ((i : Int) < (n : Int) + 3) = true := decide_eq_true (by omega)
   have hlt3 := Lib.hid (show i + 1 ≤ n + 3 from hlt)
   as_aux_lemma =>
   go_wp2_with (first | ((with_reducible refine iat 22 ?_); (refine ixa (i := i) rfl rfl rfl hlt ?_)) | ((with_reducible refine iat 29 ?_); (refine ixa (i := i) rfl rfl rfl hlt ?_)) | ((with_reducible refine iat 37 ?_); (refine ixa (i := i) rfl rfl rfl hlt ?_)) | ((with_reducible refine iat 45 ?_); (refine ixa (i := i) rfl rfl rfl hlt ?_)) | ((with_reducible refine iat 24 ?_); (refine ldx1 (HM.out.olds EI.out 0 _ rfl) rfl ?_)) | ((with_reducible refine iat 31 ?_); (refine ldx1 (HM.out.olds EI.out 1 _ rfl) rfl ?_)) | ((with_reducible refine iat 39 ?_); (refine ldx1 (HM.out.olds EI.out 3 _ rfl) rfl ?_)) | ((with_reducible refine iat 47 ?_); (refine ldx1 (HM.out.olds EI.out 2 _ rfl) rfl ?_)))
   go_roundw
   case rel => exact ⟨i + 1, by go_num, by omega, hlt3.out, HM⟩
   case measure => have := hlt3.out; simp [intOf]; omega
  ·obtain rfl : i = n + 3 := by omega
   have d1 : decide (((n + 3 : Nat) : Int) < (n : Int) + 3) = false := decide_eq_false (by omega)
   have d1' : decide ((n : Int) + 3 < (n : Int) + 3) = false := by simp
   go_wp2_with fail
   go_loopw [5] (fun iv wr => ∃ i : Nat, iv = .int .i64 i ∧ i ≤ n ∧ Hid (Mem w0 wr [])) (fun iv _ => n - (intOf iv).toNat)
   case atStart => exact ⟨0, rfl, by omega, HM⟩
   case round =>
    clear HM
    obtain ⟨j, rfl, hj, HM⟩ := hrel
    by_cases hjn : j < n
    ·obtain ⟨c, hc⟩ : ∃ c, cps[j]? = some c := ⟨_, List.getElem?_eq_getElem (by rw [HL.out]; exact hjn)⟩
     have hcz := HZ.out c (List.mem_of_getElem? hc)
     have hca := HA.out c (List.mem_of_getElem? hc)
     have e1 := HR.out.elem ElM.cs 4 ElM.cs_len (cpE_at (n := n) hc)
     obtain ⟨⟨cn, cu, l, ct⟩, cg⟩ := c
     dsimp only at hcz hca
     obtain ⟨ba, hba⟩ : ∃ ba : Addr, (⟨cg, 0, none⟩ : Addr) = ba := ⟨_, rfl⟩
     have e2 : Cells w0 (b.add (j * 4)) [.string cn, .int .i64 cu, .slice (some ⟨cg, 0, none⟩) l.length (l.length + 2), .string ct] := e1
     rw [hba] at e2 hca
     have E1 := Lib.hid e2
     have HCa := Lib.hid hca
     have d2 : decide ((j : Int) < n) = true := decide_eq_true (by omega)
     have hj3 := Lib.hid (show j + 1 ≤ n from hjn)
     clear hc e1 e2 hba hca
     as_aux_lemma =>
     go_wp2_with fail
     refine wp_region_mem (by kernel_rfl) (by kernel_rfl) HM.out ?_; intro hNE; (repeat (any_goals (first | refine mQ ?_ | ((with_reducible refine qat 59 ?_); (refine qixa (i := j) rfl rfl rfl hjn ?_)) | ((with_reducible refine qat 61 ?_); (refine qdx1 (i := 2) E1.out rfl rfl ?_)) | ((with_reducible refine qat 64 ?_); (refine qixa (i := j) rfl rfl rfl hjn ?_)) | ((with_reducible refine qat 66 ?_); (refine qdx1 (i := 2) E1.out rfl rfl ?_)) | ((with_reducible refine qat 68 ?_); (refine qslt (m := l.length + 2) rfl rfl (by omega) (by omega) ?_)) | go_big_quiet_step (fail) | quiet_step (fail)))); clear hNE; refine wpQuiet_nil ?_; intro W1 HM1; replace HM := Lib.hid HM1; clear HM1
     go_wp2_with (first | ((with_reducible refine iat 71 ?_); (refine ixa (i := j) rfl rfl rfl hjn ?_)) | ((with_reducible refine iat 73 ?_); (refine ldx1 (HM.out.olds E1.out 2 _ rfl) rfl ?_)))
     go_loopw [7] (fun kv wr => ∃ k : Nat, kv = .int .i64 k ∧ l.length ≤ k ∧ k ≤ l.length + 2 ∧ Hid (Mem w0 wr [])) (fun kv _ => l.length + 2 - (intOf kv).toNat)
     case atStart => exact ⟨l.length, rfl, by omega, by omega, HM⟩
     case round =>
      clear HM
      obtain ⟨k, rfl, hk1, hk2, HM⟩ := hrel
      by_cases hkl : k < l.length + 2
      ·have EA := Lib.hid (show Cells w0 (ba.add (k * 2)) [.string ⟨#[]⟩, .string ⟨#[]⟩] from HCa.out.elem AtD.cs 2 AtD.cs_len (x := zA) (by rw [List.getElem?_append_right hk1, List.getElem?_replicate, if_pos (by omega)]))
       have d3 : decide ((k : Int) < (l.length : Int) + 2) = true := decide_eq_true (by omega)
       have hk3 := Lib.hid (show k + 1 ≤ l.length + 2 from hkl)
       as_aux_lemma =>
       go_wp2_with (first | ((with_reducible refine iat 83 ?_); (refine ixa (i := k) rfl rfl rfl hkl ?_)) | ((with_reducible refine iat 90 ?_); (refine ixa (i := k) rfl rfl rfl hkl ?_)) | ((with_reducible refine iat 85 ?_); (refine ldx1 (HM.out.olds EA.out 0 _ rfl) rfl ?_)) | ((with_reducible refine iat 92 ?_); (refine ldx1 (HM.out.olds EA.out 1 _ rfl) rfl ?_)))
       go_roundw
       case rel => exact ⟨k + 1, by go_num, by omega, hk3.out, HM⟩
       case measure => have := hk3.out; simp [intOf]; omega
      ·obtain rfl : k = l.length + 2 := by omega
       have d3' : decide ((l.length : Int) + 2 < (l.length : Int) + 2) = false := by simp
       as_aux_lemma =>
       go_wp2_with fail
       go_roundw
       case rel => exact ⟨j + 1, by go_num, hj3.out, HM⟩
       case measure => have := hj3.out; simp [intOf]; omega
    ·obtain rfl : j = n := by omega
     have d2 : decide ((j : Int) < j) = false := by simp
     as_aux_lemma =>
     go_wp2_with fail
     go_ret
     exact ⟨rfl, HM.out.below⟩
end Go.Proofs.YtanncakdlflopaaGreatDoor

namespace Go.Proofs.YtanncakdlflopaaGreatDoor
open Go.RowKit
set_option linter.unusedVariables false
set_option linter.unusedSimpArgs false
set_option maxRecDepth 100000

/-- An element that is written over. -/
def XM.ofE (m : ElM) : XM := ⟨.string m.d.n, .int .i64 m.d.up, .string m.d.t, m.p, m.c, m.d.l.length, m.d.l.flatMap AtD.cs⟩
theorem outX_ofE (ms : List ElM) : outX (ms.map XM.ofE) = elC ms := by unfold outX elC; rw [List.flatMap_map]; rfl
theorem outXR_ofE (ms : List ElM) : outXR (ms.map XM.ofE) = elR ms := by unfold outXR elR; rw [List.map_map]; rfl
theorem x_over2 {zs : List XM} {i : Nat} {z : XM} (hz : zs[i]? = some z) (u v : Value) (cs : List Value) : ((outX zs).set (i * 4) u).set (i * 4 + 1) v = outX (zs.set i ⟨u, v, z.d, z.p, z.c, z.n, cs⟩) := by
 have hi : i < zs.length := (List.getElem?_eq_some_iff.1 hz).1
 unfold outX
 have h0 := flat_set XM.vs 4 XM.vs_len (l := zs) (i := i) (j := 0) (x := z) (y := ⟨u, z.b, z.d, z.p, z.c, z.n, z.cs⟩) (v := u) hz rfl (by omega)
 rw [Nat.add_zero] at h0
 rw [h0, flat_set XM.vs 4 XM.vs_len (x := ⟨u, z.b, z.d, z.p, z.c, z.n, z.cs⟩) (y := ⟨u, v, z.d, z.p, z.c, z.n, cs⟩) (List.getElem?_set_self hi) rfl (by omega), List.set_set]
theorem ones_of (cps : List CpM) : ∀ m ∈ cps.map CpM.m, ∃ c ∈ cps, m = c.m := by
 intro m hm
 obtain ⟨c, hc, rfl⟩ := List.mem_map.1 hm
 exact ⟨c, hc, rfl⟩
theorem box_res_cells {w0 W : World} {L : List Res} {g : Nat} {t : TypeId} {cs : List Value} (h : Mem w0 W L) (hm : .box g t cs ∈ L) : Cells W ⟨g, 0, none⟩ cs := by
 have := box_cells (h.holds _ hm) 0
 rwa [List.drop_zero] at this
/-- Copies as they lie. -/
theorem cp_in {w0 W : World} {L : List Res} {g n : Nat} {cps : List CpM} (hl : cps.length = n) (h : Mem w0 W L) (hm : .row (some ⟨g, 0, none⟩) (n + 3) 42 4 (n + 3) (elC (cpE n cps)) ∈ L) (hr : ∀ r ∈ cps.map CpM.res, r ∈ L) : ElIn W (some ⟨g, 0, none⟩) (cps.map CpM.m) := by
 refine ⟨⟨(fun e => by cases e), (fun a e => ?_)⟩, fun m hm2 => ?_⟩
 ·cases e
  have h1 := (row_cells (h.holds _ hm) 0).2.2
  intro j u hj
  refine h1 j u ?_
  rw [List.drop_zero]
  unfold elC cpE
  rw [List.flatMap_append]
  have hj2 : ((cps.map CpM.m).flatMap ElM.cs)[j]? = some u := hj
  rw [List.getElem?_append_left (List.getElem?_eq_some_iff.1 hj2).1]
  exact hj2
 ·obtain ⟨c, hc, rfl⟩ := ones_of cps m hm2
  have h1 := box_res_cells h (hr c.res (List.mem_map.2 ⟨c, hc, rfl⟩))
  refine ⟨⟨(fun e => by cases e), (fun a e => ?_)⟩, Nat.le_add_right _ 2⟩
  cases e
  intro j u hj
  refine h1 j u ?_
  have hj2 : (c.d.l.flatMap AtD.cs)[j]? = some u := hj
  rw [List.flatMap_append, List.getElem?_append_left (List.getElem?_eq_some_iff.1 hj2).1]
  exact hj2

set_option maxHeartbeats 32000000 in
theorem treeApart_walk (p : Option Addr) (cp : Nat) (ms : List ElM) (at_ : Int) (W : World) (hT : U8 W) (hE : ErrsAt W) (hX : MaxAt W) (h : ElIn W p ms) (hz : ∀ m ∈ ms, szW m.d) (hla : ∀ m ∈ ms, m.d.l.length ≤ 1048576) (hl : ms.length ≤ 1048576) :
  Calls Tryz.prog 7 #[.slice p ms.length cp, .int .i64 at_] W fun e w' => e = .returned (.bool true) ∧ Below W.heap.size W w' := by
 have HM := Lib.hid (Mem.start W)
 have HT := Lib.hid hT
 have HE := Lib.hid hE
 have HX := Lib.hid hX
 have HI := Lib.hid h
 have HZ := Lib.hid hz
 have HK := Lib.hid (tknown_any W hT hE hX)
 have HCp := Lib.hid (fun (W2 : World) (hM : Mem W W2 []) => rcopy_any p cp ms W2 (h.mem hM) hla hl)
 obtain ⟨⟨o, ec⟩, hr⟩ : ∃ r, kidsT (elD ms) at_ = r := ⟨_, rfl⟩
 have hol : o.length ≤ 1048576 := by have h1 := kidsT_len hr; have h2 : (elD ms).length = ms.length := List.length_map ..; omega
 have HKd := Lib.hid (fun (W2 : World) (L : List Res) (hM : Mem W W2 L) => rdockids_any p cp ms at_ W2 (h.mem hM) (fun m hm => szW_ok (hz m hm)) hl _ hr)
 have HKr := Lib.hid hr
 have HLa := Lib.hid hla
 clear hT hE hX h hz hla hr
 go_enter Tryz.func7, Tryz.ntmps7
 go_wp2_with (first | (go_at_call 8; (with_reducible refine cB HM (HK.out) ?_); clear HM; intro W1 HM))
 refine (HCp.out _ HM.out).mono ?_
 rintro e W2 ⟨g, cps, hcd, rfl, hM2⟩
 have HM1 := Lib.hid (HM.out.comp2 hM2)
 clear HM hM2 HK HCp
 have HM := HM1
 clear HM1
 have hcl : cps.length = ms.length := by have := congrArg List.length hcd; rw [List.length_map] at this; rw [this]; exact List.length_map ..
 simp only [List.append_nil, List.cons_append] at HM
 obtain ⟨xs, hxs⟩ : ∃ xs, cps.map CpM.m = xs := ⟨_, rfl⟩
 have hxl : xs.length = ms.length := by rw [← hxs, List.length_map, hcl]
 have hxd : elD xs = elD ms := by rw [← hxs, ← hcd]; unfold elD; rw [List.map_map]; rfl
 have HIn := Lib.hid (fun (W3 : World) (L : List Res) (hM : Mem W W3 L) (h1 : .row (some ⟨g, 0, none⟩) (ms.length + 3) 42 4 (ms.length + 3) (elC (cpE ms.length cps)) ∈ L) (h2 : ∀ r ∈ cps.map CpM.res, r ∈ L) => hxs ▸ cp_in hcl hM h1 h2)
 have hxz : ∀ m ∈ xs, szW m.d := by
  intro m hm
  have : m.d ∈ elD ms := by rw [← hxd]; exact List.mem_map.2 ⟨m, hm, rfl⟩
  obtain ⟨y, hy, hyd⟩ := List.mem_map.1 this
  rw [← hyd]
  exact HZ.out y hy
 have hxa : ∀ m ∈ xs, m.d.l.length ≤ 1048576 := by
  intro m hm
  have : m.d ∈ elD ms := by rw [← hxd]; exact List.mem_map.2 ⟨m, hm, rfl⟩
  obtain ⟨y, hy, hyd⟩ := List.mem_map.1 this
  rw [← hyd]
  exact HLa.out y hy
 have HWr := Lib.hid (fun (W3 : World) (hU : U8 W3) (hI : ElIn W3 (some ⟨g, 0, none⟩) xs) => twrite_any (some ⟨g, 0, none⟩) (ms.length + 3) xs W3 hU hI hxz (by rw [hxl]; omega))
 have HKt := Lib.hid (fun (W3 : World) (hU : U8 W3) (hI : ElIn W3 (some ⟨g, 0, none⟩) xs) => tkids_any (some ⟨g, 0, none⟩) (ms.length + 3) xs at_ W3 hU hI (fun m hm => szW_ok (hxz m hm)) (by rw [hxl]; exact hl) (o, ec) (by rw [hxd]; exact HKr.out))
 have HSm := Lib.hid (fun (W3 : World) (hI : ElIn W3 (some ⟨g, 0, none⟩) xs) (hJ : ElIn W3 p ms) => rtsame_any (some ⟨g, 0, none⟩) p (ms.length + 3) cp xs ms W3 hI hJ hxd (by rw [hxl]; omega) (fun m hm => Nat.le_trans (hxa m hm) (by decide)))
 have HEm := Lib.hid (fun (W3 : World) (L : List Res) (hM : Mem W W3 L) (h1 : .row (some ⟨g, 0, none⟩) (ms.length + 3) 42 4 (ms.length + 3) (elC (cpE ms.length cps)) ∈ L) (h2 : ∀ r ∈ cps.map CpM.res, r ∈ L) => rempty_any ⟨g, 0, none⟩ ms.length cps W3 hl hcl (by
   have := (row_cells (hM.holds _ h1) 0).2.2
   rwa [List.drop_zero] at this)
  (fun c hc => box_res_cells hM (h2 c.res (List.mem_map.2 ⟨c, hc, rfl⟩)))
  (fun c hc => hxa c.m (by rw [← hxs]; exact List.mem_map.2 ⟨c, hc, rfl⟩)))
 rw [hxl, hxd] at HWr
 rw [hxl] at HKt HSm
 clear hxz hxa hxs hcd hxd HKr
 have HIn1 := Lib.hid (HIn.out _ _ HM.out (.head _) (fun r hr => .tail _ hr))
 obtain ⟨⟨s, c⟩, hw⟩ : ∃ x, writeT (elD ms) = x := ⟨_, rfl⟩
 rw [hw] at HWr
 have HWt := Lib.hid hw
 clear hw
 go_wp2_with (first | (go_at_call 17; (with_reducible refine cB HM (HWr.out _ (HT.out.below HM.out.below) HIn1.out) ?_); clear HM; intro W1 HM))
 clear HIn1 HWr
 have HIn1 := Lib.hid (HIn.out _ _ HM.out (.head _) (fun r hr => .tail _ hr))
 refine (HKt.out _ (HT.out.below HM.out.below) HIn1.out).mono ?_
 rintro e W3 ⟨q1, c1, rfl, hM2⟩
 have HM1 := Lib.hid (HM.out.comp2 hM2)
 clear HM hM2 HIn1
 have HM := HM1
 clear HM1
 simp only [List.cons_append, List.nil_append] at HM
 dsimp only at HM ⊢
 go_wp2_with fail
 have HIn1 := Lib.hid (HIn.out _ _ HM.out (.tail _ (.head _)) (fun r hr => .tail _ (.tail _ hr)))
 refine (HKt.out _ (HT.out.below HM.out.below) HIn1.out).mono ?_
 rintro e W4 ⟨q2, c2, rfl, hM2⟩
 have HM1 := Lib.hid (HM.out.comp2 hM2)
 clear HM hM2 HIn1 HKt
 have HM := HM1
 clear HM1
 simp only [List.cons_append, List.nil_append] at HM
 dsimp only at HM ⊢
 have HIn1 := Lib.hid (HIn.out _ _ HM.out (.tail _ (.tail _ (.head _))) (fun r hr => .tail _ (.tail _ (.tail _ hr))))
 have HS1 := Lib.hid (HSm.out _ HIn1.out (HI.out.mem HM.out))
 have HEm1 := Lib.hid (fun (W5 : World) (hM : Mem W W5 (.row q2 c2 3 1 o.length (intC o) :: .row q1 c1 3 1 o.length (intC o) :: .row (some ⟨g, 0, none⟩) (ms.length + 3) 42 4 (ms.length + 3) (elC (cpE ms.length cps)) :: cps.map CpM.res)) => HEm.out W5 _ hM (.tail _ (.tail _ (.head _))) (fun r hr => .tail _ (.tail _ (.tail _ hr))))
 clear HIn1 HIn HSm HEm
 go_wp2_with (first | (go_at_call 11; (with_reducible refine cB HM (HS1.out) ?_); clear HM; intro W1 HM) | (go_at_call 19; (with_reducible refine cB HM (HEm1.out _ HM.out) ?_); clear HM; intro W1 HM))
 clear HEm1 HS1
 refine (HKd.out _ _ HM.out).mono ?_
 rintro e W5 ⟨q3, c3, rfl, hM2⟩
 have HM1 := Lib.hid (HM.out.comp2 hM2)
 clear HM hM2 HKd
 have HM2 := HM1.out
 clear HM1
 simp only [List.cons_append, List.nil_append] at HM2
 dsimp only at HM2 ⊢
 obtain ⟨T, hTT⟩ : ∃ T, Res.row (some ⟨g, 0, none⟩) (ms.length + 3) 42 4 (ms.length + 3) (elC (cpE ms.length cps)) :: cps.map CpM.res = T := ⟨_, rfl⟩
 obtain ⟨cs, hcs⟩ : ∃ cs, intC o = cs := ⟨_, rfl⟩
 rw [hTT, hcs] at HM2
 have HCs := Lib.hid hcs
 have hcsl : cs.length = o.length := by rw [← hcs, intC_len]
 have HM := Lib.hid HM2
 clear HM2 hTT hcs
 obtain ⟨no, hno⟩ : ∃ n, o.length = n := ⟨_, rfl⟩
 have HNo := Lib.hid hno
 simp only [hno] at HM hol hcsl ⊢
 clear hno
 go_wp2_with fail
 go_loopw [14] (fun iv wr => ∃ (i : Nat) (av : List Value), iv = .int .i64 i ∧ i ≤ no ∧ Hid (av.length = no) ∧ Hid (Mem W wr (.row q3 c3 3 1 no cs :: .row q2 c2 3 1 no cs :: .row q1 c1 3 1 no av :: T))) (fun iv _ => no - (intOf iv).toNat)
 case atStart => exact ⟨0, cs, rfl, by omega, Lib.hid hcsl, HM⟩
 case round =>
  clear HM
  obtain ⟨i, av, rfl, hi, HAl, HM⟩ := hrel
  by_cases hlt : i < no
  ·obtain ⟨b1', rfl⟩ := row_has (HM.out.get (k := 2) rfl) (by omega)
   have d1 : decide ((i : Int) < no) = true := decide_eq_true (by omega)
   have hlt3 := Lib.hid (show i + 1 ≤ no from hlt)
   have hal : i * 1 < av.length := by rw [HAl.out]; omega
   as_aux_lemma =>
   go_wp2_with (first | ((with_reducible refine iat 70 ?_); (refine ixa (i := i) rfl rfl rfl hlt ?_)) | ((with_reducible refine istore ?_); (refine strw (i := i * 1) (v := .int .i64 (-7)) rfl HM.out 2 rfl rfl rfl rfl hal ?_); intro W1 HM1; replace HM := Lib.hid HM1; clear HM1; simp only [List.set] at HM))
   go_roundw
   case rel => exact ⟨i + 1, _, by go_num, hlt3.out, Lib.hid (by rw [List.length_set]; exact HAl.out), HM⟩
   case measure => have := hlt3.out; simp [intOf]; omega
  obtain rfl : i = no := by omega
  have d1 : decide ((i : Int) < i) = false := by simp
  have HM2 := Lib.hid (HM.out.sub (.cons_cons _ (.cons_cons _ (.cons _ (.refl _)))))
  clear HM HAl
  have HM := HM2
  clear HM2
  go_wp2_with fail
  go_loopw [15] (fun iv wr => ∃ j : Nat, iv = .int .i64 j ∧ j ≤ i ∧ Hid (Mem W wr (.row q3 c3 3 1 i cs :: .row q2 c2 3 1 i cs :: T))) (fun iv _ => i - (intOf iv).toNat)
  case atStart => exact ⟨0, rfl, by omega, HM⟩
  case round =>
   clear HM
   obtain ⟨j, rfl, hj, HM⟩ := hrel
   by_cases hjl : j < i
   ·obtain ⟨b3, rfl⟩ := row_has (HM.out.get (k := 0) rfl) (by omega)
    obtain ⟨b2', rfl⟩ := row_has (HM.out.get (k := 1) rfl) (by omega)
    obtain ⟨k, hk⟩ : ∃ k, o[j]? = some k := ⟨_, List.getElem?_eq_getElem (by rw [HNo.out]; exact hjl)⟩
    have HCl := Lib.hid (show cs[j * 1]? = some (.int .i64 (k : Int)) by rw [← HCs.out]; unfold intC; rw [Nat.mul_one, List.getElem?_map, hk]; rfl)
    have d2 : decide ((j : Int) < i) = true := decide_eq_true (by omega)
    have bk : ((k : Int) != k) = false := by simp
    have hj3 := Lib.hid (show j + 1 ≤ i from hjl)
    clear hk
    as_aux_lemma =>
    go_wp2_with fail
    refine wp_region_mem (by kernel_rfl) (by kernel_rfl) HM.out ?_; intro hNE; (repeat (any_goals (first | refine mQ ?_ | ((with_reducible refine qat 79 ?_); (refine qixa (i := j) rfl rfl rfl hjl ?_)) | ((with_reducible refine qat 83 ?_); (refine qixa (i := j) rfl rfl rfl hjl ?_)) | ((with_reducible refine qat 80 ?_); (refine qd1 rfl (fun W ⟨qq, hq⟩ => hq ▸ row_cell (qq.mem.get (k := 1) rfl) HCl.out) ?_)) | ((with_reducible refine qat 84 ?_); (refine qd1 rfl (fun W ⟨qq, hq⟩ => hq ▸ row_cell (qq.mem.get (k := 0) rfl) HCl.out) ?_)) | go_big_quiet_step (fail) | quiet_step (fail)))); clear hNE; refine wpQuiet_nil ?_; intro W1 HM1; replace HM := Lib.hid HM1; clear HM1
    go_wp2_with fail
    go_roundw
    case rel => exact ⟨j + 1, by go_num, hj3.out, HM⟩
    case measure => have := hj3.out; simp [intOf]; omega
   obtain rfl : j = i := by omega
   have d2 : decide ((j : Int) < j) = false := by simp
   rcases writeT_cases (elD ms) with ⟨c6, hc0, -, hw⟩ | ⟨hck, hdl, hw⟩
   ·rw [HWt.out] at hw
    obtain ⟨rfl, rfl⟩ := Prod.mk.inj hw
    have b1 : (c != 0) = true := by simpa using hc0
    clear hw hc0
    as_aux_lemma =>
    go_wp2_with fail
    go_ret
    exact ⟨rfl, HM.out.below⟩
   have hb := read_back hck hdl
   rw [HWt.out] at hw
   obtain ⟨hs, rfl⟩ := Prod.mk.inj hw
   rw [← hs] at hb
   have hss : s.size ≤ 1048576 := by rw [hs, mk_size]; omega
   have h16 := checkT_len hck
   have HR := Lib.hid (fun W2 h1 h2 h3 => tread_any s W2 _ hb h1 h2 h3 hss)
   have H16 := Lib.hid h16
   clear hw hs hb hck hdl hss h16 HWt
   go_wp2_with fail
   refine (HR.out _ (HT.out.below HM.out.below) (HE.out.below HM.out.below) (HX.out.below HM.out.below)).mono ?_
   rintro e W6 ⟨ys, py, cy, hdy, hly, rfl, hM2⟩
   have HM1 := Lib.hid ((HM.out.sub (List.nil_sublist _)).comp2 hM2)
   clear HM hM2
   have HM := HM1
   clear HM1
   go_wp2_with fail
   refine (HR.out _ (HT.out.below HM.out.below) (HE.out.below HM.out.below) (HX.out.below HM.out.below)).mono ?_
   rintro e W7 ⟨ws, pw, cw, hdw, hlw, rfl, hM2⟩
   have HM1 := Lib.hid (HM.out.comp2 hM2)
   clear HM hM2 HR HT HE HX HCs HNo HZ HLa
   have HM := HM1
   clear HM1
   have HY16 := Lib.hid (show ∀ m ∈ ys, m.d.l.length ≤ 16 from fun m hm => H16.out m.d (by rw [← hdy]; exact List.mem_map.2 ⟨m, hm, rfl⟩))
   have HW16 := Lib.hid (show ∀ m ∈ ws, m.d.l.length ≤ 16 from fun m hm => H16.out m.d (by rw [← hdw]; exact List.mem_map.2 ⟨m, hm, rfl⟩))
   have HDw := Lib.hid hdw
   clear hdw hdy H16
   obtain ⟨R, hR⟩ : ∃ R, (Res.row pw cw 42 4 ws.length (elC ws) :: elR ws) = R := ⟨_, rfl⟩
   have HRw := Lib.hid (show ∀ r ∈ (Res.row pw cw 42 4 ws.length (elC ws) :: elR ws), r ∈ R from fun r hr => by rw [← hR]; exact hr)
   have HM1 := Lib.hid (show Mem W _ (.row py cy 42 4 ys.length (outX (ys.map XM.ofE)) :: (outXR (ys.map XM.ofE) ++ R)) by
    rw [outX_ofE, outXR_ofE, ← hR]
    refine HM.out.perm ?_
    simp only [List.append_nil]
    exact List.perm_append_comm (l₂ := Res.row py cy 42 4 ys.length (elC ys) :: elR ys))
   have hn : (ys.map XM.ofE).length = ys.length := List.length_map ..
   have HZz := Lib.hid (show ∀ z ∈ ys.map XM.ofE, z.n ≤ 16 by
    intro z hz
    obtain ⟨m, hm, rfl⟩ := List.mem_map.1 hz
    exact HY16.out m hm)
   clear HM hR HY16
   have HM := HM1
   clear HM1
   obtain ⟨n, hnn⟩ : ∃ n, ys.length = n := ⟨_, rfl⟩
   rw [hnn] at hn
   simp only [hnn] at HM hly ⊢
   generalize ys.map XM.ofE = zs0 at *
   clear hnn ys
   clear hi hj d1 d2 hol hcsl
   go_wp2_with fail
   go_loopw [22] (fun iv wr => ∃ (i : Nat) (zs : List XM), iv = .int .i64 i ∧ i ≤ n ∧ zs.length = n ∧ Hid (∀ z ∈ zs, z.n ≤ 16) ∧ Hid (Mem W wr (.row py cy 42 4 n (outX zs) :: (outXR zs ++ R)))) (fun iv _ => n - (intOf iv).toNat)
   case atStart => exact ⟨0, zs0, rfl, by omega, hn, HZz, HM⟩
   case round =>
    clear HM HZz hn zs0
    obtain ⟨i, zs, rfl, hi, hzl, HZz, HM⟩ := hrel
    by_cases hlt : i < n
    ·obtain ⟨b, rfl⟩ := row_has (HM.out.get (k := 0) rfl) (by omega)
     obtain ⟨z, hz⟩ : ∃ t, zs[i]? = some t := ⟨_, List.getElem?_eq_getElem (by omega)⟩
     have hzn := HZz.out z (List.mem_of_getElem? hz)
     have HM1 := Lib.hid (x_take hz HM.out)
     have HOv := Lib.hid (fun u v cs => x_over2 hz u v cs)
     have HC3 := Lib.hid (show (((outX zs).set (i * 4) (.string ⟨#[113]⟩)).set (i * 4 + 1) (.int .i64 99))[i * 4 + 2]? = some (.slice z.p z.n z.c) by
      rw [List.getElem?_set_ne (by omega), List.getElem?_set_ne (by omega)]; exact x_cell hz)
     have hc0 : i * 4 < (outX zs).length := by rw [x_len]; omega
     have hc1 : i * 4 + 1 < ((outX zs).set (i * 4) (.string ⟨#[113]⟩)).length := by rw [List.length_set, x_len]; omega
     have d1 : decide ((i : Int) < n) = true := decide_eq_true (by omega)
     have hlt3 := Lib.hid (show i + 1 ≤ n from hlt)
     obtain ⟨za, zb, zd, p0, c0, n0, cs0⟩ := z
     dsimp only at hzn
     unfold XM.res at HM1
     dsimp only at HC3 HOv HM1
     clear HM hz
     have HM := HM1
     clear HM1
     obtain ⟨T, hT⟩ : ∃ T, outXR (zs.eraseIdx i) ++ R = T := ⟨_, rfl⟩
     rw [hT] at HM
     have HTT := Lib.hid hT
     clear hT
     as_aux_lemma =>
     go_wp2_with (first | ((with_reducible refine iat 110 ?_); (refine ixa (i := i) rfl rfl rfl hlt ?_)) | ((with_reducible refine iat 112 ?_); (refine ixa (i := i) rfl rfl rfl hlt ?_)) | ((with_reducible refine istore ?_); (first | (refine strw (i := i * 4 + 1) (v := .int .i64 99) rfl HM.out 0 rfl (by rw [← add_add']; rfl) rfl rfl hc1 ?_) | (refine strw (i := i * 4) (v := .string ⟨#[113]⟩) rfl HM.out 0 rfl rfl rfl rfl hc0 ?_)); intro W1 HM1; replace HM := Lib.hid HM1; clear HM1; simp only [List.set] at HM))
     obtain ⟨rc, hrc⟩ : ∃ rc, ((outX zs).set (i * 4) (.string ⟨#[113]⟩)).set (i * 4 + 1) (.int .i64 99) = rc := ⟨_, rfl⟩
     rw [hrc] at HM HC3
     have HRc := Lib.hid hrc
     clear hrc hc0 hc1
     go_loopw [23] (fun kv wr => ∃ (k : Nat) (cs : List Value), kv = .int .i64 k ∧ k ≤ n0 ∧ Hid (Mem W wr (.row (some b) cy 42 4 n rc :: .row p0 c0 44 2 n0 cs :: T))) (fun kv _ => n0 - (intOf kv).toNat)
     case atStart => exact ⟨0, cs0, rfl, by omega, HM⟩
     case round =>
      clear HM
      obtain ⟨k, cs, rfl, hk, HM⟩ := hrel
      by_cases hkl : k < n0
      ·obtain ⟨b0, rfl⟩ := row_has (HM.out.get (k := 1) rfl) (by omega)
       have hcl2 : k * 2 < cs.length := by rw [(row_cap (HM.out.get (k := 1) rfl)).2.2]; omega
       have d2 : decide ((k : Int) < n0) = true := decide_eq_true (by omega)
       have hk3 := Lib.hid (show k + 1 ≤ n0 from hkl)
       as_aux_lemma =>
       go_wp2_with (first | ((with_reducible refine iat 117 ?_); (refine ixa (i := i) rfl rfl rfl hlt ?_)) | ((with_reducible refine iat 119 ?_); (refine ldx1 (row_cell2 (HM.out.get (k := 0) rfl) HC3.out) rfl ?_)) | ((with_reducible refine iat 126 ?_); (refine ixa (i := i) rfl rfl rfl hlt ?_)) | ((with_reducible refine iat 128 ?_); (refine ldx1 (row_cell2 (HM.out.get (k := 0) rfl) HC3.out) rfl ?_)) | ((with_reducible refine iat 130 ?_); (refine ixa (i := k) rfl rfl rfl hkl ?_)) | ((with_reducible refine istore ?_); (refine strw (i := k * 2) (v := .string ⟨#[113]⟩) rfl HM.out 1 rfl rfl rfl rfl hcl2 ?_); intro W1 HM1; replace HM := Lib.hid HM1; clear HM1; simp only [List.set] at HM))
       go_roundw
       case rel => exact ⟨k + 1, _, by go_num, hk3.out, HM⟩
       case measure => have := hk3.out; simp [intOf]; omega
      ·obtain rfl : k = n0 := by omega
       have d2 : decide ((k : Int) < k) = false := by simp
       as_aux_lemma =>
       go_wp2_with (first | ((with_reducible refine iat 117 ?_); (refine ixa (i := i) rfl rfl rfl hlt ?_)) | ((with_reducible refine iat 119 ?_); (refine ldx1 (row_cell2 (HM.out.get (k := 0) rfl) HC3.out) rfl ?_)))
       go_roundw
       case rel =>
        refine ⟨i + 1, zs.set i ⟨.string ⟨#[113]⟩, .int .i64 99, zd, p0, c0, k, cs⟩, by go_num, hlt3.out, by rw [List.length_set]; exact hzl, Lib.hid (set_all HZz.out (by omega) hzn), Lib.hid (x_put (by omega) ?_)⟩
        have h9 := HM.out
        rw [← HRc.out, HOv.out _ _ cs, ← HTT.out] at h9
        exact h9
       case measure => have := hlt3.out; simp [intOf]; omega
    ·obtain rfl : i = n := by omega
     have d1 : decide ((i : Int) < i) = false := by simp
     clear hi
     go_wp2_with fail
     go_loopw [24] (fun iv wr => ∃ (j : Nat) (zs : List XM), iv = .int .i64 j ∧ j ≤ i ∧ zs.length = i ∧ Hid (∀ z ∈ zs, z.n ≤ 16 + 5 * j) ∧ Hid (Mem W wr (.row py cy 42 4 i (outX zs) :: (outXR zs ++ R)))) (fun iv _ => i - (intOf iv).toNat)
     case atStart => exact ⟨0, zs, rfl, by omega, hzl, HZz, HM⟩
     case round =>
      clear HM HZz hzl zs
      obtain ⟨j, zs, rfl, hj, hzl, HZz, HM⟩ := hrel
      by_cases hlt : j < i
      ·obtain ⟨b, rfl⟩ := row_has (HM.out.get (k := 0) rfl) (by omega)
       obtain ⟨z, hz⟩ : ∃ t, zs[j]? = some t := ⟨_, List.getElem?_eq_getElem (by omega)⟩
       have hzn := HZz.out z (List.mem_of_getElem? hz)
       have HM1 := Lib.hid (x_take hz HM.out)
       have d1 : decide ((j : Int) < i) = true := decide_eq_true (by omega)
       have hlt3 := Lib.hid (show j + 1 ≤ i from hlt)
       have HSet := Lib.hid (show zs.set j z = zs from set_same hz)
       have hjz : j < zs.length := by omega
       have HJz := Lib.hid hjz
       clear HM hz hjz
       have HM := HM1
       clear HM1
       obtain ⟨T, hT⟩ : ∃ T, outXR (zs.eraseIdx j) ++ R = T := ⟨_, rfl⟩
       rw [hT, ← HSet.out] at HM
       have HTT := Lib.hid (show outXR ((zs.set j z).eraseIdx j) ++ R = T by rw [HSet.out]; exact hT)
       have HTe := Lib.hid hT
       clear hT
       as_aux_lemma =>
       go_wp2_with fail
       go_loopw [25] (fun kv wr => ∃ (k : Nat) (y : XM), kv = .int .i64 k ∧ k ≤ 4 ∧ y.n ≤ 16 + 5 * j + k ∧ Hid (Mem W wr (.row (some b) cy 42 4 i (outX (zs.set j y)) :: y.res :: T))) (fun kv _ => 4 - (intOf kv).toNat)
       case atStart => exact ⟨0, z, rfl, by omega, by omega, by rw [HSet.out] at HM ⊢; exact HM⟩
       case round =>
        clear HM
        obtain ⟨k, y, rfl, hk, hyn, HM⟩ := hrel
        by_cases hk5 : k < 4
        ·have hget : (zs.set j y)[j]? = some y := List.getElem?_set_self HJz.out
         have HC2 := Lib.hid (x_cell hget)
         have HGr := Lib.hid (fun p c n cs => x_grow hget p c n cs)
         have hcl : j * 4 + 2 < (outX (zs.set j y)).length := by rw [x_len, List.length_set, hzl]; omega
         obtain ⟨ya, yb, yd, p0, c0, n0, cs0⟩ := y
         unfold XM.res at HM
         dsimp only at HC2 HGr HM hyn
         have d2 : decide ((k : Int) < 4) = true := decide_eq_true (by omega)
         have hk3 := Lib.hid (show k + 1 ≤ 4 from hk5)
         clear hget
         as_aux_lemma =>
         go_wp2_with (first | ((with_reducible refine iat 146 ?_); (refine ixa (i := j) rfl rfl rfl hlt ?_)) | ((with_reducible refine iat 148 ?_); (refine ldx1 (row_cell2 (HM.out.get (k := 0) rfl) HC2.out) rfl ?_)) | ((with_reducible refine iat 152 ?_); (refine ixa (i := j) rfl rfl rfl hlt ?_)) | (refine apb rfl HM.out 2 0 rfl rfl rfl rfl rfl rfl (by omega) (by omega) (by omega) ?_; intro p1 cap1 W1 HM1; replace HM := Lib.hid HM1; clear HM1; simp only [List.set] at HM) | ((with_reducible refine istore ?_); (refine strw (i := j * 4 + 2) (v := .slice p1 (n0 + 1) cap1) rfl HM.out 1 rfl (by rw [← add_add']; rfl) rfl rfl hcl ?_); intro W1 HM1; replace HM := Lib.hid HM1; clear HM1; simp only [List.set] at HM) | ((with_reducible refine skip_op ?_ ?_); exact rfl) | refine mP ?_ | (refine mS ?_; clear HM; intro W1 HM) | (refine mL ?_; clear HM; intro g1 W1 HM))
         go_roundw
         case rel =>
          obtain ⟨cs1, h9⟩ : ∃ cs1, Mem W _ (.row (some b) cy 42 4 i ((outX (zs.set j ⟨ya, yb, yd, p0, c0, n0, cs0⟩)).set (j * 4 + 2) (.slice p1 (n0 + 1) cap1)) :: .row p1 cap1 44 2 (n0 + 1) cs1 :: T) := ⟨_, HM.out.sub (.cons _ (.refl _))⟩
          rw [HGr.out _ _ _ cs1, List.set_set] at h9
          exact ⟨k + 1, ⟨ya, yb, yd, p1, cap1, n0 + 1, cs1⟩, by go_num, hk3.out, by dsimp only; omega, Lib.hid h9⟩
         case measure => have := hk3.out; simp [intOf]; omega
        ·obtain rfl : k = 4 := by omega
         as_aux_lemma =>
         go_wp2_with fail
         go_roundw
         case rel =>
          refine ⟨j + 1, zs.set j y, by go_num, hlt3.out, by rw [List.length_set]; exact hzl, Lib.hid (set_all HZz.out (by omega) (by omega)), Lib.hid (x_put HJz.out ?_)⟩
          rw [HTe.out]
          exact HM.out
         case measure => have := hlt3.out; simp [intOf]; omega
      ·obtain rfl : j = i := by omega
       have d1 : decide ((j : Int) < j) = false := by simp
       have HIw := Lib.hid (elin_own (els := ws) (p := pw) (c := cw) (n := ws.length) HM.out (.tail _ (List.mem_append_right _ (HRw.out _ (.head _)))) (fun r hr => .tail _ (List.mem_append_right _ (HRw.out _ (.tail _ hr)))))
       have HS := Lib.hid (rtsame_any pw p cw cp ws ms _ HIw.out (HI.out.mem HM.out) HDw.out (by omega) (fun m hm => Nat.le_trans (HW16.out m hm) (by decide)))
       as_aux_lemma =>
       go_wp2_with (first | (go_at_call 11; (with_reducible refine cB HM (HS.out) ?_); clear HM; intro W1 HM))
       go_ret
       exact ⟨rfl, HM.out.below⟩
end Go.Proofs.YtanncakdlflopaaGreatDoor
