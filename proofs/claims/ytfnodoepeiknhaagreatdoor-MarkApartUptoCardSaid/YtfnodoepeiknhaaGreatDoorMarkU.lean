/- The law's own small functions: without, spelled; the reference's Same of equal rows. (short) -/
import Derived.Test.YtfnodoepeiknhaaGreatDoorMarkRS
namespace Go.Proofs.YtfnodoepeiknhaaGreatDoor
open Go.RowKit
set_option linter.unusedVariables false
set_option linter.unusedSimpArgs false
set_option maxRecDepth 100000

section
variable {P : Program} {ops : Array Oper} {Q : Exit → Act → World → Prop} {a : Act} {W W' w0 : World} {rest : List Oper} {L : List Res} {C : World → Prop} {K : Act → Prop}
variable {dst : Option Tmp} {ty0 : TypeId} {pos : String} {after : Array Edge} {gd : Option (Nat × Bool)}
theorem run_catop {t : TypeId} {x y : Operand} {s u : ByteArray} (hn : s.size + u.size ≤ 9223372036854775807) :
    (do pure (Next.value (← (do eqGuard .add t x y (.string s) (.string u); binOp .add t (.string s) (.string u)))) : Sem Next).run P W = .ok (.value (.string (s ++ u))) W := by
  have h := run_string_add_sum (P := P) W s u hn
  simp [eqGuard, binOp, h]
/-- A text put behind a text. -/
theorem qcat {t t' : TypeId} {x y : Operand} {s u : ByteArray} (hx : a.eval x = .string s) (hy : a.eval y = .string u) (hn : s.size + u.size ≤ 9223372036854775807)
    (h : ∀ v : ByteArray, v.data.toList = s.data.toList ++ u.data.toList → v.size = s.size + u.size → wpQuiet P ops C K (⟨dst, .move (.const (.string v)), ty0, pos, after, gd⟩ :: rest) a) : wpQuiet P ops C K (⟨dst, .binOp .add t x y t', ty0, pos, after, gd⟩ :: rest) a := by
  refine as_moveQ (o := ⟨dst, .binOp .add t x y t', ty0, pos, after, gd⟩) (v := .string (s ++ u)) (fun V _ => quiet_value ?_) (h (s ++ u) (by rw [ByteArray.data_append, Array.toList_append]) ByteArray.size_append)
  show (do pure (.value (← (do eqGuard .add t x y (a.eval x) (a.eval y); binOp .add t (a.eval x) (a.eval y)))) : Sem Next).run P V = _
  rw [hx, hy]
  exact run_catop hn
theorem scat {t t' : TypeId} {x y : Operand} {s u : ByteArray} (hx : a.eval x = .string s) (hy : a.eval y = .string u) (hn : s.size + u.size ≤ 9223372036854775807)
    (h : ∀ v : ByteArray, v.data.toList = s.data.toList ++ u.data.toList → v.size = s.size + u.size → wpList P ops Q (⟨dst, .move (.const (.string v)), ty0, pos, after, gd⟩ :: rest) a W) : wpList P ops Q (⟨dst, .binOp .add t x y t', ty0, pos, after, gd⟩ :: rest) a W := by
  refine as_move (o := ⟨dst, .binOp .add t x y t', ty0, pos, after, gd⟩) (v := .string (s ++ u)) ?_ (h (s ++ u) (by rw [ByteArray.data_append, Array.toList_append]) ByteArray.size_append)
  show (do pure (.value (← (do eqGuard .add t x y (a.eval x) (a.eval y); binOp .add t (a.eval x) (a.eval y)))) : Sem Next).run P W = _
  rw [hx, hy]
  exact run_catop hn
end

/-- A text without single quotes. -/
def woL (l : List UInt8) : List UInt8 := l.filter (· != 39)
theorem wo_take {l : List UInt8} {k : Nat} {c : UInt8} (h : l[k]? = some c) : woL (l.take (k + 1)) = woL (l.take k) ++ (if c = 39 then [] else [c]) := by
  unfold woL
  rw [List.take_add_one, h, List.filter_append]
  congr 1
  by_cases hc : c = 39
  · simp [hc]
  · simp [hc]
set_option maxHeartbeats 4000000 in
theorem without_any (s : ByteArray) (w : World) (hs : s.size ≤ 1099511627776) :
    Calls Tryz.prog 20 #[.string s] w fun e w' => e = .returned (.string ⟨(woL s.data.toList).toArray⟩) ∧ Below w.heap.size w w' := by
  have HM := Lib.hid (Mem.start w)
  have HM := Lib.hid (HM.out.row0 5 1)
  go_enter Tryz.func20, Tryz.ntmps20
  go_wp2_with fail
  go_loopw [3, 4] (fun ov iv wr => ∃ (k : Nat) (o : List UInt8) (p : Option Addr) (cap : Nat), ov = .slice p o.length cap ∧ iv = .int .i64 k ∧ k ≤ s.size ∧ o.length ≤ k ∧ Hid (o = woL (s.data.toList.take k)) ∧ Hid (Mem w wr [.row p cap 5 1 o.length (bC o)])) (fun _ iv _ => s.size - (intOf iv).toNat)
  case atStart => exact ⟨0, [], none, 0, rfl, rfl, by omega, by simp, Lib.hid rfl, HM⟩
  case round =>
    clear HM
    obtain ⟨k, o, p, cap, rfl, rfl, hk, hol, HO, HM⟩ := hrel
    by_cases hlt : k < s.size
    · have HAt := Lib.hid (at_byte3 hlt)
      have hO2 := wo_take (at_byte3 hlt)
      have hb1 := s[k].toNat_lt
      generalize s[k] = c at *
      by_cases h39 : c = 39
      · subst h39
        rw [if_pos rfl, List.append_nil] at hO2
        have HO2 := Lib.hid hO2
        clear hO2
        as_aux_lemma =>
        go_wp2_with (first | ((with_reducible refine iat 13 ?_); (refine six rfl rfl rfl HAt.out ?_)))
        go_roundw
        case rel => exact ⟨k + 1, o, p, cap, rfl, by go_num, by omega, by omega, Lib.hid (by rw [HO2.out, HO.out]), HM⟩
        case measure => simp [intOf]; omega
      · rw [if_neg h39] at hO2
        have HO2 := Lib.hid hO2
        have q0 : ((c.toNat : Int) == 39) = false := ne13 h39
        clear hO2 h39
        as_aux_lemma =>
        go_wp2_with (first | ((with_reducible refine iat 13 ?_); (refine six rfl rfl rfl HAt.out ?_)) | ((with_reducible refine iat 18 ?_); (refine six rfl rfl rfl HAt.out ?_)) | (refine mL ?_; clear HM; intro g1 W1 HM) | ((with_reducible refine iat 20 ?_); (refine apb rfl HM.out 1 0 rfl rfl rfl rfl rfl rfl (by omega) (by omega) (by omega) ?_; intro p1 cap1 W1 HM1; replace HM := Lib.hid HM1; clear HM1; simp only [List.set] at HM)))
        go_roundw
        case rel => exact ⟨k + 1, o ++ [c], p1, cap1, by simp, by go_num, by omega, by simp; omega, Lib.hid (by rw [HO2.out, HO.out]), Lib.hid (put_row HM.out c rfl)⟩
        case measure => simp [intOf]; omega
    · have HN := Lib.hid (show woL s.data.toList = o by rw [HO.out, List.take_of_length_le (by rw [size_list]; omega)])
      as_aux_lemma =>
      go_wp2_with (first | ((with_reducible refine iat 22 ?_); (refine cvr (l := o) (by kernel_rfl) (by kernel_rfl) (by kernel_rfl) rfl rfl (HM.out.get (k := 0) rfl) ?_)))
      go_ret
      exact ⟨by rw [HN.out]; rfl, HM.out.below⟩

set_option maxHeartbeats 4000000 in
theorem rsattrs_any (p q : Option Addr) (c d : Nat) (l : List AtD) (w : World) (h1 : Sl w p (l.flatMap AtD.cs)) (h2 : Sl w q (l.flatMap AtD.cs)) (hl : l.length ≤ 4611686018427387904) :
    Calls Tryz.prog 35 #[.slice p l.length c, .slice q l.length d] w fun e w' => e = .returned (.bool true) ∧ Below w.heap.size w w' := by
  have HM := Lib.hid (Mem.start w)
  have H1 := Lib.hid h1
  have H2 := Lib.hid h2
  clear h1 h2
  have b0 : ((l.length : Int) != l.length) = false := by simp
  go_enter Tryz.func35, Tryz.ntmps35
  go_wp2_with fail
  go_loopw [5] (fun iv wr => ∃ i : Nat, iv = .int .i64 i ∧ i ≤ l.length ∧ Hid (Mem w wr [])) (fun iv _ => l.length - (intOf iv).toNat)
  case atStart => exact ⟨0, rfl, by omega, HM⟩
  case round =>
    clear HM
    obtain ⟨i, rfl, hi, HM⟩ := hrel
    by_cases hlt : i < l.length
    · obtain ⟨b, rfl, hb⟩ := H1.out.some_at AtD.cs_len (by decide) hlt
      obtain ⟨b', rfl, hb'⟩ := H2.out.some_at AtD.cs_len (by decide) hlt
      obtain ⟨t, ht⟩ : ∃ t, l[i]? = some t := ⟨_, List.getElem?_eq_getElem hlt⟩
      obtain ⟨x0, x1⟩ := t
      have E1 := Lib.hid (show Cells w (b.add (i * 2)) [.string x0, .string x1] from hb.elem AtD.cs 2 AtD.cs_len ht)
      have E2 := Lib.hid (show Cells w (b'.add (i * 2)) [.string x0, .string x1] from hb'.elem AtD.cs 2 AtD.cs_len ht)
      have hlt3 := Lib.hid (show i + 1 ≤ l.length from hlt)
      have d1 : decide ((i : Int) < l.length) = true := decide_eq_true (by omega)
      clear hb hb' ht
      go_wp2_with fail
      refine wp_region_mem (by kernel_rfl) (by kernel_rfl) HM.out ?_; intro hNE; (repeat (any_goals (first | ((with_reducible refine qgd ?_); (with_reducible refine skip_q ?_ ?_ ?_); (exact rfl); (rotate_left; (exact (hNE.elim fun p => ⟨p.W, p, rfl⟩)))) | refine mQ ?_ | ((with_reducible refine qat 19 ?_); (refine qixa rfl rfl rfl hlt ?_)) | ((with_reducible refine qat 23 ?_); (refine qixa rfl rfl rfl hlt ?_)) | ((with_reducible refine qat 20 ?_); (refine qdA (vs := [.string x0, .string x1]) rfl rfl (fun W ⟨q, hq⟩ => hq ▸ q.mem.olds E1.out) ?_)) | ((with_reducible refine qat 24 ?_); (refine qdA (vs := [.string x0, .string x1]) rfl rfl (fun W ⟨q, hq⟩ => hq ▸ q.mem.olds E2.out) ?_)) | go_big_quiet_step (fail) | quiet_step (fail)))); clear hNE; refine wpQuiet_nil ?_; intro W1 HM1; replace HM := Lib.hid HM1; clear HM1
      go_wp2
      go_roundw
      case rel => exact ⟨i + 1, by go_num, hlt3.out, HM⟩
      case measure => have := hlt3.out; simp [intOf]; omega
    · obtain rfl : i = l.length := by omega
      have d1 : decide ((l.length : Int) < l.length) = false := by simp
      go_wp2
      go_ret
      exact ⟨rfl, HM.out.below⟩

/-- Events as they lie in a world: their row and their attributes. -/
structure EvIn (w : World) (p : Option Addr) (ms : List EvM) : Prop where
  row : Sl w p (outC ms)
  at_ : ∀ m ∈ ms, Sl w m.p (m.d.l.flatMap AtD.cs) ∧ m.d.l.length ≤ 4611686018427387904
set_option maxHeartbeats 4000000 in
theorem rsame_any (p q : Option Addr) (c d : Nat) (xs ys : List EvM) (w : World) (h1 : EvIn w p xs) (h2 : EvIn w q ys) (he : outD xs = outD ys) (hl : xs.length ≤ 4611686018427387904) :
    Calls Tryz.prog 17 #[.slice p xs.length c, .slice q ys.length d] w fun e w' => e = .returned (.bool true) ∧ Below w.heap.size w w' := by
  have hlen : xs.length = ys.length := by
    have := congrArg List.length he
    simpa [outD] using this
  rw [← hlen]
  have HM := Lib.hid (Mem.start w)
  have H1 := Lib.hid h1
  have H2 := Lib.hid h2
  have HE := Lib.hid he
  have HL := Lib.hid hlen
  clear h1 h2 he hlen
  have b0 : ((xs.length : Int) != xs.length) = false := by simp
  go_enter Tryz.func17, Tryz.ntmps17
  go_wp2_with fail
  go_loopw [5] (fun iv wr => ∃ i : Nat, iv = .int .i64 i ∧ i ≤ xs.length ∧ Hid (Mem w wr [])) (fun iv _ => xs.length - (intOf iv).toNat)
  case atStart => exact ⟨0, rfl, by omega, HM⟩
  case round =>
    clear HM
    obtain ⟨i, rfl, hi, HM⟩ := hrel
    by_cases hlt : i < xs.length
    · have hlty : i < ys.length := by rw [← HL.out]; exact hlt
      obtain ⟨x, hx⟩ : ∃ t, xs[i]? = some t := ⟨_, List.getElem?_eq_getElem hlt⟩
      obtain ⟨y, hy⟩ : ∃ t, ys[i]? = some t := ⟨_, List.getElem?_eq_getElem hlty⟩
      have hdd : x.d = y.d := by
        have := congrArg (·[i]?) HE.out
        simp only [outD, List.getElem?_map, hx, hy, Option.map_some, Option.some.injEq] at this
        exact this
      obtain ⟨b, rfl, hb⟩ := H1.out.row.some_at EvM.cs_len (by decide) hlt
      obtain ⟨b', rfl, hb'⟩ := H2.out.row.some_at EvM.cs_len (by decide) hlty
      obtain ⟨hxa, hxl⟩ := H1.out.at_ x (List.mem_of_getElem? hx)
      obtain ⟨hya, -⟩ := H2.out.at_ y (List.mem_of_getElem? hy)
      have e1 := hb.elem EvM.cs 4 EvM.cs_len hx
      have e2 := hb'.elem EvM.cs 4 EvM.cs_len hy
      clear hx hy
      obtain ⟨⟨k, n, l, t⟩, pa, ca⟩ := x
      obtain ⟨dy, pb, cb⟩ := y
      dsimp only at hdd
      subst hdd
      have E1 := Lib.hid (show Cells w (b.add (i * 4)) [.int .i64 k, .string n, .slice pa l.length ca, .string t] from e1)
      have E2 := Lib.hid (show Cells w (b'.add (i * 4)) [.int .i64 k, .string n, .slice pb l.length cb, .string t] from e2)
      have HA := Lib.hid (fun W2 (h : Mem w W2 []) => rsattrs_any pa pb ca cb l W2 (h.sl hxa) (h.sl hya) hxl)
      have hlt3 := Lib.hid (show i + 1 ≤ xs.length from hlt)
      have d1 : decide ((i : Int) < xs.length) = true := decide_eq_true (by omega)
      have b1 : ((k : Int) != k) = false := by simp
      have b2 : (n.toList == n.toList) = true := by simp
      have b3 : (t.toList == t.toList) = true := by simp
      clear hb hb' e1 e2 hxa hxl hya
      go_wp2_with fail
      refine wp_region_mem (by kernel_rfl) (by kernel_rfl) HM.out ?_; intro hNE; (repeat (any_goals (first | ((with_reducible refine qgd ?_); (with_reducible refine skip_q ?_ ?_ ?_); (exact rfl); (rotate_left; (exact (hNE.elim fun p => ⟨p.W, p, rfl⟩)))) | refine mQ ?_ | ((with_reducible show wpQuiet _ _ _ _ (Oper.mk _ (Op.call { callee := Callee.value (Operand.func 35), args := _, argTypes := _ }) _ _ _ _ :: _) _); (refine qcall HM.out (fun W hC => HA.out _ hC) Tryz.func35 rfl rfl rfl ?_)) | ((with_reducible refine qat 19 ?_); (refine qixa rfl rfl rfl hlt ?_)) | ((with_reducible refine qat 24 ?_); (refine qixa rfl rfl rfl hlt ?_)) | ((with_reducible refine qat 31 ?_); (refine qixa rfl rfl rfl hlt ?_)) | ((with_reducible refine qat 36 ?_); (refine qixa rfl rfl rfl hlt ?_)) | ((with_reducible refine qat 44 ?_); (refine qixa rfl rfl rfl hlt ?_)) | ((with_reducible refine qat 49 ?_); (refine qixa rfl rfl rfl hlt ?_)) | ((with_reducible refine qat 57 ?_); (refine qixa rfl rfl rfl hlt ?_)) | ((with_reducible refine qat 62 ?_); (refine qixa rfl rfl rfl hlt ?_)) | ((with_reducible refine qat 21 ?_); (refine qdx0 E1.out rfl rfl ?_)) | ((with_reducible refine qat 26 ?_); (refine qdx0 E2.out rfl rfl ?_)) | ((with_reducible refine qat 33 ?_); (refine qdx1 (i := 1) E1.out rfl rfl ?_)) | ((with_reducible refine qat 38 ?_); (refine qdx1 (i := 1) E2.out rfl rfl ?_)) | ((with_reducible refine qat 46 ?_); (refine qdx1 (i := 3) E1.out rfl rfl ?_)) | ((with_reducible refine qat 51 ?_); (refine qdx1 (i := 3) E2.out rfl rfl ?_)) | ((with_reducible refine qat 59 ?_); (refine qdx1 (i := 2) E1.out rfl rfl ?_)) | ((with_reducible refine qat 64 ?_); (refine qdx1 (i := 2) E2.out rfl rfl ?_)) | go_big_quiet_step (fail) | quiet_step (fail)))); clear hNE; refine wpQuiet_nil ?_; intro W1 HM1; replace HM := Lib.hid HM1; clear HM1
      go_wp2
      go_roundw
      case rel => exact ⟨i + 1, by go_num, hlt3.out, HM⟩
      case measure => have := hlt3.out; simp [intOf]; omega
    · obtain rfl : i = xs.length := by omega
      have d1 : decide ((xs.length : Int) < xs.length) = false := by simp
      go_wp2
      go_ret
      exact ⟨rfl, HM.out.below⟩
end Go.Proofs.YtfnodoepeiknhaaGreatDoor
