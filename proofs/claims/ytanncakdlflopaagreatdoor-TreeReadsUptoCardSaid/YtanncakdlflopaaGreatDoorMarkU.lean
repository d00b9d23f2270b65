/- The law's own small functions: without, spelled; the reference's Same of equal rows. (short) -/
import Derived.Test.YtanncakdlflopaaGreatDoorMarkRS
namespace Go.Proofs.YtanncakdlflopaaGreatDoor
open Go.RowKit
set_option linter.unusedVariables false
set_option linter.unusedSimpArgs false
set_option maxRecDepth 100000

section
variable {P : Program} {ops : Array Oper} {Q : Exit → Act → World → Prop} {a : Act} {W W' w0 : World} {rest : List Oper} {L : List Res} {C : World → Prop} {K : Act → Prop}
variable {dst : Option Tmp} {ty0 : TypeId} {pos : String} {after : Array Edge} {gd : Option (Nat × Bool)}
theorem run_catop {t : TypeId} {x y : Operand} {s u : ByteArray} (hn : s.size + u.size ≤ 9223372036854775807) :
    (do pure (Next.value (← (do eqGuard .add t x y (.string s) (.string u); binOp .add t (.string s) (.string u)))) : Sem Next).run P W = .ok (.value (.string (s ++ u))) W := by
  have h := run_string_add_sum (P := P) W s u hn
  simp [eqGuard, binOp, h]
/-- A text put behind a text. -/
theorem qcat {t t' : TypeId} {x y : Operand} {s u : ByteArray} (hx : a.eval x = .string s) (hy : a.eval y = .string u) (hn : s.size + u.size ≤ 9223372036854775807)
    (h : ∀ v : ByteArray, v.data.toList = s.data.toList ++ u.data.toList → v.size = s.size + u.size → wpQuiet P ops C K (⟨dst, .move (.const (.string v)), ty0, pos, after, gd⟩ :: rest) a) : wpQuiet P ops C K (⟨dst, .binOp .add t x y t', ty0, pos, after, gd⟩ :: rest) a := by
  refine as_moveQ (o := ⟨dst, .binOp .add t x y t', ty0, pos, after, gd⟩) (v := .string (s ++ u)) (fun V _ => quiet_value ?_) (h (s ++ u) (by rw [ByteArray.data_append, Array.toList_append]) ByteArray.size_append)
  show (do pure (.value (← (do eqGuard .add t x y (a.eval x) (a.eval y); binOp .add t (a.eval x) (a.eval y)))) : Sem Next).run P V = _
  rw [hx, hy]
  exact run_catop hn
theorem scat {t t' : TypeId} {x y : Operand} {s u : ByteArray} (hx : a.eval x = .string s) (hy : a.eval y = .string u) (hn : s.size + u.size ≤ 9223372036854775807)
    (h : ∀ v : ByteArray, v.data.toList = s.data.toList ++ u.data.toList → v.size = s.size + u.size → wpList P ops Q (⟨dst, .move (.const (.string v)), ty0, pos, after, gd⟩ :: rest) a W) : wpList P ops Q (⟨dst, .binOp .add t x y t', ty0, pos, after, gd⟩ :: rest) a W := by
  refine as_move (o := ⟨dst, .binOp .add t x y t', ty0, pos, after, gd⟩) (v := .string (s ++ u)) ?_ (h (s ++ u) (by rw [ByteArray.data_append, Array.toList_append]) ByteArray.size_append)
  show (do pure (.value (← (do eqGuard .add t x y (a.eval x) (a.eval y); binOp .add t (a.eval x) (a.eval y)))) : Sem Next).run P W = _
  rw [hx, hy]
  exact run_catop hn
end

set_option maxHeartbeats 4000000 in
theorem rsattrs_any (p q : Option Addr) (c d : Nat) (l : List AtD) (w : World) (h1 : Sl w p (l.flatMap AtD.cs)) (h2 : Sl w q (l.flatMap AtD.cs)) (hl : l.length ≤ 4611686018427387904) :
    Calls Tryz.prog 25 #[.slice p l.length c, .slice q l.length d] w fun e w' => e = .returned (.bool true) ∧ Below w.heap.size w w' := by
  have HM := Lib.hid (Mem.start w)
  have H1 := Lib.hid h1
  have H2 := Lib.hid h2
  clear h1 h2
  have b0 : ((l.length : Int) != l.length) = false := by simp
  go_enter Tryz.func25, Tryz.ntmps25
  go_wp2_with fail
  go_loopw [5] (fun iv wr => ∃ i : Nat, iv = .int .i64 i ∧ i ≤ l.length ∧ Hid (Mem w wr [])) (fun iv _ => l.length - (intOf iv).toNat)
  case atStart => exact ⟨0, rfl, by omega, HM⟩
  case round =>
    clear HM
    obtain ⟨i, rfl, hi, HM⟩ := hrel
    by_cases hlt : i < l.length
    · obtain ⟨b, rfl, hb⟩ := H1.out.some_at AtD.cs_len (by decide) hlt
      obtain ⟨b', rfl, hb'⟩ := H2.out.some_at AtD.cs_len (by decide) hlt
      obtain ⟨t, ht⟩ : ∃ t, l[i]? = some t := ⟨_, List.getElem?_eq_getElem hlt⟩
      obtain ⟨x0, x1⟩ := t
      have E1 := Lib.hid (show Cells w (b.add (i * 2)) [.string x0, .string x1] from hb.elem AtD.cs 2 AtD.cs_len ht)
      have E2 := Lib.hid (show Cells w (b'.add (i * 2)) [.string x0, .string x1] from hb'.elem AtD.cs 2 AtD.cs_len ht)
      have hlt3 := Lib.hid (show i + 1 ≤ l.length from hlt)
      have d1 : decide ((i : Int) < l.length) = true := decide_eq_true (by omega)
      clear hb hb' ht
      go_wp2_with fail
      refine wp_region_mem (by kernel_rfl) (by kernel_rfl) HM.out ?_; intro hNE; (repeat (any_goals (first | ((with_reducible refine qgd ?_); (with_reducible refine skip_q ?_ ?_ ?_); (exact rfl); (rotate_left; (exact (hNE.elim fun p => ⟨p.W, p, rfl⟩)))) | refine mQ ?_ | ((with_reducible refine qat 19 ?_); (refine qixa rfl rfl rfl hlt ?_)) | ((with_reducible refine qat 23 ?_); (refine qixa rfl rfl rfl hlt ?_)) | ((with_reducible refine qat 20 ?_); (refine qdA (vs := [.string x0, .string x1]) rfl rfl (fun W ⟨q, hq⟩ => hq ▸ q.mem.olds E1.out) ?_)) | ((with_reducible refine qat 24 ?_); (refine qdA (vs := [.string x0, .string x1]) rfl rfl (fun W ⟨q, hq⟩ => hq ▸ q.mem.olds E2.out) ?_)) | go_big_quiet_step (fail) | quiet_step (fail)))); clear hNE; refine wpQuiet_nil ?_; intro W1 HM1; replace HM := Lib.hid HM1; clear HM1
      go_wp2
      go_roundw
      case rel => exact ⟨i + 1, by go_num, hlt3.out, HM⟩
      case measure => have := hlt3.out; simp [intOf]; omega
    · obtain rfl : i = l.length := by omega
      have d1 : decide ((l.length : Int) < l.length) = false := by simp
      go_wp2
      go_ret
      exact ⟨rfl, HM.out.below⟩

/-- Events as they lie in a world: their row and their attributes. -/
structure EvIn (w : World) (p : Option Addr) (ms : List EvM) : Prop where
  row : Sl w p (outC ms)
  at_ : ∀ m ∈ ms, Sl w m.p (m.d.l.flatMap AtD.cs) ∧ m.d.l.length ≤ 4611686018427387904

end Go.Proofs.YtanncakdlflopaaGreatDoor
