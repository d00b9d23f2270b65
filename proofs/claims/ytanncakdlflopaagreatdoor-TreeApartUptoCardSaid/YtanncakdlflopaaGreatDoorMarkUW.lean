/- The law's own small functions: without, spelled; the reference's Same of equal rows. (short) The law's spelled: a piece as the grammar has it, and its events. (short) The walk over tarifflaw05.MarkSpells. (short) -/
import Derived.Test.YtanncakdlflopaaGreatDoorMarkRS
import Derived.Test.YtanncakdlflopaaGreatDoorLabJ
namespace Go.Proofs.YtanncakdlflopaaGreatDoor
open Go.RowKit
set_option linter.unusedVariables false
set_option linter.unusedSimpArgs false
set_option maxRecDepth 100000

section
variable {P : Program} {ops : Array Oper} {Q : Exit → Act → World → Prop} {a : Act} {W W' w0 : World} {rest : List Oper} {L : List Res} {C : World → Prop} {K : Act → Prop}
variable {dst : Option Tmp} {ty0 : TypeId} {pos : String} {after : Array Edge} {gd : Option (Nat × Bool)}
end

set_option maxHeartbeats 4000000 in
theorem rsattrs_any (p q : Option Addr) (c d : Nat) (l : List AtD) (w : World) (h1 : Sl w p (l.flatMap AtD.cs)) (h2 : Sl w q (l.flatMap AtD.cs)) (hl : l.length ≤ 4611686018427387904) :
  Calls Tryz.prog 25 #[.slice p l.length c, .slice q l.length d] w fun e w' => e = .returned (.bool true) ∧ Below w.heap.size w w' := by
 have HM := Lib.hid (Mem.start w)
 have H1 := Lib.hid h1
 have H2 := Lib.hid h2
 clear h1 h2
 have b0 : ((l.length : Int) != l.length) = false := by simp
 go_enter Tryz.func25, Tryz.ntmps25
 go_wp2_with fail
 go_loopw [5] (fun iv wr => ∃ i : Nat, iv = .int .i64 i ∧ i ≤ l.length ∧ Hid (Mem w wr [])) (fun iv _ => l.length - (intOf iv).toNat)
 case atStart => exact ⟨0, rfl, by omega, HM⟩
 case round =>
  clear HM
  obtain ⟨i, rfl, hi, HM⟩ := hrel
  by_cases hlt : i < l.length
  ·obtain ⟨b, rfl, hb⟩ := H1.out.some_at AtD.cs_len (by decide) hlt
   obtain ⟨b', rfl, hb'⟩ := H2.out.some_at AtD.cs_len (by decide) hlt
   obtain ⟨t, ht⟩ : ∃ t, l[i]? = some t := ⟨_, List.getElem?_eq_getElem hlt⟩
   obtain ⟨x0, x1⟩ := t
   have E1 := Lib.hid (show Cells w (b.add (i * 2)) [.string x0, .string x1] from hb.elem AtD.cs 2 AtD.cs_len ht)
   have E2 := Lib.hid (show Cells w (b'.add (i * 2)) [.string x0, .string x1] from hb'.elem AtD.cs 2 AtD.cs_len ht)
   have hlt3 := Lib.hid (show i + 1 ≤ l.length from hlt)
   have d1 : decide ((i : Int) < l.length) = true := decide_eq_true (by omega)
   clear hb hb' ht
   go_wp2_with fail
   refine wp_region_mem (by kernel_rfl) (by kernel_rfl) HM.out ?_; intro hNE; (repeat (any_goals (first | refine mQ ?_ | ((with_reducible refine qat 19 ?_); (refine qixa rfl rfl rfl hlt ?_)) | ((with_reducible refine qat 23 ?_); (refine qixa rfl rfl rfl hlt ?_)) | ((with_reducible refine qat 20 ?_); (refine qdA (vs := [.string x0, .string x1]) rfl rfl (fun W ⟨q, hq⟩ => hq ▸ q.mem.olds E1.out) ?_)) | ((with_reducible refine qat 24 ?_); (refine qdA (vs := [.string x0, .string x1]) rfl rfl (fun W ⟨q, hq⟩ => hq ▸ q.mem.olds E2.out) ?_)) | go_big_quiet_step (fail) | quiet_step (fail)))); clear hNE; refine wpQuiet_nil ?_; intro W1 HM1; replace HM := Lib.hid HM1; clear HM1
   go_wp2
   go_roundw
   case rel => exact ⟨i + 1, by go_num, hlt3.out, HM⟩
   case measure => have := hlt3.out; simp [intOf]; omega
  ·obtain rfl : i = l.length := by omega
   have d1 : decide ((l.length : Int) < l.length) = false := by simp
   go_wp2
   go_ret
   exact ⟨rfl, HM.out.below⟩

/-- Events as they lie in a world: their row and their attributes. -/
structure EvIn (w : World) (p : Option Addr) (ms : List EvM) : Prop where
 row : Sl w p (outC ms)
 at_ : ∀ m ∈ ms, Sl w m.p (m.d.l.flatMap AtD.cs) ∧ m.d.l.length ≤ 4611686018427387904

end Go.Proofs.YtanncakdlflopaaGreatDoor

namespace Go.Proofs.YtanncakdlflopaaGreatDoor
open Go.RowKit
set_option linter.unusedVariables false
set_option linter.unusedSimpArgs false
set_option maxRecDepth 100000

theorem rmname_q (s : ByteArray) (w : World) (hs : s.size ≤ 1099511627776) : Calls Tryz.prog 45 #[.string s] w fun e w' => e = .returned (.bool (nameM s)) ∧ w = w' := (rmname_any s w hs).mono (fun e w' ⟨h1, h2⟩ => ⟨h1, h2.symm⟩)
theorem Mem.boxrow {w0 W : World} {L : List Res} (h : Mem w0 W L) {k : Nat} {g j n : Nat} {e : TypeId} {cs : List Value} (hk : L[k]? = some (.box g e cs)) (hl : cs.length = n * j) (hn : n ≤ maxLen) : Mem w0 W (L.set k (.row (some ⟨g, 0, none⟩) n e j n cs)) := h.turn0 hk (box_row (h.get hk) hl hn) (fun g e => e)
def PartD.cs (p : PartD) : List Value := [.int .i64 p.k, .string p.n, .string p.v, .string p.t]
theorem PartD.cs_len (p : PartD) : p.cs.length = 4 := rfl
end Go.Proofs.YtanncakdlflopaaGreatDoor

namespace Go.Proofs.YtanncakdlflopaaGreatDoor
open Go.RowKit
set_option linter.unusedVariables false
set_option linter.unusedSimpArgs false
set_option maxRecDepth 100000

end Go.Proofs.YtanncakdlflopaaGreatDoor
