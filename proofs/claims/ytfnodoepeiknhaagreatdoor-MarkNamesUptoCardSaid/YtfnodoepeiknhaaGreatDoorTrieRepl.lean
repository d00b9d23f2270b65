/- Replace of the generic Replacer of "\r\n" and "\r". (short) -/
import Derived.Test.YtfnodoepeiknhaaGreatDoorTrieWrite
namespace Go.Proofs.YtfnodoepeiknhaaGreatDoor
open Go.RowKit
set_option linter.unusedVariables false
set_option linter.unusedSimpArgs false
set_option maxRecDepth 100000

section
variable {P : Program} {ops : Array Oper} {Q : Exit → Act → World → Prop} {a : Act} {W W' w0 : World} {rest : List Oper} {L : List Res}
variable {dst : Option Tmp} {ty0 : TypeId} {pos : String} {after : Array Edge} {gd : Option (Nat × Bool)}
theorem row0_of {B g : Nat} {e : TypeId} {k n : Nat} {cs : List Value} (hl : cs.length = k) (h : (Res.box g e (List.replicate n cs).flatten).holds B W) (hn : n ≤ maxLen) : (Res.row (some ⟨g, 0, none⟩) n e k 0 []).holds B W :=
  ⟨by simp, .inr ⟨g, n, _, rfl, h.1, h.2, Nat.zero_le _, hn, by simp [hl], by simp⟩⟩
/-- A row made with room, nothing in it. -/
theorem mkrow0 {t e : TypeId} {k bytes : Nat} {z : Value} [hR : RowT P t e k bytes z] {x y : Operand} {d d' : Int} {n : Nat} (hw : Region.wanted ⟨dst, .makeSlice t x y, ty0, pos, after, gd⟩ (yielded ops a.tmps) = true) (HM : Mem w0 W L)
    (hx : a.eval x = .int .i64 d) (hy : a.eval y = .int .i64 d') (hd : d = 0) (hd' : d' = (n : Int)) (hn : bytes * n ≤ 140737488355328) (hm : n ≤ maxLen)
    (h : ∀ g W', Mem w0 W' (.row (some ⟨g, 0, none⟩) n e k 0 [] :: L) → wpList P ops Q (⟨dst, .move (.const (.slice (some ⟨g, 0, none⟩) 0 n)), ty0, pos, after, gd⟩ :: rest) a W') : wpList P ops Q (⟨dst, .makeSlice t x y, ty0, pos, after, gd⟩ :: rest) a W :=
  mkcap (cs := z.cells.toList) hw HM hx hy hd hd' (by simp) hn (by unfold maxLen at hm; omega) fun g W1 h1 =>
    h g W1 (h1.turn0 (k := 0) rfl (row0_of (by rw [Array.length_toList]; exact hR.zero) (h1.get (k := 0) rfl) hm) (fun g' e => e))
/-- A text of bytes in a row of the call's own, the empty one too. -/
theorem cvr {src tgt e : TypeId} {x : Operand} {p : Option Addr} {n cap : Nat} {l : List UInt8} {B : Nat} (hs : P.underlying src = some (.slice e)) (he : P.underlying e = some (.int .u8)) (hd : P.underlying tgt = some .string) (hx : a.eval x = .slice p n cap) (hn : n = l.length) (hr : (Res.row p cap e 1 n (bC l)).holds B W)
    (h : wpList P ops Q (⟨dst, .move (.const (.string ⟨l.toArray⟩)), ty0, pos, after, gd⟩ :: rest) a W) : wpList P ops Q (⟨dst, .convert src tgt x, ty0, pos, after, gd⟩ :: rest) a W := by
  cases p with
  | some b =>
    obtain ⟨h1, h2, h3⟩ := row_cells hr 0
    have hb : (⟨b.block, 0, none⟩ : Addr) = b := by cases b; simp_all
    rw [hb, List.drop_zero] at h3
    subst hn
    refine as_move (o := ⟨dst, .convert src tgt x, ty0, pos, after, gd⟩) ?_ h
    have hr2 := run_convert_bytes_back (P := P) W src tgt e b cap l hs he hd (fun j hj => h3 j _ (by simp [bC, List.getElem?_eq_getElem hj]))
    simp only [execOp, hx, Sem.run_bind, hr2, Result.andThen_ok]
    rfl
  | none =>
    have h0 : n = 0 := by
      obtain ⟨_, ⟨_, h0⟩ | ⟨g, cap', cur, hv, _⟩⟩ := (hr : W.ownsRow _ _ _ _ _ _)
      · exact h0
      · cases hv
    subst h0
    obtain rfl : l = [] := List.eq_nil_of_length_eq_zero hn.symm
    refine as_move (o := ⟨dst, .convert src tgt x, ty0, pos, after, gd⟩) ?_ h
    have hr2 := run_convert_bytes_nil (P := P) (w := W) src e hs he 0 cap tgt hd
    simp only [execOp, hx, Sem.run_bind, hr2, Result.andThen_ok]
    rfl
end

set_option maxHeartbeats 4000000 in
theorem grepl_any (R T n m : Nat) (s : ByteArray) (w : World) (h : TrieAt w R T n m) (hs : s.size ≤ 1099511627776) :
    Calls Tryz.prog 185 #[.pointer (some ⟨R, 0, none⟩), .string s] w fun e w' => e = .returned (.string ⟨(nlL s.data.toList).toArray⟩) ∧ Below w.heap.size w w' := by
  have HM := Lib.hid (Mem.start w)
  have HT := Lib.hid h
  clear h
  go_enter Tryz.func185, Tryz.ntmps185
  go_wp2_with (first | ((with_reducible refine iat 8 ?_); (refine mkrow0 (n := s.size) rfl HM.out rfl rfl rfl rfl (by omega) (by unfold maxLen; omega) ?_; intro g8 W1 HM1; replace HM := Lib.hid HM1; clear HM1)) | refine mP ?_ | (refine mS ?_; clear HM; intro W1 HM) | (refine hal (dst := some 5) HM rfl ?_; clear HM; intro g5 W1 HM))
  go_wp2_with (first | (go_at_call 186; (refine (gwrite_any R T n m g5 s.size _ s w _ HT.out HM.out hs).mono ?_); rintro e W2 ⟨v, p', cap', rfl, hM2⟩; clear HM; (try clear W1); rename World => W1; have HM := Lib.hid hM2; clear hM2) | ((with_reducible refine iat 14 ?_); (refine cvr (l := nlL s.data.toList) (by kernel_rfl) (by kernel_rfl) (by kernel_rfl) rfl rfl (HM.out.get (k := 1) rfl) ?_)) | refine mP ?_ | (refine mS ?_; clear HM; intro W1 HM) | (refine hal HM rfl ?_; clear HM; intro g1 W1 HM))
  go_ret
  exact ⟨rfl, HM.out.below⟩
end Go.Proofs.YtfnodoepeiknhaaGreatDoor
