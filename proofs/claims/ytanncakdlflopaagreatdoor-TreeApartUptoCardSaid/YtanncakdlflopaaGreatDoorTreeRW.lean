/- The reference's DocWrite on any list of elements. (short) Elements as they come in, small enough to be written. The walk over TreeWrites. (short) -/
import Derived.Test.YtanncakdlflopaaGreatDoorTreeWC
import Derived.Test.YtanncakdlflopaaGreatDoorTreeHI
import Derived.Test.YtanncakdlflopaaGreatDoorTreeWA
import Derived.Test.YtanncakdlflopaaGreatDoorTreeWB
namespace Go.Proofs.YtanncakdlflopaaGreatDoor
open Go.RowKit
set_option linter.unusedVariables false
set_option linter.unusedSimpArgs false
set_option maxRecDepth 100000

section
variable {P : Program} {ops : Array Oper} {Q : Exit → Act → World → Prop} {a : Act} {W W' w0 : World} {rest : List Oper} {L : List Res}
variable {dst : Option Tmp} {ty0 : TypeId} {pos : String} {after : Array Edge} {gd : Option (Nat × Bool)}
/-- An append of a text to a row of bytes. -/
theorem apB {t u e : TypeId} [hR : RowT P t e 1 1 (.int .u8 0)] {s x : Operand} {p : Option Addr} {cap : Nat} {out out' : List UInt8} {str : ByteArray} (hw : Region.wanted ⟨dst, .call { callee := .builtin .append, args := #[s, x], argTypes := #[t, u] }, ty0, pos, after, gd⟩ (yielded ops a.tmps) = true)
  (hu : P.underlying u = some .string) (HM : Mem w0 W L) (j : Nat) (hj : L[j]? = some (.row p cap e 1 out.length (bC out))) (hs : a.eval s = .slice p out.length cap) (hx : a.eval x = .string str) (h47 : out.length + str.size ≤ 140737488355328) (ho : out ++ str.data.toList = out')
  (h : ∀ p' cap' W', Mem w0 W' (L.set j (.row p' cap' e 1 out'.length (bC out'))) → wpList P ops Q (⟨dst, .move (.const (.slice p' out'.length cap')), ty0, pos, after, gd⟩ :: rest) a W') :
  wpList P ops Q (⟨dst, .call { callee := .builtin .append, args := #[s, x], argTypes := #[t, u] }, ty0, pos, after, gd⟩ :: rest) a W := by
 subst ho
 refine aps hw hu HM j hj hs hx h47 (fun p' cap' W' hM => ?_)
 have := h p' cap' W' (by rw [List.length_append, size_list, bC_append]; exact hM)
 rwa [List.length_append, size_list] at this
/-- An append of a text to a full row of others. -/
theorem apF {t u e : TypeId} [hR : RowT P t e 1 1 (.int .u8 0)] {s x : Operand} {g cap : Nat} {out out' : List UInt8} {str : ByteArray} (hw : Region.wanted ⟨dst, .call { callee := .builtin .append, args := #[s, x], argTypes := #[t, u] }, ty0, pos, after, gd⟩ (yielded ops a.tmps) = true)
  (hu : P.underlying u = some .string) (HM : Mem w0 W L) (hv : Cells W ⟨g, 0, none⟩ (bC out)) (hs : a.eval s = .slice (some ⟨g, 0, none⟩) out.length cap) (hx : a.eval x = .string str) (hc : cap ≤ out.length) (h0 : 0 < str.size) (h47 : out.length + str.size ≤ 140737488355328) (ho : out ++ str.data.toList = out')
  (h : ∀ p' cap' W', Mem w0 W' (.row p' cap' e 1 out'.length (bC out') :: L) → wpList P ops Q (⟨dst, .move (.const (.slice p' out'.length cap')), ty0, pos, after, gd⟩ :: rest) a W') :
  wpList P ops Q (⟨dst, .call { callee := .builtin .append, args := #[s, x], argTypes := #[t, u] }, ty0, pos, after, gd⟩ :: rest) a W := by
 subst ho
 obtain ⟨i, hi, hz, hsz, hby⟩ := rowT_parts hR
 have hxl : (bC out).length = out.length := by simp [bC, Lib.byteCells]
 have h63 : out.length + str.size ≤ maxLen := by unfold maxLen; omega
 have hr := Lib.run_append_grow_string (P := P) W t u ty0 e i (.int .u8 0) hR.under hu hi hz ⟨g, 0, none⟩ out.length cap (bC out) (by rw [hsz]; simpa using hxl) hv str (by omega) (by omega) (by rw [hby]; exact growslice_fits (by omega) (by omega))
 have hge := grownCap_ge W (out.length + str.size) cap e
 have hcm : grownCap W (out.length + str.size) cap e ≤ maxLen := grownCap_le_maxLen W (out.length + str.size) cap e h63
 have hlen : (bC out ++ Lib.strCells str).length = (out.length + str.size) * 1 := by rw [List.length_append, hxl, Lib.strCells_length, Nat.mul_one]
 have hM : Mem w0 (W.drew.alloc (.cells ((bC out).toArray ++ (Lib.strCells str).toArray ++ Builtin.zeroCells (Value.int .u8 0).cells (grownCap W (out.length + str.size) cap e - (out.length + str.size))) e)) (.row (some ⟨W.heap.size, 0, none⟩) (grownCap W (out.length + str.size) cap e) e 1 (out.length + str.size) (bC out ++ Lib.strCells str) :: L) := by
  refine HM.add ⟨rfl, rfl, rfl, by simp, fun k hk _ => Lib.alloc_old W.drew _ k hk⟩ ⟨hlen, .inr ⟨W.heap.size, _, _, rfl, HM.below.size, heap_alloc_new W.drew _, hge, hcm, ?_, ?_⟩⟩ (fun g e => Nat.le_of_eq (Option.some.inj e))
  ·have hz1 : (Value.int IntKind.u8 0).cells.size = 1 := rfl
   simp only [Array.size_append, List.size_toArray, size_zeroCells, hz1, hxl, Lib.strCells_length]
   omega
  ·simp only [Array.toList_append, List.append_assoc]
   rw [← List.append_assoc, ← hlen]
   exact List.take_left
 refine as_moveW (o := ⟨dst, .call { callee := .builtin .append, args := #[s, x], argTypes := #[t, u] }, ty0, pos, after, gd⟩) hw ?_ (h _ _ _ (by rw [List.length_append, size_list, bC_append]; exact hM))
 rw [List.length_append, size_list]
 simp only [execOp, resolve, invoke, builtin, Sem.run_bind, Sem.run_pure, Result.andThen_ok, List.map_toArray, List.map_cons, List.map_nil, hs, hx, hr]
end
theorem mark_cells (w : World) (C : List Value) (e : TypeId) (z : Nat × Nat) : Cells (w.alloc (.cells C.toArray e z)) ⟨w.heap.size, 0, none⟩ C := by
 intro j u hj
 rw [add_none, Nat.zero_add]
 simp only [World.cell?, World.alloc]
 simpa using hj
theorem pop_memN {w0 W : World} {p : Option Addr} {c k nl : Nat} {q : List Nat} {cs : List Value} {L : List Res} {a : Res} (hn : nl = (k :: q).length) (hc : cs = intC (k :: q).reverse) (h : Mem w0 W (a :: .row p c 3 1 nl cs :: L)) : Mem w0 W (a :: .row p c 3 1 q.length (intC q.reverse) :: L) := by
 subst hn hc
 have := h.trunc (k := 1) rfl (m := q.length) (by simp)
 rw [pop_take] at this
 exact this
theorem push_memN {w0 W : World} {p : Option Addr} {c i nl : Nat} {o : List Nat} {cs : List Value} {L : List Res} {a : Res} (hn : nl = o.length) (hc : cs = intC o.reverse) (h : Mem w0 W (a :: .row p c 3 1 (nl + 1) (cs.take (nl * 1) ++ [.int .i64 (i : Nat)]) :: L)) : Mem w0 W (a :: .row p c 3 1 (nl + 1) (intC (i :: o).reverse) :: L) := by
 subst hn hc
 rw [push_row] at h
 exact h
theorem seq_elem {l : List ElD} {i : Nat} {o : List Nat} {e : ElD} (he : l[i]? = some e) (h : o = [] ∨ ∃ k q, o = k :: q ∧ ((k : Nat) : Int) = e.up) : seqW l (l.drop i) i o = padL o.length ++ (headL e ++ (tailL l i e ++ seqW l (l.drop (i + 1)) (i + 1) (i :: o))) := by
 rcases h with rfl | ⟨k, q, rfl, h⟩
 ·exact seq_root he
 ·exact seq_push he h
theorem esc_nil {a : Bool} {l : List UInt8} : escT a l = [] ↔ l = [] := by
 constructor
 ·intro h
  have := esc_back a l
  rw [plain_esc, h, unes_nil] at this
  exact (Option.some.inj this).symm
 ·rintro rfl
  rw [escT_map]; rfl
theorem inv_out {out : List UInt8} {X D : List UInt8} (h : out ++ X = D) (hD : D.length ≤ 17000000000000) : out.length + X.length ≤ 17000000000000 := by
 have := congrArg List.length h
 rw [List.length_append] at this
 omega
theorem back_bytes {w0 W : World} {p : Option Addr} {c : Nat} {out : List UInt8} {L : List Res} (h : Mem w0 W (.row p c 5 1 out.length (bC out) :: L)) (ho : 0 < out.length) : (convert 62 9 (.slice p out.length c)).run Tryz.prog W = .ok (.string ⟨out.toArray⟩) W := by
 have h1 := h.get (k := 0) rfl
 obtain ⟨g, rfl⟩ := row_some h1 ho
 exact run_convert_bytes_back (P := Tryz.prog) W 62 9 5 ⟨g, 0, none⟩ c out Tryz.underlying62 Tryz.underlying5 Tryz.underlying9 (fun j hj => (row_cells h1 0).2.2 j _ (by simp [bC, Lib.byteCells, hj]))

set_option maxHeartbeats 32000000 in
theorem rwrite_any (p : Option Addr) (cp : Nat) (ms : List ElM) (W : World) (h : ElIn W p ms) (hz : ∀ m ∈ ms, szW m.d) :
  Calls Tryz.prog 16 #[.slice p ms.length cp] W fun e w' => e = .returned (.tuple #[.string (writeT (elD ms)).1, .int .i64 (writeT (elD ms)).2]) ∧ Below W.heap.size W w' := by
 have HM := Lib.hid (Mem.start W)
 have HI := Lib.hid h
 have HC := Lib.hid (rcheck_any p cp ms W h (fun m hm => szW_ok (hz m hm)))
 by_cases hck : checkT (elD ms) = 0
 ·rw [hck] at HC
  have hln : (elD ms).length = ms.length := List.length_map ..
  obtain ⟨hl0, hl2, -⟩ := checkT_parts hck
  rw [hln] at hl0 hl2
  have HZs := Lib.hid hz
  have HCk := Lib.hid hck
  have HDl := Lib.hid (docL_len hck (fun x hx => by obtain ⟨m, hm, rfl⟩ := List.mem_map.1 hx; exact hz m hm))
  obtain ⟨x0, hx0⟩ : ∃ x, ms[0]? = some x := ⟨_, List.getElem?_eq_getElem (by omega)⟩
  have hx0d := elD_get hx0
  have hu0 := (checkT_all hck 0 _ hx0d).2.1 rfl
  have HH1 := Lib.hid (hasN_one hx0d hu0)
  obtain ⟨b, hpb, hb⟩ := h.row.some_at ElM.cs_len (by decide) hl0
  subst hpb
  have HCb := Lib.hid hb
  clear h hz hck hx0 hx0d hu0 hb
  go_enter Tryz.func16, Tryz.ntmps16
  go_wp2_with (first | (go_at_call 13; (with_reducible refine cB HM (HC.out) ?_); clear HM; intro W1 HM) | (refine mks (n := ms.length) rfl HM.out rfl rfl rfl rfl rfl (by omega) (by omega) ?_; intro gd W1 HM1; replace HM := Lib.hid HM1; clear HM1) | ((with_reducible refine skip_op ?_ ?_); exact rfl) | refine mP ?_ | (refine mS ?_; clear HM; intro W1 HM) | (refine mL ?_; clear HM; intro g1 W1 HM))
  have HM1 := HM.out
  rw [← boC_rep, ← hln, ← HH1.out, hln] at HM1
  have HM := Lib.hid HM1
  clear HM1 HH1 HC
  go_loopw [6] (fun iv wr => ∃ k : Nat, iv = .int .i64 k ∧ 1 ≤ k ∧ k ≤ ms.length ∧ Hid (Mem W wr [.row (some ⟨gd, 0, none⟩) ms.length 4 1 ms.length (boC (hasN (elD ms) k))])) (fun iv _ => ms.length - (intOf iv).toNat)
  case atStart => exact ⟨1, rfl, by omega, by omega, HM⟩
  case round =>
   clear HM
   obtain ⟨k, rfl, hk1, hk, HM⟩ := hrel
   by_cases hlt : k < ms.length
   ·obtain ⟨x, hx⟩ : ∃ x, ms[k]? = some x := ⟨_, List.getElem?_eq_getElem (by omega)⟩
    have he := elD_get hx
    obtain ⟨-, -, hup⟩ := checkT_all HCk.out k x.d he
    obtain ⟨hu1, hu2⟩ := hup (by omega)
    obtain ⟨u, hu⟩ : ∃ u : Nat, x.d.up = (u : Int) := ⟨x.d.up.toNat, by omega⟩
    have hul : u < ms.length := by omega
    have HS := Lib.hid (hasN_step he hu)
    have e1 := HCb.out.elem ElM.cs 4 ElM.cs_len hx
    obtain ⟨⟨xn, xu, xl, xt⟩, pa, ca⟩ := x
    dsimp only at hu
    subst hu
    have E1 := Lib.hid (show Cells W (b.add (k * 4)) [.string xn, .int .i64 u, .slice pa xl.length ca, .string xt] from e1)
    have d1 : decide ((k : Int) < ms.length) = true := decide_eq_true (by omega)
    have hlt3 := Lib.hid (show k + 1 ≤ ms.length from hlt)
    clear hx he e1 hu1 hu2 hup
    as_aux_lemma =>
    go_wp2_with (first | ((with_reducible refine iat 30 ?_); (refine ixa (i := k) rfl rfl rfl hlt ?_)) | ((with_reducible refine iat 32 ?_); (refine ldx1 (HM.out.olds E1.out 1 _ rfl) rfl ?_)) | ((with_reducible refine iat 33 ?_); (refine ixa (i := u) rfl rfl rfl hul ?_)) | ((with_reducible refine istore ?_); (refine strw (i := u * 1) (v := .bool true) rfl HM.out 0 rfl rfl rfl rfl (by rw [boC_len, hasN_len]; omega) ?_); intro W1 HM1; replace HM := Lib.hid HM1; clear HM1; simp only [List.set, Nat.mul_one] at HM))
    rw [boC_set, HS.out] at HM
    go_wp2_with fail
    go_roundw
    case rel => exact ⟨k + 1, by go_num, by omega, hlt3.out, HM⟩
    case measure => have := hlt3.out; simp [intOf]; omega
   ·obtain rfl : k = ms.length := by omega
    have d1 : decide ((ms.length : Int) < ms.length) = false := by simp
    have HM1 := HM.out
    rw [hasN_all (by omega)] at HM1
    obtain ⟨hs, hhs⟩ : ∃ x, boC (hasL (elD ms)) = x := ⟨_, rfl⟩
    have HHs := Lib.hid (show ∀ j, j < ms.length → hs[j * 1]? = some (.bool (hasK (elD ms) j)) from fun j hj => by rw [← hhs]; exact bo_cell (hasL_at (by omega)))
    rw [hhs] at HM1
    clear HM hhs
    have HM := Lib.hid HM1
    clear HM1
    have HHc := Lib.hid (show Cells wr ⟨gd, 0, none⟩ hs from by have := (row_cells (HM.out.get (k := 0) rfl) 0).2.2; simpa using this)
    have hcv := fun (w : World) (C : Array Value) (n c : Nat) => Lib.run_convert_bytes_const (P := Tryz.prog) w 62 5 C n c Tryz.underlying62 Tryz.underlying5
    go_wp2_with fail
    clear hcv
    obtain ⟨w1, hw1⟩ : ∃ x, x = wr.alloc (.cells (bC proL).toArray 5 (39, 40)) := ⟨_, rfl⟩
    obtain ⟨g34, hg34⟩ : ∃ x, x = wr.heap.size := ⟨_, rfl⟩
    have HC1 := Lib.hid (show Cells w1 ⟨g34, 0, none⟩ (bC proL) by rw [hw1, hg34]; exact mark_cells wr (bC proL) _ _)
    have HB1 := Lib.hid (show Mem W w1 [.row (some ⟨gd, 0, none⟩) ms.length 4 1 ms.length hs] by rw [hw1]; exact HM.out.next ((Below.refl _ _).alloc (Nat.le_refl _) _))
    have HHc1 := Lib.hid (show Cells w1 ⟨gd, 0, none⟩ hs by have := (row_cells (HB1.out.get (k := 0) rfl) 0).2.2; simpa using this)
    have HM0 := Lib.hid ((Mem.start w1).row0 3 1)
    clear HM HHc
    go_loopw [7, 8, 9] (fun ov pv iv wr => ∃ (i nl : Nat) (out : List UInt8) (o : List Nat) (cs : List Value) (po pp : Option Addr) (co cq : Nat), ov = .slice po out.length co ∧ pv = .slice pp nl cq ∧ iv = .int .i64 i ∧ i ≤ ms.length ∧ nl ≤ i ∧ 39 ≤ out.length ∧ Hid (nl = o.length) ∧ Hid (cs = intC o.reverse) ∧ Hid (out ++ seqW (elD ms) ((elD ms).drop i) i o = docL (elD ms)) ∧ Hid (∀ x ∈ o, x < i) ∧
     ((Hid (i = 0 ∧ o = [] ∧ out = proL) ∧ po = some ⟨g34, 0, none⟩ ∧ co = out.length ∧ Hid (Mem w1 wr [.row pp cq 3 1 nl cs])) ∨ Hid (Mem w1 wr [.row po co 5 1 out.length (bC out), .row pp cq 3 1 nl cs]))) (fun _ _ iv _ => ms.length - (intOf iv).toNat)
    case atStart => exact ⟨0, 0, proL, [], [], _, none, _, 0, rfl, rfl, rfl, by omega, by omega, by decide, Lib.hid rfl, Lib.hid rfl, Lib.hid rfl, Lib.hid (by intro x hx; cases hx), .inl ⟨Lib.hid ⟨rfl, rfl, rfl⟩, by rw [hg34], rfl, Lib.hid (by have h9 := HM0.out; rw [hw1] at h9 ⊢; exact h9)⟩⟩
    case round =>
     clear HM0 hw1 hg34
     obtain ⟨i, nl, out, o, cs, po, pp, co, cq, rfl, rfl, rfl, hi, hnl, h39, HNl, HCs, HV, HO, hcase⟩ := hrel
     have d1 : decide ((i : Int) ≤ ms.length) = true := decide_eq_true (by omega)
     rcases hcase with ⟨H0, rfl, rfl, HM⟩ | HM
     ·have hin : i < ms.length := by rw [H0.out.1]; exact hl0
      obtain rfl : o = [] := H0.out.2.1
      have hout : out = proL := H0.out.2.2
      have HC2 := Lib.hid (show Cells w1 ⟨g34, 0, none⟩ (bC out) by rw [hout]; exact HC1.out)
      have h392 : out.length ≤ 39 := by rw [hout]; decide
      have d2 : decide ((out.length : Int) ≤ 300000) = true := decide_eq_true (by omega)
      have hol := inv_out HV.out HDl.out
      clear H0 hout
      obtain ⟨x, hx⟩ : ∃ x, ms[i]? = some x := ⟨_, List.getElem?_eq_getElem hin⟩
      have he := elD_get hx
      have e1 := HCb.out.elem ElM.cs 4 ElM.cs_len hx
      obtain ⟨hxa, -⟩ := HI.out.at_ x (List.mem_of_getElem? hx)
      have hsz := HZs.out x (List.mem_of_getElem? hx)
      obtain ⟨hrt, -, -⟩ := checkT_all HCk.out i x.d he
      obtain ⟨⟨n, up, l, t⟩, pa, ca⟩ := x
      dsimp only at hxa he hsz hrt
      have E1 := Lib.hid (HB1.out.olds (show Cells W (b.add (i * 4)) [.string n, .int .i64 up, .slice pa l.length ca, .string t] from e1))
      have HE := Lib.hid he
      have HHd := Lib.hid (fun (W2 : World) (L2 : List Res) (h : Mem w1 W2 L2) => rhead_any n t up l pa ca W2 (h.sl (HB1.out.sl hxa)) hsz hrt)
      have HSz := Lib.hid hsz
      have HRt := Lib.hid hrt
      have bn : ((i : Int) == ms.length) = false := by simpa using (by omega : ¬ (i : Int) = ms.length)
      clear hx e1 hxa he hsz hrt
      have hn0 : nl ≤ 0 := by rw [HNl.out]; exact Nat.le_refl _
      have dn : decide ((0 : Int) < nl) = false := decide_eq_false (by omega)
      have dm : decide (0 < nl) = false := decide_eq_false (by omega)
      have HSq := Lib.hid (seq_elem HE.out (.inl rfl))
      go_wp2_with fail
      go_loopw [7, 8] (fun ov pv wr => ov = .slice (some ⟨g34, 0, none⟩) out.length out.length ∧ pv = .slice pp nl cq ∧ Hid (Mem w1 wr [.row pp cq 3 1 nl cs])) (fun _ _ _ => 0)
      case atStart => exact ⟨rfl, rfl, HM⟩
      case round =>
       clear HM
       obtain ⟨rfl, rfl, HM⟩ := hrel
       have hhl := headL_len HSz.out (right_parts HRt.out).2.2.1
       obtain ⟨hb, hhb⟩ : ∃ v : ByteArray, v = ⟨(headL ⟨n, up, l, t⟩).toArray⟩ := ⟨_, rfl⟩
       have hbs : hb.size ≤ 700000000 := by rw [hhb, mk_size]; exact hhl
       have hb0 : 0 < hb.size := by rw [hhb, mk_size]; unfold headL; rw [List.length_cons]; omega
       have HHb := Lib.hid (show hb.data.toList = headL ⟨n, up, l, t⟩ by rw [hhb])
       rw [← hhb] at HHd
       obtain ⟨pad, hpad⟩ : ∃ v : ByteArray, v = ⟨(padL nl).toArray⟩ := ⟨_, rfl⟩
       have hps : pad.size = 2 * nl := by rw [hpad, mk_size, padL_len]
       have HPd := Lib.hid (show pad.data.toList = padL nl by rw [hpad])
       have HB := Lib.hid (fun W => rpad_any nl W (by omega))
       rw [← hpad] at HB
       obtain ⟨v, hv2⟩ : ∃ v : ByteArray, v = ⟨(escT false t.data.toList).toArray⟩ := ⟨_, rfl⟩
       have ht1 := HSz.out.2.1
       have hn1 := HSz.out.1
       dsimp only at ht1 hn1
       have hvl := escT_len false t.data.toList
       rw [size_list] at hvl
       have hvs : v.size ≤ 39000000 := by rw [hv2, mk_size]; omega
       have HEs := Lib.hid (fun W => rescape_any t false W (by omega))
       rw [esc_ok (right_parts HRt.out).2.1, ← hv2] at HEs
       have HVv := Lib.hid (show v.data.toList = escT false t.data.toList by rw [hv2])
       obtain ⟨o2, ho2⟩ : ∃ x, x = out ++ (padL nl ++ headL ⟨n, up, l, t⟩) := ⟨_, rfl⟩
       have HO2 := Lib.hid ho2
       have HV2 := Lib.hid (show o2 ++ (tailL (elD ms) i ⟨n, up, l, t⟩ ++ seqW (elD ms) ((elD ms).drop (i + 1)) (i + 1) [i]) = docL (elD ms) by have := HV.out; rw [HSq.out, ← HNl.out] at this; rw [ho2, ← this]; simp)
       have hol2 := inv_out HV2.out HDl.out
       have h392 : 39 ≤ o2.length := by rw [ho2, List.length_append]; omega
       have hlt3 := Lib.hid (show i + 1 ≤ ms.length from hin)
       have HO3 := Lib.hid (show ∀ x ∈ [i], x < i + 1 from fun x hx => by
        rcases List.mem_cons.1 hx with rfl | hx
        ·omega
        ·have := HO.out x hx; omega)
       have HHi0 := HHs.out i hin
       clear HV HSq HSz HRt hhl hhb hpad hv2 hvl ho2 HO
       go_wp2_with fail
       refine wp_region_mem (by kernel_rfl) (by kernel_rfl) HM.out ?_; intro hNE; (repeat (any_goals (first | ((with_reducible refine qgd ?_); (with_reducible refine skip_q ?_ ?_ ?_); (exact rfl); (rotate_left; (exact (hNE.elim fun p => ⟨p.W, p, rfl⟩)))) | refine mQ ?_ | go_big_quiet_step (fail) | quiet_step (fail)))); clear hNE; refine wpQuiet_nil ?_; intro W1 HM1; replace HM := Lib.hid HM1; clear HM1
       go_wp2_with fail
       refine wp_region_steps2 [(true, 0), (true, 1), (true, 2), (true, 4), (true, 5), (true, 6), (true, 7), (false, 3), (false, 8), (true, 9), (false, 10), (true, 11)] (by kernel_rfl) (by kernel_rfl) rfl (by kernel_rfl) (fun _ _ _ _ _ h => h) HM.out _ (.cons_cons _ .slnil) ?_
       intro hNE W1 HM1; replace HM := Lib.hid HM1; clear HM1
       have HS0 := Lib.hid (HM.out.sub (.cons_cons _ .slnil))
       simp only [wpSteps, List.getElem?_cons_succ, List.getElem?_cons_zero]
       (repeat (first | ((with_reducible refine wpQuiet_nil ?_); (try dsimp only)) | refine mQ ?_ | ((with_reducible refine qat 108 ?_); (refine qixa (i := i) rfl rfl rfl hin ?_)) | ((with_reducible refine qat 109 ?_); (refine qdA (vs := [.string n, .int .i64 up, .slice pa l.length ca, .string t]) rfl rfl (fun W ⟨qq, hq⟩ => hq ▸ qq.mem.olds E1.out) ?_)) | go_big_quiet_step (fail) | quiet_step (fail)))
       go_wp2_with (first | (go_at_call 29; with_reducible refine cQ (HB.out _) ?_))
       refine ⟨⟨⟨_, HM.out.sub (by repeat (first | exact List.nil_sublist _ | with_reducible refine List.Sublist.cons_cons _ ?_ | refine List.Sublist.cons _ ?_))⟩, rfl⟩, ?_⟩
       (try dsimp only)
       go_wp2_with (first | (go_at_call 30; (with_reducible refine cB HM (HHd.out _ _ HM.out) ?_); clear HM; intro W1 HM))
       refine ⟨⟨⟨_, HM.out.sub (by repeat (first | exact List.nil_sublist _ | with_reducible refine List.Sublist.cons_cons _ ?_ | refine List.Sublist.cons _ ?_))⟩, rfl⟩, ?_⟩
       (try dsimp only)
       (repeat (first | ((with_reducible refine wpQuiet_nil ?_); (try dsimp only)) | refine mQ ?_ | go_big_quiet_step (fail) | quiet_step (fail)))
       go_wp2_with (first | ((with_reducible refine iat 112 ?_); (refine apF (out' := o2) rfl (by kernel_rfl) HM.out (HM.out.olds HC2.out) rfl rfl (by omega) (by rw [ByteArray.size_append]; omega) (by (try simp only [ByteArray.size_append]); omega) (by rw [HO2.out]; simp [ByteArray.data_append, HPd.out, HHb.out]) ?_; intro p112 c112 W1 HM1; replace HM := Lib.hid HM1; clear HM1)))
       refine ⟨⟨⟨_, HM.out.sub (by repeat (first | exact List.nil_sublist _ | with_reducible refine List.Sublist.cons_cons _ ?_ | refine List.Sublist.cons _ ?_))⟩, rfl⟩, ?_⟩
       (try dsimp only)
       (repeat (first | ((with_reducible refine wpQuiet_nil ?_); (try dsimp only)) | refine mQ ?_ | go_big_quiet_step (fail) | quiet_step (fail)))
       clear HS0 hNE
       clear HHd HB HO2
       cases hkk : hasK (elD ms) i with
       | true =>
        rw [hkk] at HHi0
        have HHi := Lib.hid HHi0
        obtain ⟨o3, ho3⟩ : ∃ x, x = o2 ++ [62, 10] := ⟨_, rfl⟩
        have HP3 := Lib.hid ho3
        have h393 : 39 ≤ o3.length := by rw [ho3, List.length_append]; omega
        have HV3 := Lib.hid (show o3 ++ seqW (elD ms) ((elD ms).drop (i + 1)) (i + 1) [i] = docL (elD ms) by have := HV2.out; rw [tailL_kids hkk] at this; rw [ho3, ← this]; simp)
        clear HHi0 HV2 hkk ho3
        as_aux_lemma =>
        go_wp2_with (first | ((with_reducible refine iat 116 ?_); (refine ixa (i := i) rfl rfl rfl hin ?_)) | ((with_reducible refine iat 118 ?_); (refine ldx1 (HM.out.olds E1.out 3 _ rfl) rfl ?_)) | (go_at_call 31; (with_reducible refine cB HM (HEs.out _) ?_); clear HM; intro W1 HM) | ((with_reducible refine iat 137 ?_); (refine ixa (i := i) rfl rfl rfl hin ?_)) | ((with_reducible refine iat 138 ?_); (refine ldx1 (HM.out.olds HHc1.out (i * 1) _ HHi.out) rfl ?_)) | ((with_reducible refine iat 128 ?_); (refine ixa (i := i) rfl rfl rfl hin ?_)) | ((with_reducible refine iat 130 ?_); (refine ldx1 (HM.out.olds E1.out 0 _ rfl) rfl ?_)) | ((with_reducible refine iat 140 ?_); (refine apB (out' := o3) rfl (by kernel_rfl) HM.out 0 rfl rfl rfl (by (try simp only [ByteArray.size_append, mk_size, List.length_cons, List.length_nil]); omega) (by rw [HP3.out]; try simp [ByteArray.data_append, endL]) ?_; intro p140 c140 W1 HM1; replace HM := Lib.hid HM1; clear HM1; simp only [List.set] at HM)) | (refine apb rfl HM.out 2 0 rfl rfl rfl rfl rfl rfl (by omega) (by omega) (by omega) ?_; intro p1 cap1 W1 HM1; replace HM := Lib.hid HM1; clear HM1; simp only [List.set] at HM) | ((with_reducible refine skip_op ?_ ?_); exact rfl) | refine mP ?_ | (refine mS ?_; clear HM; intro W1 HM) | (refine mL ?_; clear HM; intro g1 W1 HM))
        go_roundw
        case rel => exact ⟨i + 1, nl + 1, o3, [i], _, _, _, _, _, rfl, rfl, by go_num, hlt3.out, by omega, h393, Lib.hid (by rw [HNl.out]; rfl), Lib.hid rfl, HV3, HO3, .inr (Lib.hid (push_memN HNl.out HCs.out (HM.out.sub (.cons _ (.refl _)))))⟩
        case measure => have := hlt3.out; simp [intOf]; omega
       | false =>
        rw [hkk] at HHi0
        have HHi := Lib.hid HHi0
        by_cases hte : t.data.toList = []
        ·have b0 : (v.toList == []) = true := by rw [Lib.toList_data, HVv.out, esc_nil.2 hte]; rfl
         obtain ⟨o3, ho3⟩ : ∃ x, x = o2 ++ [47, 62, 10] := ⟨_, rfl⟩
         have HP3 := Lib.hid ho3
         have h393 : 39 ≤ o3.length := by rw [ho3, List.length_append]; omega
         have HV3 := Lib.hid (show o3 ++ seqW (elD ms) ((elD ms).drop (i + 1)) (i + 1) [i] = docL (elD ms) by have := HV2.out; rw [tailL_none hkk hte] at this; rw [ho3, ← this]; simp)
         clear HHi0 HV2 hkk ho3 hte
         as_aux_lemma =>
         go_wp2_with (first | ((with_reducible refine iat 116 ?_); (refine ixa (i := i) rfl rfl rfl hin ?_)) | ((with_reducible refine iat 118 ?_); (refine ldx1 (HM.out.olds E1.out 3 _ rfl) rfl ?_)) | (go_at_call 31; (with_reducible refine cB HM (HEs.out _) ?_); clear HM; intro W1 HM) | ((with_reducible refine iat 137 ?_); (refine ixa (i := i) rfl rfl rfl hin ?_)) | ((with_reducible refine iat 138 ?_); (refine ldx1 (HM.out.olds HHc1.out (i * 1) _ HHi.out) rfl ?_)) | ((with_reducible refine iat 128 ?_); (refine ixa (i := i) rfl rfl rfl hin ?_)) | ((with_reducible refine iat 130 ?_); (refine ldx1 (HM.out.olds E1.out 0 _ rfl) rfl ?_)) | ((with_reducible refine iat 145 ?_); (refine apB (out' := o3) rfl (by kernel_rfl) HM.out 0 rfl rfl rfl (by (try simp only [ByteArray.size_append, mk_size, List.length_cons, List.length_nil]); omega) (by rw [HP3.out]; try simp [ByteArray.data_append, endL]) ?_; intro p145 c145 W1 HM1; replace HM := Lib.hid HM1; clear HM1; simp only [List.set] at HM)) | (refine apb rfl HM.out 2 0 rfl rfl rfl rfl rfl rfl (by omega) (by omega) (by omega) ?_; intro p1 cap1 W1 HM1; replace HM := Lib.hid HM1; clear HM1; simp only [List.set] at HM) | ((with_reducible refine skip_op ?_ ?_); exact rfl) | refine mP ?_ | (refine mS ?_; clear HM; intro W1 HM) | (refine mL ?_; clear HM; intro g1 W1 HM))
         go_roundw
         case rel => exact ⟨i + 1, nl + 1, o3, [i], _, _, _, _, _, rfl, rfl, by go_num, hlt3.out, by omega, h393, Lib.hid (by rw [HNl.out]; rfl), Lib.hid rfl, HV3, HO3, .inr (Lib.hid (push_memN HNl.out HCs.out (HM.out.sub (.cons _ (.refl _)))))⟩
         case measure => have := hlt3.out; simp [intOf]; omega
        ·have b0 : (v.toList == []) = false := by
          rw [Lib.toList_data, HVv.out]
          simpa using (fun e => hte (esc_nil.1 e))
         obtain ⟨o3, ho3⟩ : ∃ x, x = o2 ++ (62 :: (escT false t.data.toList ++ endL n)) := ⟨_, rfl⟩
         have HP3 := Lib.hid ho3
         have h393 : 39 ≤ o3.length := by rw [ho3, List.length_append]; omega
         have HV3 := Lib.hid (show o3 ++ seqW (elD ms) ((elD ms).drop (i + 1)) (i + 1) [i] = docL (elD ms) by have := HV2.out; rw [tailL_text hkk hte] at this; rw [ho3, ← this]; simp)
         clear HHi0 HV2 hkk ho3 hte
         as_aux_lemma =>
         go_wp2_with (first | ((with_reducible refine iat 116 ?_); (refine ixa (i := i) rfl rfl rfl hin ?_)) | ((with_reducible refine iat 118 ?_); (refine ldx1 (HM.out.olds E1.out 3 _ rfl) rfl ?_)) | (go_at_call 31; (with_reducible refine cB HM (HEs.out _) ?_); clear HM; intro W1 HM) | ((with_reducible refine iat 137 ?_); (refine ixa (i := i) rfl rfl rfl hin ?_)) | ((with_reducible refine iat 138 ?_); (refine ldx1 (HM.out.olds HHc1.out (i * 1) _ HHi.out) rfl ?_)) | ((with_reducible refine iat 128 ?_); (refine ixa (i := i) rfl rfl rfl hin ?_)) | ((with_reducible refine iat 130 ?_); (refine ldx1 (HM.out.olds E1.out 0 _ rfl) rfl ?_)) | ((with_reducible refine iat 133 ?_); (refine apB (out' := o3) rfl (by kernel_rfl) HM.out 0 rfl rfl rfl (by (try simp only [ByteArray.size_append, mk_size, List.length_cons, List.length_nil]); omega) (by rw [HP3.out]; try simp [ByteArray.data_append, HVv.out, endL]) ?_; intro p133 c133 W1 HM1; replace HM := Lib.hid HM1; clear HM1; simp only [List.set] at HM)) | (refine apb rfl HM.out 2 0 rfl rfl rfl rfl rfl rfl (by omega) (by omega) (by omega) ?_; intro p1 cap1 W1 HM1; replace HM := Lib.hid HM1; clear HM1; simp only [List.set] at HM) | ((with_reducible refine skip_op ?_ ?_); exact rfl) | refine mP ?_ | (refine mS ?_; clear HM; intro W1 HM) | (refine mL ?_; clear HM; intro g1 W1 HM))
         go_roundw
         case rel => exact ⟨i + 1, nl + 1, o3, [i], _, _, _, _, _, rfl, rfl, by go_num, hlt3.out, by omega, h393, Lib.hid (by rw [HNl.out]; rfl), Lib.hid rfl, HV3, HO3, .inr (Lib.hid (push_memN HNl.out HCs.out (HM.out.sub (.cons _ (.refl _)))))⟩
         case measure => have := hlt3.out; simp [intOf]; omega
     by_cases hs3 : 300000 < out.length
     ·have hol := inv_out HV.out HDl.out
      have HW := Lib.hid (writeT_long HCk.out (by rw [← HV.out, List.length_append]; omega))
      have d2 : decide ((out.length : Int) ≤ 300000) = false := decide_eq_false (by omega)
      have d3 : decide ((300000 : Int) < out.length) = true := decide_eq_true (by omega)
      clear HV HO
      as_aux_lemma =>
      go_wp2_with fail
      go_ret2
      exact ⟨by rw [HW.out]; rfl, (HB1.out.comp2 HM.out).below⟩
     have d2 : decide ((out.length : Int) ≤ 300000) = true := decide_eq_true (by omega)
     go_wp2_with fail
     go_loopw [7, 8] (fun ov pv wr => ∃ (nl : Nat) (out : List UInt8) (o : List Nat) (cs : List Value) (po pp : Option Addr) (co cq : Nat), ov = .slice po out.length co ∧ pv = .slice pp nl cq ∧ nl ≤ i ∧ 39 ≤ out.length ∧ Hid (nl = o.length) ∧ Hid (cs = intC o.reverse) ∧ Hid (out ++ seqW (elD ms) ((elD ms).drop i) i o = docL (elD ms)) ∧ Hid (∀ x ∈ o, x < i) ∧
      Hid (Mem w1 wr [.row po co 5 1 out.length (bC out), .row pp cq 3 1 nl cs])) (fun _ pv _ => slLen pv)
     case atStart => exact ⟨nl, out, o, cs, po, pp, co, cq, rfl, rfl, hnl, h39, HNl, HCs, HV, HO, HM⟩
     case round =>
      clear HM HNl HCs HV HO hnl h39 hs3 d2
      obtain ⟨nl, out, o, cs, po, pp, co, cq, rfl, rfl, hnl, h39, HNl, HCs, HV, HO, HM⟩ := hrel
      have hol := inv_out HV.out HDl.out
      by_cases hin : i < ms.length
      ·obtain ⟨x, hx⟩ : ∃ x, ms[i]? = some x := ⟨_, List.getElem?_eq_getElem hin⟩
       have he := elD_get hx
       have e1 := HCb.out.elem ElM.cs 4 ElM.cs_len hx
       obtain ⟨hxa, -⟩ := HI.out.at_ x (List.mem_of_getElem? hx)
       have hsz := HZs.out x (List.mem_of_getElem? hx)
       obtain ⟨hrt, -, -⟩ := checkT_all HCk.out i x.d he
       obtain ⟨⟨n, up, l, t⟩, pa, ca⟩ := x
       dsimp only at hxa he hsz hrt
       have E1 := Lib.hid (HB1.out.olds (show Cells W (b.add (i * 4)) [.string n, .int .i64 up, .slice pa l.length ca, .string t] from e1))
       have HE := Lib.hid he
       have HHd := Lib.hid (fun (W2 : World) (L2 : List Res) (h : Mem w1 W2 L2) => rhead_any n t up l pa ca W2 (h.sl (HB1.out.sl hxa)) hsz hrt)
       have HSz := Lib.hid hsz
       have HRt := Lib.hid hrt
       have bn : ((i : Int) == ms.length) = false := by simpa using (by omega : ¬ (i : Int) = ms.length)
       clear hx e1 hxa he hsz hrt
       rcases o with _ | ⟨k, q⟩
       ·have hn0 : nl ≤ 0 := by rw [HNl.out]; exact Nat.le_refl _
        have dn : decide ((0 : Int) < nl) = false := decide_eq_false (by omega)
        have dm : decide (0 < nl) = false := decide_eq_false (by omega)
        have HSq := Lib.hid (seq_elem HE.out (.inl rfl))
        have hhl := headL_len HSz.out (right_parts HRt.out).2.2.1
        obtain ⟨hb, hhb⟩ : ∃ v : ByteArray, v = ⟨(headL ⟨n, up, l, t⟩).toArray⟩ := ⟨_, rfl⟩
        have hbs : hb.size ≤ 700000000 := by rw [hhb, mk_size]; exact hhl
        have hb0 : 0 < hb.size := by rw [hhb, mk_size]; unfold headL; rw [List.length_cons]; omega
        have HHb := Lib.hid (show hb.data.toList = headL ⟨n, up, l, t⟩ by rw [hhb])
        rw [← hhb] at HHd
        obtain ⟨pad, hpad⟩ : ∃ v : ByteArray, v = ⟨(padL nl).toArray⟩ := ⟨_, rfl⟩
        have hps : pad.size = 2 * nl := by rw [hpad, mk_size, padL_len]
        have HPd := Lib.hid (show pad.data.toList = padL nl by rw [hpad])
        have HB := Lib.hid (fun W => rpad_any nl W (by omega))
        rw [← hpad] at HB
        obtain ⟨v, hv2⟩ : ∃ v : ByteArray, v = ⟨(escT false t.data.toList).toArray⟩ := ⟨_, rfl⟩
        have ht1 := HSz.out.2.1
        have hn1 := HSz.out.1
        dsimp only at ht1 hn1
        have hvl := escT_len false t.data.toList
        rw [size_list] at hvl
        have hvs : v.size ≤ 39000000 := by rw [hv2, mk_size]; omega
        have HEs := Lib.hid (fun W => rescape_any t false W (by omega))
        rw [esc_ok (right_parts HRt.out).2.1, ← hv2] at HEs
        have HVv := Lib.hid (show v.data.toList = escT false t.data.toList by rw [hv2])
        obtain ⟨o2, ho2⟩ : ∃ x, x = out ++ (padL nl ++ headL ⟨n, up, l, t⟩) := ⟨_, rfl⟩
        have HO2 := Lib.hid ho2
        have HV2 := Lib.hid (show o2 ++ (tailL (elD ms) i ⟨n, up, l, t⟩ ++ seqW (elD ms) ((elD ms).drop (i + 1)) (i + 1) [i]) = docL (elD ms) by have := HV.out; rw [HSq.out, ← HNl.out] at this; rw [ho2, ← this]; simp)
        have hol2 := inv_out HV2.out HDl.out
        have h392 : 39 ≤ o2.length := by rw [ho2, List.length_append]; omega
        have hlt3 := Lib.hid (show i + 1 ≤ ms.length from hin)
        have HO3 := Lib.hid (show ∀ x ∈ [i], x < i + 1 from fun x hx => by
         rcases List.mem_cons.1 hx with rfl | hx
         ·omega
         ·have := HO.out x hx; omega)
        have HHi0 := HHs.out i hin
        clear HV HSq HSz HRt hhl hhb hpad hv2 hvl ho2 HO
        go_wp2_with fail
        refine wp_region_mem (by kernel_rfl) (by kernel_rfl) HM.out ?_; intro hNE; (repeat (any_goals (first | ((with_reducible refine qgd ?_); (with_reducible refine skip_q ?_ ?_ ?_); (exact rfl); (rotate_left; (exact (hNE.elim fun p => ⟨p.W, p, rfl⟩)))) | refine mQ ?_ | go_big_quiet_step (fail) | quiet_step (fail)))); clear hNE; refine wpQuiet_nil ?_; intro W1 HM1; replace HM := Lib.hid HM1; clear HM1
        go_wp2_with fail
        refine wp_region_steps2 [(true, 0), (true, 1), (true, 2), (true, 4), (true, 5), (true, 6), (true, 7), (false, 3), (false, 8), (true, 9), (false, 10), (true, 11)] (by kernel_rfl) (by kernel_rfl) rfl (by kernel_rfl) (fun _ _ _ _ _ h => h) HM.out _ (.cons _ (.cons_cons _ .slnil)) ?_
        intro hNE W1 HM1; replace HM := Lib.hid HM1; clear HM1
        have HS0 := Lib.hid (HM.out.sub (.cons _ (.cons_cons _ .slnil)))
        simp only [wpSteps, List.getElem?_cons_succ, List.getElem?_cons_zero]
        (repeat (first | ((with_reducible refine wpQuiet_nil ?_); (try dsimp only)) | refine mQ ?_ | ((with_reducible refine qat 108 ?_); (refine qixa (i := i) rfl rfl rfl hin ?_)) | ((with_reducible refine qat 109 ?_); (refine qdA (vs := [.string n, .int .i64 up, .slice pa l.length ca, .string t]) rfl rfl (fun W ⟨qq, hq⟩ => hq ▸ qq.mem.olds E1.out) ?_)) | go_big_quiet_step (fail) | quiet_step (fail)))
        go_wp2_with (first | (go_at_call 29; with_reducible refine cQ (HB.out _) ?_))
        refine ⟨⟨⟨_, HM.out.sub (by repeat (first | exact List.nil_sublist _ | with_reducible refine List.Sublist.cons_cons _ ?_ | refine List.Sublist.cons _ ?_))⟩, rfl⟩, ?_⟩
        (try dsimp only)
        go_wp2_with (first | (go_at_call 30; (with_reducible refine cB HM (HHd.out _ _ HM.out) ?_); clear HM; intro W1 HM))
        refine ⟨⟨⟨_, HM.out.sub (by repeat (first | exact List.nil_sublist _ | with_reducible refine List.Sublist.cons_cons _ ?_ | refine List.Sublist.cons _ ?_))⟩, rfl⟩, ?_⟩
        (try dsimp only)
        (repeat (first | ((with_reducible refine wpQuiet_nil ?_); (try dsimp only)) | refine mQ ?_ | go_big_quiet_step (fail) | quiet_step (fail)))
        go_wp2_with (first | ((with_reducible refine iat 112 ?_); (refine apB (out' := o2) rfl (by kernel_rfl) HM.out 0 rfl rfl rfl (by (try simp only [ByteArray.size_append, mk_size, List.length_cons, List.length_nil]); omega) (by rw [HO2.out]; try simp [ByteArray.data_append, HPd.out, HHb.out]) ?_; intro p112 c112 W1 HM1; replace HM := Lib.hid HM1; clear HM1; simp only [List.set] at HM)))
        refine ⟨⟨⟨_, HM.out.sub (by repeat (first | exact List.nil_sublist _ | with_reducible refine List.Sublist.cons_cons _ ?_ | refine List.Sublist.cons _ ?_))⟩, rfl⟩, ?_⟩
        (try dsimp only)
        (repeat (first | ((with_reducible refine wpQuiet_nil ?_); (try dsimp only)) | refine mQ ?_ | go_big_quiet_step (fail) | quiet_step (fail)))
        clear HS0 hNE
        clear HHd HB HO2
        cases hkk : hasK (elD ms) i with
        | true =>
         rw [hkk] at HHi0
         have HHi := Lib.hid HHi0
         obtain ⟨o3, ho3⟩ : ∃ x, x = o2 ++ [62, 10] := ⟨_, rfl⟩
         have HP3 := Lib.hid ho3
         have h393 : 39 ≤ o3.length := by rw [ho3, List.length_append]; omega
         have HV3 := Lib.hid (show o3 ++ seqW (elD ms) ((elD ms).drop (i + 1)) (i + 1) [i] = docL (elD ms) by have := HV2.out; rw [tailL_kids hkk] at this; rw [ho3, ← this]; simp)
         clear HHi0 HV2 hkk ho3
         as_aux_lemma =>
         go_wp2_with (first | ((with_reducible refine iat 116 ?_); (refine ixa (i := i) rfl rfl rfl hin ?_)) | ((with_reducible refine iat 118 ?_); (refine ldx1 (HM.out.olds E1.out 3 _ rfl) rfl ?_)) | (go_at_call 31; (with_reducible refine cB HM (HEs.out _) ?_); clear HM; intro W1 HM) | ((with_reducible refine iat 137 ?_); (refine ixa (i := i) rfl rfl rfl hin ?_)) | ((with_reducible refine iat 138 ?_); (refine ldx1 (HM.out.olds HHc1.out (i * 1) _ HHi.out) rfl ?_)) | ((with_reducible refine iat 128 ?_); (refine ixa (i := i) rfl rfl rfl hin ?_)) | ((with_reducible refine iat 130 ?_); (refine ldx1 (HM.out.olds E1.out 0 _ rfl) rfl ?_)) | ((with_reducible refine iat 140 ?_); (refine apB (out' := o3) rfl (by kernel_rfl) HM.out 0 rfl rfl rfl (by (try simp only [ByteArray.size_append, mk_size, List.length_cons, List.length_nil]); omega) (by rw [HP3.out]; try simp [ByteArray.data_append, endL]) ?_; intro p140 c140 W1 HM1; replace HM := Lib.hid HM1; clear HM1; simp only [List.set] at HM)) | (refine apb rfl HM.out 2 0 rfl rfl rfl rfl rfl rfl (by omega) (by omega) (by omega) ?_; intro p1 cap1 W1 HM1; replace HM := Lib.hid HM1; clear HM1; simp only [List.set] at HM) | ((with_reducible refine skip_op ?_ ?_); exact rfl) | refine mP ?_ | (refine mS ?_; clear HM; intro W1 HM) | (refine mL ?_; clear HM; intro g1 W1 HM))
         go_roundw
         case rel => exact ⟨i + 1, nl + 1, o3, [i], _, _, _, _, _, rfl, rfl, by go_num, hlt3.out, by omega, h393, Lib.hid (by rw [HNl.out]; rfl), Lib.hid rfl, HV3, HO3, .inr (Lib.hid (push_memN HNl.out HCs.out (HM.out.sub (.cons _ (.refl _)))))⟩
         case measure => have := hlt3.out; simp [intOf]; omega
        | false =>
         rw [hkk] at HHi0
         have HHi := Lib.hid HHi0
         by_cases hte : t.data.toList = []
         ·have b0 : (v.toList == []) = true := by rw [Lib.toList_data, HVv.out, esc_nil.2 hte]; rfl
          obtain ⟨o3, ho3⟩ : ∃ x, x = o2 ++ [47, 62, 10] := ⟨_, rfl⟩
          have HP3 := Lib.hid ho3
          have h393 : 39 ≤ o3.length := by rw [ho3, List.length_append]; omega
          have HV3 := Lib.hid (show o3 ++ seqW (elD ms) ((elD ms).drop (i + 1)) (i + 1) [i] = docL (elD ms) by have := HV2.out; rw [tailL_none hkk hte] at this; rw [ho3, ← this]; simp)
          clear HHi0 HV2 hkk ho3 hte
          as_aux_lemma =>
          go_wp2_with (first | ((with_reducible refine iat 116 ?_); (refine ixa (i := i) rfl rfl rfl hin ?_)) | ((with_reducible refine iat 118 ?_); (refine ldx1 (HM.out.olds E1.out 3 _ rfl) rfl ?_)) | (go_at_call 31; (with_reducible refine cB HM (HEs.out _) ?_); clear HM; intro W1 HM) | ((with_reducible refine iat 137 ?_); (refine ixa (i := i) rfl rfl rfl hin ?_)) | ((with_reducible refine iat 138 ?_); (refine ldx1 (HM.out.olds HHc1.out (i * 1) _ HHi.out) rfl ?_)) | ((with_reducible refine iat 128 ?_); (refine ixa (i := i) rfl rfl rfl hin ?_)) | ((with_reducible refine iat 130 ?_); (refine ldx1 (HM.out.olds E1.out 0 _ rfl) rfl ?_)) | ((with_reducible refine iat 145 ?_); (refine apB (out' := o3) rfl (by kernel_rfl) HM.out 0 rfl rfl rfl (by (try simp only [ByteArray.size_append, mk_size, List.length_cons, List.length_nil]); omega) (by rw [HP3.out]; try simp [ByteArray.data_append, endL]) ?_; intro p145 c145 W1 HM1; replace HM := Lib.hid HM1; clear HM1; simp only [List.set] at HM)) | (refine apb rfl HM.out 2 0 rfl rfl rfl rfl rfl rfl (by omega) (by omega) (by omega) ?_; intro p1 cap1 W1 HM1; replace HM := Lib.hid HM1; clear HM1; simp only [List.set] at HM) | ((with_reducible refine skip_op ?_ ?_); exact rfl) | refine mP ?_ | (refine mS ?_; clear HM; intro W1 HM) | (refine mL ?_; clear HM; intro g1 W1 HM))
          go_roundw
          case rel => exact ⟨i + 1, nl + 1, o3, [i], _, _, _, _, _, rfl, rfl, by go_num, hlt3.out, by omega, h393, Lib.hid (by rw [HNl.out]; rfl), Lib.hid rfl, HV3, HO3, .inr (Lib.hid (push_memN HNl.out HCs.out (HM.out.sub (.cons _ (.refl _)))))⟩
          case measure => have := hlt3.out; simp [intOf]; omega
         ·have b0 : (v.toList == []) = false := by
           rw [Lib.toList_data, HVv.out]
           simpa using (fun e => hte (esc_nil.1 e))
          obtain ⟨o3, ho3⟩ : ∃ x, x = o2 ++ (62 :: (escT false t.data.toList ++ endL n)) := ⟨_, rfl⟩
          have HP3 := Lib.hid ho3
          have h393 : 39 ≤ o3.length := by rw [ho3, List.length_append]; omega
          have HV3 := Lib.hid (show o3 ++ seqW (elD ms) ((elD ms).drop (i + 1)) (i + 1) [i] = docL (elD ms) by have := HV2.out; rw [tailL_text hkk hte] at this; rw [ho3, ← this]; simp)
          clear HHi0 HV2 hkk ho3 hte
          as_aux_lemma =>
          go_wp2_with (first | ((with_reducible refine iat 116 ?_); (refine ixa (i := i) rfl rfl rfl hin ?_)) | ((with_reducible refine iat 118 ?_); (refine ldx1 (HM.out.olds E1.out 3 _ rfl) rfl ?_)) | (go_at_call 31; (with_reducible refine cB HM (HEs.out _) ?_); clear HM; intro W1 HM) | ((with_reducible refine iat 137 ?_); (refine ixa (i := i) rfl rfl rfl hin ?_)) | ((with_reducible refine iat 138 ?_); (refine ldx1 (HM.out.olds HHc1.out (i * 1) _ HHi.out) rfl ?_)) | ((with_reducible refine iat 128 ?_); (refine ixa (i := i) rfl rfl rfl hin ?_)) | ((with_reducible refine iat 130 ?_); (refine ldx1 (HM.out.olds E1.out 0 _ rfl) rfl ?_)) | ((with_reducible refine iat 133 ?_); (refine apB (out' := o3) rfl (by kernel_rfl) HM.out 0 rfl rfl rfl (by (try simp only [ByteArray.size_append, mk_size, List.length_cons, List.length_nil]); omega) (by rw [HP3.out]; try simp [ByteArray.data_append, HVv.out, endL]) ?_; intro p133 c133 W1 HM1; replace HM := Lib.hid HM1; clear HM1; simp only [List.set] at HM)) | (refine apb rfl HM.out 2 0 rfl rfl rfl rfl rfl rfl (by omega) (by omega) (by omega) ?_; intro p1 cap1 W1 HM1; replace HM := Lib.hid HM1; clear HM1; simp only [List.set] at HM) | ((with_reducible refine skip_op ?_ ?_); exact rfl) | refine mP ?_ | (refine mS ?_; clear HM; intro W1 HM) | (refine mL ?_; clear HM; intro g1 W1 HM))
          go_roundw
          case rel => exact ⟨i + 1, nl + 1, o3, [i], _, _, _, _, _, rfl, rfl, by go_num, hlt3.out, by omega, h393, Lib.hid (by rw [HNl.out]; rfl), Lib.hid rfl, HV3, HO3, .inr (Lib.hid (push_memN HNl.out HCs.out (HM.out.sub (.cons _ (.refl _)))))⟩
          case measure => have := hlt3.out; simp [intOf]; omega
       ·have hq1 : nl ≤ q.length + 1 := by rw [HNl.out]; exact Nat.le_refl _
        have hq2 : q.length + 1 ≤ nl := by rw [HNl.out]; exact Nat.le_refl _
        have dn : decide ((0 : Int) < nl) = true := decide_eq_true (by omega)
        have dm : decide (0 < nl) = true := decide_eq_true (by omega)
        obtain ⟨bo, rfl⟩ := row_has (HM.out.get (k := 1) rfl) (by omega)
        have hqc : q.length ≤ cq := by have := (row_cap (HM.out.get (k := 1) rfl)).1; omega
        have HTop := Lib.hid (show cs[q.length * 1]? = some (.int .i64 (k : Int)) by rw [HCs.out]; exact top_cell k q)
        have hki : k < i := HO.out k (by simp)
        have hkl : k < ms.length := by omega
        by_cases hku : (k : Int) = up
        ·subst hku
         have bk : ((k : Int) != k) = false := by simp
         have HSq := Lib.hid (seq_elem HE.out (.inr ⟨k, q, rfl, rfl⟩))
         have hhl := headL_len HSz.out (right_parts HRt.out).2.2.1
         obtain ⟨hb, hhb⟩ : ∃ v : ByteArray, v = ⟨(headL ⟨n, k, l, t⟩).toArray⟩ := ⟨_, rfl⟩
         have hbs : hb.size ≤ 700000000 := by rw [hhb, mk_size]; exact hhl
         have hb0 : 0 < hb.size := by rw [hhb, mk_size]; unfold headL; rw [List.length_cons]; omega
         have HHb := Lib.hid (show hb.data.toList = headL ⟨n, k, l, t⟩ by rw [hhb])
         rw [← hhb] at HHd
         obtain ⟨pad, hpad⟩ : ∃ v : ByteArray, v = ⟨(padL nl).toArray⟩ := ⟨_, rfl⟩
         have hps : pad.size = 2 * nl := by rw [hpad, mk_size, padL_len]
         have HPd := Lib.hid (show pad.data.toList = padL nl by rw [hpad])
         have HB := Lib.hid (fun W => rpad_any nl W (by omega))
         rw [← hpad] at HB
         obtain ⟨v, hv2⟩ : ∃ v : ByteArray, v = ⟨(escT false t.data.toList).toArray⟩ := ⟨_, rfl⟩
         have ht1 := HSz.out.2.1
         have hn1 := HSz.out.1
         dsimp only at ht1 hn1
         have hvl := escT_len false t.data.toList
         rw [size_list] at hvl
         have hvs : v.size ≤ 39000000 := by rw [hv2, mk_size]; omega
         have HEs := Lib.hid (fun W => rescape_any t false W (by omega))
         rw [esc_ok (right_parts HRt.out).2.1, ← hv2] at HEs
         have HVv := Lib.hid (show v.data.toList = escT false t.data.toList by rw [hv2])
         obtain ⟨o2, ho2⟩ : ∃ x, x = out ++ (padL nl ++ headL ⟨n, k, l, t⟩) := ⟨_, rfl⟩
         have HO2 := Lib.hid ho2
         have HV2 := Lib.hid (show o2 ++ (tailL (elD ms) i ⟨n, k, l, t⟩ ++ seqW (elD ms) ((elD ms).drop (i + 1)) (i + 1) (i :: k :: q)) = docL (elD ms) by have := HV.out; rw [HSq.out, ← HNl.out] at this; rw [ho2, ← this]; simp)
         have hol2 := inv_out HV2.out HDl.out
         have h392 : 39 ≤ o2.length := by rw [ho2, List.length_append]; omega
         have hlt3 := Lib.hid (show i + 1 ≤ ms.length from hin)
         have HO3 := Lib.hid (show ∀ x ∈ i :: k :: q, x < i + 1 from fun x hx => by
          rcases List.mem_cons.1 hx with rfl | hx
          ·omega
          ·have := HO.out x hx; omega)
         have HHi0 := HHs.out i hin
         clear HV HSq HSz HRt hhl hhb hpad hv2 hvl ho2 HO
         go_wp2_with fail
         refine wp_region_mem (by kernel_rfl) (by kernel_rfl) HM.out ?_; intro hNE; (repeat (any_goals (first | ((with_reducible refine qgd ?_); (with_reducible refine skip_q ?_ ?_ ?_); (exact rfl); (rotate_left; (exact (hNE.elim fun p => ⟨p.W, p, rfl⟩)))) | refine mQ ?_ | ((with_reducible refine qat 60 ?_); (refine qixa (i := q.length) rfl rfl (by omega) (by omega) ?_)) | ((with_reducible refine qat 61 ?_); (refine qd1 rfl (fun W ⟨qq, hq⟩ => hq ▸ row_cell (qq.mem.get (k := 1) rfl) HTop.out) ?_)) | ((with_reducible refine qat 64 ?_); (refine qixa (i := i) rfl rfl rfl hin ?_)) | ((with_reducible refine qat 66 ?_); (refine qdx1 (i := 1) E1.out rfl rfl ?_)) | go_big_quiet_step (fail) | quiet_step (fail)))); clear hNE; refine wpQuiet_nil ?_; intro W1 HM1; replace HM := Lib.hid HM1; clear HM1
         go_wp2_with fail
         refine wp_region_steps2 [(true, 0), (true, 1), (true, 2), (true, 4), (true, 5), (true, 6), (true, 7), (false, 3), (false, 8), (true, 9), (false, 10), (true, 11)] (by kernel_rfl) (by kernel_rfl) rfl (by kernel_rfl) (fun _ _ _ _ _ h => h) HM.out _ (.cons _ (.cons_cons _ .slnil)) ?_
         intro hNE W1 HM1; replace HM := Lib.hid HM1; clear HM1
         have HS0 := Lib.hid (HM.out.sub (.cons _ (.cons_cons _ .slnil)))
         simp only [wpSteps, List.getElem?_cons_succ, List.getElem?_cons_zero]
         (repeat (first | ((with_reducible refine wpQuiet_nil ?_); (try dsimp only)) | refine mQ ?_ | ((with_reducible refine qat 108 ?_); (refine qixa (i := i) rfl rfl rfl hin ?_)) | ((with_reducible refine qat 109 ?_); (refine qdA (vs := [.string n, .int .i64 k, .slice pa l.length ca, .string t]) rfl rfl (fun W ⟨qq, hq⟩ => hq ▸ qq.mem.olds E1.out) ?_)) | go_big_quiet_step (fail) | quiet_step (fail)))
         go_wp2_with (first | (go_at_call 29; with_reducible refine cQ (HB.out _) ?_))
         refine ⟨⟨⟨_, HM.out.sub (by repeat (first | exact List.nil_sublist _ | with_reducible refine List.Sublist.cons_cons _ ?_ | refine List.Sublist.cons _ ?_))⟩, rfl⟩, ?_⟩
         (try dsimp only)
         go_wp2_with (first | (go_at_call 30; (with_reducible refine cB HM (HHd.out _ _ HM.out) ?_); clear HM; intro W1 HM))
         refine ⟨⟨⟨_, HM.out.sub (by repeat (first | exact List.nil_sublist _ | with_reducible refine List.Sublist.cons_cons _ ?_ | refine List.Sublist.cons _ ?_))⟩, rfl⟩, ?_⟩
         (try dsimp only)
         (repeat (first | ((with_reducible refine wpQuiet_nil ?_); (try dsimp only)) | refine mQ ?_ | go_big_quiet_step (fail) | quiet_step (fail)))
         go_wp2_with (first | ((with_reducible refine iat 112 ?_); (refine apB (out' := o2) rfl (by kernel_rfl) HM.out 0 rfl rfl rfl (by (try simp only [ByteArray.size_append, mk_size, List.length_cons, List.length_nil]); omega) (by rw [HO2.out]; try simp [ByteArray.data_append, HPd.out, HHb.out]) ?_; intro p112 c112 W1 HM1; replace HM := Lib.hid HM1; clear HM1; simp only [List.set] at HM)))
         refine ⟨⟨⟨_, HM.out.sub (by repeat (first | exact List.nil_sublist _ | with_reducible refine List.Sublist.cons_cons _ ?_ | refine List.Sublist.cons _ ?_))⟩, rfl⟩, ?_⟩
         (try dsimp only)
         (repeat (first | ((with_reducible refine wpQuiet_nil ?_); (try dsimp only)) | refine mQ ?_ | go_big_quiet_step (fail) | quiet_step (fail)))
         clear HS0 hNE
         clear HHd HB HO2
         cases hkk : hasK (elD ms) i with
         | true =>
          rw [hkk] at HHi0
          have HHi := Lib.hid HHi0
          obtain ⟨o3, ho3⟩ : ∃ x, x = o2 ++ [62, 10] := ⟨_, rfl⟩
          have HP3 := Lib.hid ho3
          have h393 : 39 ≤ o3.length := by rw [ho3, List.length_append]; omega
          have HV3 := Lib.hid (show o3 ++ seqW (elD ms) ((elD ms).drop (i + 1)) (i + 1) (i :: k :: q) = docL (elD ms) by have := HV2.out; rw [tailL_kids hkk] at this; rw [ho3, ← this]; simp)
          clear HHi0 HV2 hkk ho3
          as_aux_lemma =>
          go_wp2_with (first | ((with_reducible refine iat 116 ?_); (refine ixa (i := i) rfl rfl rfl hin ?_)) | ((with_reducible refine iat 118 ?_); (refine ldx1 (HM.out.olds E1.out 3 _ rfl) rfl ?_)) | (go_at_call 31; (with_reducible refine cB HM (HEs.out _) ?_); clear HM; intro W1 HM) | ((with_reducible refine iat 137 ?_); (refine ixa (i := i) rfl rfl rfl hin ?_)) | ((with_reducible refine iat 138 ?_); (refine ldx1 (HM.out.olds HHc1.out (i * 1) _ HHi.out) rfl ?_)) | ((with_reducible refine iat 128 ?_); (refine ixa (i := i) rfl rfl rfl hin ?_)) | ((with_reducible refine iat 130 ?_); (refine ldx1 (HM.out.olds E1.out 0 _ rfl) rfl ?_)) | ((with_reducible refine iat 140 ?_); (refine apB (out' := o3) rfl (by kernel_rfl) HM.out 0 rfl rfl rfl (by (try simp only [ByteArray.size_append, mk_size, List.length_cons, List.length_nil]); omega) (by rw [HP3.out]; try simp [ByteArray.data_append, endL]) ?_; intro p140 c140 W1 HM1; replace HM := Lib.hid HM1; clear HM1; simp only [List.set] at HM)) | (refine apb rfl HM.out 2 0 rfl rfl rfl rfl rfl rfl (by omega) (by omega) (by omega) ?_; intro p1 cap1 W1 HM1; replace HM := Lib.hid HM1; clear HM1; simp only [List.set] at HM) | ((with_reducible refine skip_op ?_ ?_); exact rfl) | refine mP ?_ | (refine mS ?_; clear HM; intro W1 HM) | (refine mL ?_; clear HM; intro g1 W1 HM))
          go_roundw
          case rel => exact ⟨i + 1, nl + 1, o3, i :: k :: q, _, _, _, _, _, rfl, rfl, by go_num, hlt3.out, by omega, h393, Lib.hid (by rw [HNl.out]; rfl), Lib.hid rfl, HV3, HO3, .inr (Lib.hid (push_memN HNl.out HCs.out (HM.out.sub (.cons _ (.refl _)))))⟩
          case measure => have := hlt3.out; simp [intOf]; omega
         | false =>
          rw [hkk] at HHi0
          have HHi := Lib.hid HHi0
          by_cases hte : t.data.toList = []
          ·have b0 : (v.toList == []) = true := by rw [Lib.toList_data, HVv.out, esc_nil.2 hte]; rfl
           obtain ⟨o3, ho3⟩ : ∃ x, x = o2 ++ [47, 62, 10] := ⟨_, rfl⟩
           have HP3 := Lib.hid ho3
           have h393 : 39 ≤ o3.length := by rw [ho3, List.length_append]; omega
           have HV3 := Lib.hid (show o3 ++ seqW (elD ms) ((elD ms).drop (i + 1)) (i + 1) (i :: k :: q) = docL (elD ms) by have := HV2.out; rw [tailL_none hkk hte] at this; rw [ho3, ← this]; simp)
           clear HHi0 HV2 hkk ho3 hte
           as_aux_lemma =>
           go_wp2_with (first | ((with_reducible refine iat 116 ?_); (refine ixa (i := i) rfl rfl rfl hin ?_)) | ((with_reducible refine iat 118 ?_); (refine ldx1 (HM.out.olds E1.out 3 _ rfl) rfl ?_)) | (go_at_call 31; (with_reducible refine cB HM (HEs.out _) ?_); clear HM; intro W1 HM) | ((with_reducible refine iat 137 ?_); (refine ixa (i := i) rfl rfl rfl hin ?_)) | ((with_reducible refine iat 138 ?_); (refine ldx1 (HM.out.olds HHc1.out (i * 1) _ HHi.out) rfl ?_)) | ((with_reducible refine iat 128 ?_); (refine ixa (i := i) rfl rfl rfl hin ?_)) | ((with_reducible refine iat 130 ?_); (refine ldx1 (HM.out.olds E1.out 0 _ rfl) rfl ?_)) | ((with_reducible refine iat 145 ?_); (refine apB (out' := o3) rfl (by kernel_rfl) HM.out 0 rfl rfl rfl (by (try simp only [ByteArray.size_append, mk_size, List.length_cons, List.length_nil]); omega) (by rw [HP3.out]; try simp [ByteArray.data_append, endL]) ?_; intro p145 c145 W1 HM1; replace HM := Lib.hid HM1; clear HM1; simp only [List.set] at HM)) | (refine apb rfl HM.out 2 0 rfl rfl rfl rfl rfl rfl (by omega) (by omega) (by omega) ?_; intro p1 cap1 W1 HM1; replace HM := Lib.hid HM1; clear HM1; simp only [List.set] at HM) | ((with_reducible refine skip_op ?_ ?_); exact rfl) | refine mP ?_ | (refine mS ?_; clear HM; intro W1 HM) | (refine mL ?_; clear HM; intro g1 W1 HM))
           go_roundw
           case rel => exact ⟨i + 1, nl + 1, o3, i :: k :: q, _, _, _, _, _, rfl, rfl, by go_num, hlt3.out, by omega, h393, Lib.hid (by rw [HNl.out]; rfl), Lib.hid rfl, HV3, HO3, .inr (Lib.hid (push_memN HNl.out HCs.out (HM.out.sub (.cons _ (.refl _)))))⟩
           case measure => have := hlt3.out; simp [intOf]; omega
          ·have b0 : (v.toList == []) = false := by
            rw [Lib.toList_data, HVv.out]
            simpa using (fun e => hte (esc_nil.1 e))
           obtain ⟨o3, ho3⟩ : ∃ x, x = o2 ++ (62 :: (escT false t.data.toList ++ endL n)) := ⟨_, rfl⟩
           have HP3 := Lib.hid ho3
           have h393 : 39 ≤ o3.length := by rw [ho3, List.length_append]; omega
           have HV3 := Lib.hid (show o3 ++ seqW (elD ms) ((elD ms).drop (i + 1)) (i + 1) (i :: k :: q) = docL (elD ms) by have := HV2.out; rw [tailL_text hkk hte] at this; rw [ho3, ← this]; simp)
           clear HHi0 HV2 hkk ho3 hte
           as_aux_lemma =>
           go_wp2_with (first | ((with_reducible refine iat 116 ?_); (refine ixa (i := i) rfl rfl rfl hin ?_)) | ((with_reducible refine iat 118 ?_); (refine ldx1 (HM.out.olds E1.out 3 _ rfl) rfl ?_)) | (go_at_call 31; (with_reducible refine cB HM (HEs.out _) ?_); clear HM; intro W1 HM) | ((with_reducible refine iat 137 ?_); (refine ixa (i := i) rfl rfl rfl hin ?_)) | ((with_reducible refine iat 138 ?_); (refine ldx1 (HM.out.olds HHc1.out (i * 1) _ HHi.out) rfl ?_)) | ((with_reducible refine iat 128 ?_); (refine ixa (i := i) rfl rfl rfl hin ?_)) | ((with_reducible refine iat 130 ?_); (refine ldx1 (HM.out.olds E1.out 0 _ rfl) rfl ?_)) | ((with_reducible refine iat 133 ?_); (refine apB (out' := o3) rfl (by kernel_rfl) HM.out 0 rfl rfl rfl (by (try simp only [ByteArray.size_append, mk_size, List.length_cons, List.length_nil]); omega) (by rw [HP3.out]; try simp [ByteArray.data_append, HVv.out, endL]) ?_; intro p133 c133 W1 HM1; replace HM := Lib.hid HM1; clear HM1; simp only [List.set] at HM)) | (refine apb rfl HM.out 2 0 rfl rfl rfl rfl rfl rfl (by omega) (by omega) (by omega) ?_; intro p1 cap1 W1 HM1; replace HM := Lib.hid HM1; clear HM1; simp only [List.set] at HM) | ((with_reducible refine skip_op ?_ ?_); exact rfl) | refine mP ?_ | (refine mS ?_; clear HM; intro W1 HM) | (refine mL ?_; clear HM; intro g1 W1 HM))
           go_roundw
           case rel => exact ⟨i + 1, nl + 1, o3, i :: k :: q, _, _, _, _, _, rfl, rfl, by go_num, hlt3.out, by omega, h393, Lib.hid (by rw [HNl.out]; rfl), Lib.hid rfl, HV3, HO3, .inr (Lib.hid (push_memN HNl.out HCs.out (HM.out.sub (.cons _ (.refl _)))))⟩
           case measure => have := hlt3.out; simp [intOf]; omega
        ·have bk : ((k : Int) != up) = true := by simpa using hku
         have HPp := Lib.hid (seq_pop (l := elD ms) (i := i) (k := k) (q := q) (fun e h => by rw [HE.out] at h; cases h; exact hku))
         clear HHd HSz HRt
         have HO2 := Lib.hid (show ∀ x ∈ q, x < i from fun x hx => HO.out x (by simp [hx]))
         obtain ⟨y, hy⟩ : ∃ y, ms[k]? = some y := ⟨_, List.getElem?_eq_getElem hkl⟩
         have HYn := Lib.hid (name_at_some (elD_get hy))
         have hyz := (HZs.out y (List.mem_of_getElem? hy)).1
         have e2 := HCb.out.elem ElM.cs 4 ElM.cs_len hy
         obtain ⟨⟨yn, yu, yl, yt⟩, py, cy⟩ := y
         dsimp only at hyz
         have EK := Lib.hid (HB1.out.olds (show Cells W (b.add (k * 4)) [.string yn, .int .i64 yu, .slice py yl.length cy, .string yt] from e2))
         have HHk0 := HHs.out k hkl
         clear e2 hy HO
         cases hkk : hasK (elD ms) k with
         | false =>
          rw [hkk] at HHk0
          have HHk := Lib.hid HHk0
          have HV2 := Lib.hid (show out ++ seqW (elD ms) ((elD ms).drop i) i q = docL (elD ms) by have := HV.out; rw [HPp.out, closeL, if_neg (by rw [hkk]; decide), List.nil_append] at this; exact this)
          clear HHk0 HV HPp hkk
          as_aux_lemma =>
          go_wp2_with fail
          refine wp_region_mem (by kernel_rfl) (by kernel_rfl) HM.out ?_; intro hNE; (repeat (any_goals (first | ((with_reducible refine qgd ?_); (with_reducible refine skip_q ?_ ?_ ?_); (exact rfl); (rotate_left; (exact (hNE.elim fun p => ⟨p.W, p, rfl⟩)))) | refine mQ ?_ | ((with_reducible refine qat 60 ?_); (refine qixa (i := q.length) rfl rfl (by omega) (by omega) ?_)) | ((with_reducible refine qat 61 ?_); (refine qd1 rfl (fun W ⟨qq, hq⟩ => hq ▸ row_cell (qq.mem.get (k := 1) rfl) HTop.out) ?_)) | ((with_reducible refine qat 64 ?_); (refine qixa (i := i) rfl rfl rfl hin ?_)) | ((with_reducible refine qat 66 ?_); (refine qdx1 (i := 1) E1.out rfl rfl ?_)) | go_big_quiet_step (fail) | quiet_step (fail)))); clear hNE; refine wpQuiet_nil ?_; intro W1 HM1; replace HM := Lib.hid HM1; clear HM1
          go_wp2_with (first | ((with_reducible refine iat 74 ?_); (refine ixa (i := q.length) rfl rfl (by omega) (by omega) ?_)) | ((with_reducible refine iat 75 ?_); (refine ldx1 (row_cell (HM.out.get (k := 1) rfl) HTop.out) rfl ?_)) | ((with_reducible refine iat 80 ?_); (refine sltx rfl rfl (m := q.length) (by omega) hqc ?_)) | ((with_reducible refine iat 83 ?_); (refine ixa (i := k) rfl rfl rfl hkl ?_)) | ((with_reducible refine iat 84 ?_); (refine ldx1 (HM.out.olds HHc1.out (k * 1) _ HHk.out) rfl ?_)) | ((with_reducible refine skip_op ?_ ?_); exact rfl) | refine mP ?_ | (refine mS ?_; clear HM; intro W1 HM) | (refine mL ?_; clear HM; intro g1 W1 HM))
          go_roundw
          case rel => exact ⟨q.length, out, q, _, _, _, _, _, rfl, rfl, by omega, h39, Lib.hid rfl, Lib.hid rfl, HV2, HO2, Lib.hid (pop_memN HNl.out HCs.out HM.out)⟩
          case measure => simp only [slLen]; omega
         | true =>
          rw [hkk] at HHk0
          have HHk := Lib.hid HHk0
          obtain ⟨pad, hpad⟩ : ∃ v : ByteArray, v = ⟨(padL q.length).toArray⟩ := ⟨_, rfl⟩
          have hps : pad.size = 2 * q.length := by rw [hpad, mk_size, padL_len]
          have HPd := Lib.hid (show pad.data.toList = padL q.length by rw [hpad])
          have HB := Lib.hid (fun W => rpad_any q.length W (by omega))
          rw [← hpad] at HB
          obtain ⟨o2, ho2⟩ : ∃ x, x = out ++ (padL q.length ++ endL yn) := ⟨_, rfl⟩
          have HO3 := Lib.hid ho2
          have h392 : 39 ≤ o2.length := by rw [ho2, List.length_append]; omega
          have HV2 := Lib.hid (show o2 ++ seqW (elD ms) ((elD ms).drop i) i q = docL (elD ms) by have := HV.out; rw [HPp.out, closeL, if_pos hkk, HYn.out] at this; rw [ho2, ← this]; simp)
          clear HHk0 HV HPp hkk hpad ho2
          as_aux_lemma =>
          go_wp2_with fail
          refine wp_region_mem (by kernel_rfl) (by kernel_rfl) HM.out ?_; intro hNE; (repeat (any_goals (first | ((with_reducible refine qgd ?_); (with_reducible refine skip_q ?_ ?_ ?_); (exact rfl); (rotate_left; (exact (hNE.elim fun p => ⟨p.W, p, rfl⟩)))) | refine mQ ?_ | ((with_reducible refine qat 60 ?_); (refine qixa (i := q.length) rfl rfl (by omega) (by omega) ?_)) | ((with_reducible refine qat 61 ?_); (refine qd1 rfl (fun W ⟨qq, hq⟩ => hq ▸ row_cell (qq.mem.get (k := 1) rfl) HTop.out) ?_)) | ((with_reducible refine qat 64 ?_); (refine qixa (i := i) rfl rfl rfl hin ?_)) | ((with_reducible refine qat 66 ?_); (refine qdx1 (i := 1) E1.out rfl rfl ?_)) | go_big_quiet_step (fail) | quiet_step (fail)))); clear hNE; refine wpQuiet_nil ?_; intro W1 HM1; replace HM := Lib.hid HM1; clear HM1
          go_wp2_with (first | ((with_reducible refine iat 74 ?_); (refine ixa (i := q.length) rfl rfl (by omega) (by omega) ?_)) | ((with_reducible refine iat 75 ?_); (refine ldx1 (row_cell (HM.out.get (k := 1) rfl) HTop.out) rfl ?_)) | ((with_reducible refine iat 80 ?_); (refine sltx rfl rfl (m := q.length) (by omega) hqc ?_)) | ((with_reducible refine iat 83 ?_); (refine ixa (i := k) rfl rfl rfl hkl ?_)) | ((with_reducible refine iat 84 ?_); (refine ldx1 (HM.out.olds HHc1.out (k * 1) _ HHk.out) rfl ?_)) | ((with_reducible refine skip_op ?_ ?_); exact rfl) | refine mP ?_ | (refine mS ?_; clear HM; intro W1 HM) | (refine mL ?_; clear HM; intro g1 W1 HM))
          refine wp_region_steps2 [(true, 0), (true, 1), (true, 2), (true, 5), (true, 6), (true, 7), (true, 8), (true, 9), (false, 3), (true, 4), (true, 10), (true, 11), (false, 12), (true, 13)] (by kernel_rfl) (by kernel_rfl) rfl (by kernel_rfl) (fun _ _ _ _ _ h => h) HM.out _ (.cons _ (.cons_cons _ .slnil)) ?_
          intro hNE W1 HM1; replace HM := Lib.hid HM1; clear HM1
          have HS0 := Lib.hid (HM.out.sub (.cons _ (.cons_cons _ .slnil)))
          simp only [wpSteps, List.getElem?_cons_succ, List.getElem?_cons_zero]
          (repeat (first | ((with_reducible refine wpQuiet_nil ?_); (try dsimp only)) | ((with_reducible refine qgd ?_); (with_reducible refine skip_q ?_ ?_ ?_); (exact rfl); (rotate_left; (exact (hNE.elim fun p => ⟨p.W, p, rfl⟩)))) | refine mQ ?_ | ((with_reducible refine qload ?_); first | (refine qdb1 HS0.out 0 rfl rfl rfl ?_) | (refine qdbW HS0.out 0 rfl rfl rfl ?_) | (refine qdbS HS0.out 0 rfl rfl rfl ?_; simp only [List.take, List.drop])) | ((with_reducible refine qat 92 ?_); (refine qixa (i := k) rfl rfl rfl hkl ?_)) | ((with_reducible refine qat 94 ?_); (refine qdx1 (i := 0) EK.out rfl rfl ?_)) | go_big_quiet_step (fail) | quiet_step (fail)))
          go_wp2_with (first | ((with_reducible refine igd ?_); (with_reducible refine skip_op ?_ ?_); (exact rfl)) | (go_at_call 29; with_reducible refine cQ (HB.out _) ?_) | ((with_reducible refine iat 97 ?_); (refine apB (out' := o2) rfl (by kernel_rfl) HM.out 0 rfl rfl rfl (by (try simp only [ByteArray.size_append, mk_size, List.length_cons, List.length_nil]); omega) (by rw [HO3.out]; try simp [ByteArray.data_append, HPd.out, endL]) ?_; intro p97 c97 W1 HM1; replace HM := Lib.hid HM1; clear HM1; simp only [List.set] at HM)))
          refine ⟨⟨⟨_, HM.out.sub (by repeat (first | exact List.nil_sublist _ | with_reducible refine List.Sublist.cons_cons _ ?_ | refine List.Sublist.cons _ ?_))⟩, rfl⟩, ?_⟩
          (try dsimp only)
          (repeat (first | ((with_reducible refine wpQuiet_nil ?_); (try dsimp only)) | ((with_reducible refine qgd ?_); (with_reducible refine skip_q ?_ ?_ ?_); (exact rfl); (rotate_left; (exact (hNE.elim fun p => ⟨p.W, p, rfl⟩)))) | refine mQ ?_ | ((with_reducible refine qload ?_); first | (refine qdb1 HS0.out 0 rfl rfl rfl ?_) | (refine qdbW HS0.out 0 rfl rfl rfl ?_) | (refine qdbS HS0.out 0 rfl rfl rfl ?_; simp only [List.take, List.drop])) | ((with_reducible refine qat 92 ?_); (refine qixa (i := k) rfl rfl rfl hkl ?_)) | ((with_reducible refine qat 94 ?_); (refine qdx1 (i := 0) EK.out rfl rfl ?_)) | go_big_quiet_step (fail) | quiet_step (fail)))
          go_wp2_with (first | ((with_reducible refine igd ?_); (with_reducible refine skip_op ?_ ?_); (exact rfl)) | (go_at_call 29; with_reducible refine cQ (HB.out _) ?_) | ((with_reducible refine iat 97 ?_); (refine apB (out' := o2) rfl (by kernel_rfl) HM.out 0 rfl rfl rfl (by (try simp only [ByteArray.size_append, mk_size, List.length_cons, List.length_nil]); omega) (by rw [HO3.out]; try simp [ByteArray.data_append, HPd.out, endL]) ?_; intro p97 c97 W1 HM1; replace HM := Lib.hid HM1; clear HM1; simp only [List.set] at HM)))
          refine ⟨⟨⟨_, HM.out.sub (by repeat (first | exact List.nil_sublist _ | with_reducible refine List.Sublist.cons_cons _ ?_ | refine List.Sublist.cons _ ?_))⟩, rfl⟩, ?_⟩
          (try dsimp only)
          (repeat (first | ((with_reducible refine wpQuiet_nil ?_); (try dsimp only)) | ((with_reducible refine qgd ?_); (with_reducible refine skip_q ?_ ?_ ?_); (exact rfl); (rotate_left; (exact (hNE.elim fun p => ⟨p.W, p, rfl⟩)))) | refine mQ ?_ | ((with_reducible refine qload ?_); first | (refine qdb1 HS0.out 0 rfl rfl rfl ?_) | (refine qdbW HS0.out 0 rfl rfl rfl ?_) | (refine qdbS HS0.out 0 rfl rfl rfl ?_; simp only [List.take, List.drop])) | ((with_reducible refine qat 92 ?_); (refine qixa (i := k) rfl rfl rfl hkl ?_)) | ((with_reducible refine qat 94 ?_); (refine qdx1 (i := 0) EK.out rfl rfl ?_)) | go_big_quiet_step (fail) | quiet_step (fail)))
          clear HS0 hNE
          go_wp2_with (first | ((with_reducible refine skip_op ?_ ?_); exact rfl) | refine mP ?_ | (refine mS ?_; clear HM; intro W1 HM) | (refine mL ?_; clear HM; intro g1 W1 HM))
          go_roundw
          case rel => exact ⟨q.length, o2, q, _, _, _, _, _, rfl, rfl, by omega, h392, Lib.hid rfl, Lib.hid rfl, HV2, HO2, Lib.hid (pop_memN HNl.out HCs.out HM.out)⟩
          case measure => simp only [slLen]; omega
      ·obtain rfl : i = ms.length := by omega
       have bn : ((ms.length : Int) == ms.length) = true := by simp
       rcases o with _ | ⟨k, q⟩
       ·have hn0 : nl ≤ 0 := by rw [HNl.out]; exact Nat.le_refl _
        have dn : decide ((0 : Int) < nl) = false := decide_eq_false (by omega)
        have dm : decide (0 < nl) = false := decide_eq_false (by omega)
        have HOk := Lib.hid (show out = docL (elD ms) by have := HV.out; rw [seq_end (List.getElem?_eq_none (by omega))] at this; rw [← this]; simp [closesL])
        by_cases hs2 : 300000 < out.length
        ·have HW := Lib.hid (writeT_long HCk.out (by rw [← HOk.out]; exact hs2))
         have d3 : decide ((300000 : Int) < out.length) = true := decide_eq_true (by omega)
         clear HV HO
         as_aux_lemma =>
         go_wp2_with fail
         refine wp_region_mem (by kernel_rfl) (by kernel_rfl) HM.out ?_; intro hNE; (repeat (any_goals (first | ((with_reducible refine qgd ?_); (with_reducible refine skip_q ?_ ?_ ?_); (exact rfl); (rotate_left; (exact (hNE.elim fun p => ⟨p.W, p, rfl⟩)))) | refine mQ ?_ | go_big_quiet_step (fail) | quiet_step (fail)))); clear hNE; refine wpQuiet_nil ?_; intro W1 HM1; replace HM := Lib.hid HM1; clear HM1
         go_wp2_with fail
         go_ret2
         exact ⟨by rw [HW.out]; rfl, (HB1.out.comp2 HM.out).below⟩
        ·have HW := Lib.hid (writeT_ok HCk.out HOk.out (by omega))
         have d3 : decide ((300000 : Int) < out.length) = false := decide_eq_false (by omega)
         clear HV HO
         as_aux_lemma =>
         go_wp2_with fail
         refine wp_region_mem (by kernel_rfl) (by kernel_rfl) HM.out ?_; intro hNE; (repeat (any_goals (first | ((with_reducible refine qgd ?_); (with_reducible refine skip_q ?_ ?_ ?_); (exact rfl); (rotate_left; (exact (hNE.elim fun p => ⟨p.W, p, rfl⟩)))) | refine mQ ?_ | go_big_quiet_step (fail) | quiet_step (fail)))); clear hNE; refine wpQuiet_nil ?_; intro W1 HM1; replace HM := Lib.hid HM1; clear HM1
         have hback := back_bytes HM.out (by omega)
         go_wp2_with fail
         go_ret2
         exact ⟨by rw [HW.out]; rfl, (HB1.out.comp2 HM.out).below⟩
       ·have hq1 : nl ≤ q.length + 1 := by rw [HNl.out]; exact Nat.le_refl _
        have hq2 : q.length + 1 ≤ nl := by rw [HNl.out]; exact Nat.le_refl _
        have dn : decide ((0 : Int) < nl) = true := decide_eq_true (by omega)
        have dm : decide (0 < nl) = true := decide_eq_true (by omega)
        obtain ⟨bo, rfl⟩ := row_has (HM.out.get (k := 1) rfl) (by omega)
        have hqc : q.length ≤ cq := by have := (row_cap (HM.out.get (k := 1) rfl)).1; omega
        have HTop := Lib.hid (show cs[q.length * 1]? = some (.int .i64 (k : Int)) by rw [HCs.out]; exact top_cell k q)
        have hkl : k < ms.length := HO.out k (by simp)
        have HPp := Lib.hid (seq_pop (l := elD ms) (i := ms.length) (k := k) (q := q) (fun e h => by rw [List.getElem?_eq_none (by omega)] at h; cases h))
        have HO2 := Lib.hid (show ∀ x ∈ q, x < ms.length from fun x hx => HO.out x (by simp [hx]))
        obtain ⟨y, hy⟩ : ∃ y, ms[k]? = some y := ⟨_, List.getElem?_eq_getElem hkl⟩
        have HYn := Lib.hid (name_at_some (elD_get hy))
        have hyz := (HZs.out y (List.mem_of_getElem? hy)).1
        have e2 := HCb.out.elem ElM.cs 4 ElM.cs_len hy
        obtain ⟨⟨yn, yu, yl, yt⟩, py, cy⟩ := y
        dsimp only at hyz
        have EK := Lib.hid (HB1.out.olds (show Cells W (b.add (k * 4)) [.string yn, .int .i64 yu, .slice py yl.length cy, .string yt] from e2))
        have HHk0 := HHs.out k hkl
        clear e2 hy HO
        cases hkk : hasK (elD ms) k with
        | false =>
         rw [hkk] at HHk0
         have HHk := Lib.hid HHk0
         have HV2 := Lib.hid (show out ++ seqW (elD ms) ((elD ms).drop ms.length) ms.length q = docL (elD ms) by have := HV.out; rw [HPp.out, closeL, if_neg (by rw [hkk]; decide), List.nil_append] at this; exact this)
         clear HHk0 HV HPp hkk
         as_aux_lemma =>
         go_wp2_with fail
         refine wp_region_mem (by kernel_rfl) (by kernel_rfl) HM.out ?_; intro hNE; (repeat (any_goals (first | ((with_reducible refine qgd ?_); (with_reducible refine skip_q ?_ ?_ ?_); (exact rfl); (rotate_left; (exact (hNE.elim fun p => ⟨p.W, p, rfl⟩)))) | refine mQ ?_ | go_big_quiet_step (fail) | quiet_step (fail)))); clear hNE; refine wpQuiet_nil ?_; intro W1 HM1; replace HM := Lib.hid HM1; clear HM1
         go_wp2_with (first | ((with_reducible refine iat 74 ?_); (refine ixa (i := q.length) rfl rfl (by omega) (by omega) ?_)) | ((with_reducible refine iat 75 ?_); (refine ldx1 (row_cell (HM.out.get (k := 1) rfl) HTop.out) rfl ?_)) | ((with_reducible refine iat 80 ?_); (refine sltx rfl rfl (m := q.length) (by omega) hqc ?_)) | ((with_reducible refine iat 83 ?_); (refine ixa (i := k) rfl rfl rfl hkl ?_)) | ((with_reducible refine iat 84 ?_); (refine ldx1 (HM.out.olds HHc1.out (k * 1) _ HHk.out) rfl ?_)) | ((with_reducible refine skip_op ?_ ?_); exact rfl) | refine mP ?_ | (refine mS ?_; clear HM; intro W1 HM) | (refine mL ?_; clear HM; intro g1 W1 HM))
         go_roundw
         case rel => exact ⟨q.length, out, q, _, _, _, _, _, rfl, rfl, by omega, h39, Lib.hid rfl, Lib.hid rfl, HV2, HO2, Lib.hid (pop_memN HNl.out HCs.out HM.out)⟩
         case measure => simp only [slLen]; omega
        | true =>
         rw [hkk] at HHk0
         have HHk := Lib.hid HHk0
         obtain ⟨pad, hpad⟩ : ∃ v : ByteArray, v = ⟨(padL q.length).toArray⟩ := ⟨_, rfl⟩
         have hps : pad.size = 2 * q.length := by rw [hpad, mk_size, padL_len]
         have HPd := Lib.hid (show pad.data.toList = padL q.length by rw [hpad])
         have HB := Lib.hid (fun W => rpad_any q.length W (by omega))
         rw [← hpad] at HB
         obtain ⟨o2, ho2⟩ : ∃ x, x = out ++ (padL q.length ++ endL yn) := ⟨_, rfl⟩
         have HO3 := Lib.hid ho2
         have h392 : 39 ≤ o2.length := by rw [ho2, List.length_append]; omega
         have HV2 := Lib.hid (show o2 ++ seqW (elD ms) ((elD ms).drop ms.length) ms.length q = docL (elD ms) by have := HV.out; rw [HPp.out, closeL, if_pos hkk, HYn.out] at this; rw [ho2, ← this]; simp)
         clear HHk0 HV HPp hkk hpad ho2
         as_aux_lemma =>
         go_wp2_with fail
         refine wp_region_mem (by kernel_rfl) (by kernel_rfl) HM.out ?_; intro hNE; (repeat (any_goals (first | ((with_reducible refine qgd ?_); (with_reducible refine skip_q ?_ ?_ ?_); (exact rfl); (rotate_left; (exact (hNE.elim fun p => ⟨p.W, p, rfl⟩)))) | refine mQ ?_ | go_big_quiet_step (fail) | quiet_step (fail)))); clear hNE; refine wpQuiet_nil ?_; intro W1 HM1; replace HM := Lib.hid HM1; clear HM1
         go_wp2_with (first | ((with_reducible refine iat 74 ?_); (refine ixa (i := q.length) rfl rfl (by omega) (by omega) ?_)) | ((with_reducible refine iat 75 ?_); (refine ldx1 (row_cell (HM.out.get (k := 1) rfl) HTop.out) rfl ?_)) | ((with_reducible refine iat 80 ?_); (refine sltx rfl rfl (m := q.length) (by omega) hqc ?_)) | ((with_reducible refine iat 83 ?_); (refine ixa (i := k) rfl rfl rfl hkl ?_)) | ((with_reducible refine iat 84 ?_); (refine ldx1 (HM.out.olds HHc1.out (k * 1) _ HHk.out) rfl ?_)) | ((with_reducible refine skip_op ?_ ?_); exact rfl) | refine mP ?_ | (refine mS ?_; clear HM; intro W1 HM) | (refine mL ?_; clear HM; intro g1 W1 HM))
         refine wp_region_steps2 [(true, 0), (true, 1), (true, 2), (true, 5), (true, 6), (true, 7), (true, 8), (true, 9), (false, 3), (true, 4), (true, 10), (true, 11), (false, 12), (true, 13)] (by kernel_rfl) (by kernel_rfl) rfl (by kernel_rfl) (fun _ _ _ _ _ h => h) HM.out _ (.cons _ (.cons_cons _ .slnil)) ?_
         intro hNE W1 HM1; replace HM := Lib.hid HM1; clear HM1
         have HS0 := Lib.hid (HM.out.sub (.cons _ (.cons_cons _ .slnil)))
         simp only [wpSteps, List.getElem?_cons_succ, List.getElem?_cons_zero]
         (repeat (first | ((with_reducible refine wpQuiet_nil ?_); (try dsimp only)) | ((with_reducible refine qgd ?_); (with_reducible refine skip_q ?_ ?_ ?_); (exact rfl); (rotate_left; (exact (hNE.elim fun p => ⟨p.W, p, rfl⟩)))) | refine mQ ?_ | ((with_reducible refine qload ?_); first | (refine qdb1 HS0.out 0 rfl rfl rfl ?_) | (refine qdbW HS0.out 0 rfl rfl rfl ?_) | (refine qdbS HS0.out 0 rfl rfl rfl ?_; simp only [List.take, List.drop])) | ((with_reducible refine qat 92 ?_); (refine qixa (i := k) rfl rfl rfl hkl ?_)) | ((with_reducible refine qat 94 ?_); (refine qdx1 (i := 0) EK.out rfl rfl ?_)) | go_big_quiet_step (fail) | quiet_step (fail)))
         go_wp2_with (first | ((with_reducible refine igd ?_); (with_reducible refine skip_op ?_ ?_); (exact rfl)) | (go_at_call 29; with_reducible refine cQ (HB.out _) ?_) | ((with_reducible refine iat 97 ?_); (refine apB (out' := o2) rfl (by kernel_rfl) HM.out 0 rfl rfl rfl (by (try simp only [ByteArray.size_append, mk_size, List.length_cons, List.length_nil]); omega) (by rw [HO3.out]; try simp [ByteArray.data_append, HPd.out, endL]) ?_; intro p97 c97 W1 HM1; replace HM := Lib.hid HM1; clear HM1; simp only [List.set] at HM)))
         refine ⟨⟨⟨_, HM.out.sub (by repeat (first | exact List.nil_sublist _ | with_reducible refine List.Sublist.cons_cons _ ?_ | refine List.Sublist.cons _ ?_))⟩, rfl⟩, ?_⟩
         (try dsimp only)
         (repeat (first | ((with_reducible refine wpQuiet_nil ?_); (try dsimp only)) | ((with_reducible refine qgd ?_); (with_reducible refine skip_q ?_ ?_ ?_); (exact rfl); (rotate_left; (exact (hNE.elim fun p => ⟨p.W, p, rfl⟩)))) | refine mQ ?_ | ((with_reducible refine qload ?_); first | (refine qdb1 HS0.out 0 rfl rfl rfl ?_) | (refine qdbW HS0.out 0 rfl rfl rfl ?_) | (refine qdbS HS0.out 0 rfl rfl rfl ?_; simp only [List.take, List.drop])) | ((with_reducible refine qat 92 ?_); (refine qixa (i := k) rfl rfl rfl hkl ?_)) | ((with_reducible refine qat 94 ?_); (refine qdx1 (i := 0) EK.out rfl rfl ?_)) | go_big_quiet_step (fail) | quiet_step (fail)))
         go_wp2_with (first | ((with_reducible refine igd ?_); (with_reducible refine skip_op ?_ ?_); (exact rfl)) | (go_at_call 29; with_reducible refine cQ (HB.out _) ?_) | ((with_reducible refine iat 97 ?_); (refine apB (out' := o2) rfl (by kernel_rfl) HM.out 0 rfl rfl rfl (by (try simp only [ByteArray.size_append, mk_size, List.length_cons, List.length_nil]); omega) (by rw [HO3.out]; try simp [ByteArray.data_append, HPd.out, endL]) ?_; intro p97 c97 W1 HM1; replace HM := Lib.hid HM1; clear HM1; simp only [List.set] at HM)))
         refine ⟨⟨⟨_, HM.out.sub (by repeat (first | exact List.nil_sublist _ | with_reducible refine List.Sublist.cons_cons _ ?_ | refine List.Sublist.cons _ ?_))⟩, rfl⟩, ?_⟩
         (try dsimp only)
         (repeat (first | ((with_reducible refine wpQuiet_nil ?_); (try dsimp only)) | ((with_reducible refine qgd ?_); (with_reducible refine skip_q ?_ ?_ ?_); (exact rfl); (rotate_left; (exact (hNE.elim fun p => ⟨p.W, p, rfl⟩)))) | refine mQ ?_ | ((with_reducible refine qload ?_); first | (refine qdb1 HS0.out 0 rfl rfl rfl ?_) | (refine qdbW HS0.out 0 rfl rfl rfl ?_) | (refine qdbS HS0.out 0 rfl rfl rfl ?_; simp only [List.take, List.drop])) | ((with_reducible refine qat 92 ?_); (refine qixa (i := k) rfl rfl rfl hkl ?_)) | ((with_reducible refine qat 94 ?_); (refine qdx1 (i := 0) EK.out rfl rfl ?_)) | go_big_quiet_step (fail) | quiet_step (fail)))
         clear HS0 hNE
         go_wp2_with (first | ((with_reducible refine skip_op ?_ ?_); exact rfl) | refine mP ?_ | (refine mS ?_; clear HM; intro W1 HM) | (refine mL ?_; clear HM; intro g1 W1 HM))
         go_roundw
         case rel => exact ⟨q.length, o2, q, _, _, _, _, _, rfl, rfl, by omega, h392, Lib.hid rfl, Lib.hid rfl, HV2, HO2, Lib.hid (pop_memN HNl.out HCs.out HM.out)⟩
         case measure => simp only [slLen]; omega
 ·rw [writeT_bad hck]
  generalize checkT (elD ms) = c at *
  have b1 : (c != 0) = true := by simpa using hck
  clear hck h hz
  go_enter Tryz.func16, Tryz.ntmps16
  go_wp2_with (first | (go_at_call 13; (with_reducible refine cB HM (HC.out) ?_); clear HM; intro W1 HM))
  go_ret2
  exact ⟨rfl, HM.out.below⟩
end Go.Proofs.YtanncakdlflopaaGreatDoor

namespace Go.Proofs.YtanncakdlflopaaGreatDoor
open Go.RowKit Go.ChangeShapes Go.WideShapes Go.Deep
set_option linter.unusedVariables false
set_option maxRecDepth 100000
section
variable {H : Type} {enc : TypeId × Value → H} {P : Program} {w : World}
theorem open_cap {P : Program} {e t : TypeId} {v : Value} {d : DataW H} {p : List MemPlace} {enc : TypeId × Value → H} {n c : Nat} {q : Option Addr} (ht : P.underlying t = some (.slice e)) (h : DataW.Trod enc P w 0 (fun _ => true) true t v d p) (hv : v = .slice q n c) : n ≤ c := by
 subst hv
 obtain ⟨fuel, hfu⟩ := h
 rcases open_slice ht hfu with ⟨h1, h2⟩ | ⟨a, len, cap, m, n, D, Pl, h1, hb, hl, hm, hmm, hx, hi⟩
 ·simp only [Value.cells, List.cons.injEq, Value.slice.injEq, and_true] at h1
  omega
 ·simp only [Value.cells, List.cons.injEq, Value.slice.injEq, and_true] at h1
  omega
theorem open_elemsW {v : Value} {d : DataW H} {p : List MemPlace} {r : Reach} {b0 : Nat} (hval : Value.okWide Tryz.prog w r b0 23 v) (h : DataW.Trod enc Tryz.prog w 0 (fun _ => true) true 23 v d p) (hb : Rows.uptoBulk d ≤ 1048576) :
  ∃ (q : Option Addr) (c : Nat) (l : List ElM), v = .slice q l.length c ∧ ElIn w q l ∧ (∀ m ∈ l, szW m.d) ∧ l.length ≤ 1048576 ∧ l.length ≤ c ∧ ∀ m ∈ l, m.d.l.length ≤ 1048576 := by
 obtain ⟨q, c, l, hv, hS, hd⟩ := open_rows ElM.cs 4 (by decide) ElM.cs_len (fun (y : ElM) z => (Sl w y.p (y.d.l.flatMap AtD.cs) ∧ y.d.l.length ≤ y.c) ∧ y.d.n.size ≤ Rows.uptoBulk z ∧ y.d.t.size ≤ Rows.uptoBulk z ∧ (∀ a ∈ y.d.l, a.1.size ≤ Rows.uptoBulk z ∧ a.2.size ≤ Rows.uptoBulk z) ∧ y.d.l.length ≤ Rows.uptoBulk z) Tryz.underlying23 (by kernel_rfl) (fun n cs x hx => elem_dec hx) hval h
 have hcp := open_cap Tryz.underlying23 h hv
 rcases hd with ⟨-, rfl⟩ | ⟨es, sp, rfl, hl, hg⟩
 ·exact ⟨q, c, [], hv, ⟨hS, fun m hm => by simp at hm⟩, fun m hm => by simp at hm, by simp, hcp, fun m hm => by simp at hm⟩
 ·have h1 := bulk_length es
  have h7 := bulk_slice es sp
  have hat : ∀ m ∈ l, (Sl w m.p (m.d.l.flatMap AtD.cs) ∧ m.d.l.length ≤ m.c) ∧ szW m.d ∧ m.d.l.length ≤ 1048576 := by
   intro m hm
   obtain ⟨i, hi⟩ := List.mem_iff_getElem?.1 hm
   obtain ⟨z, hz, g1, g2, g3, g4, g5⟩ := hg i m hi
   have h6 := bulk_mem (List.mem_of_getElem? hz)
   exact ⟨g1, ⟨by omega, by omega, fun a ha => by have := g4 a ha; omega⟩, by omega⟩
  exact ⟨q, c, l, hv, ⟨hS, fun m hm => (hat m hm).1⟩, fun m hm => (hat m hm).2.1, by omega, hcp, fun m hm => (hat m hm).2.2⟩
end
end Go.Proofs.YtanncakdlflopaaGreatDoor

namespace Go.Proofs.YtanncakdlflopaaGreatDoor
open Go.RowKit
set_option linter.unusedVariables false
set_option linter.unusedSimpArgs false
set_option maxRecDepth 100000

theorem writeT_cases (l : List ElD) : (∃ c : Int, c ≠ 0 ∧ (checkT l = 0 → c = 6) ∧ writeT l = (⟨#[]⟩, c)) ∨ (checkT l = 0 ∧ (docL l).length ≤ 300000 ∧ writeT l = (⟨(docL l).toArray⟩, 0)) := by
 unfold writeT
 by_cases h : checkT l = 0
 ·rw [if_pos h]
  by_cases h2 : 300000 < (docL l).length
  ·rw [if_pos h2]
   exact .inl ⟨6, by decide, fun _ => rfl, rfl⟩
  ·rw [if_neg h2]
   exact .inr ⟨h, by omega, rfl⟩
 ·rw [if_neg h]
  exact .inl ⟨_, h, fun h2 => absurd h2 h, rfl⟩
theorem checkT_len {l : List ElD} (h : checkT l = 0) : ∀ e ∈ l, e.l.length ≤ 16 := by
 intro e he
 obtain ⟨j, hj⟩ := List.getElem?_of_mem he
 exact (right_parts (checkT_all h j e hj).1).2.2.1

set_option maxHeartbeats 8000000 in
theorem treeWrites_walk (p : Option Addr) (cp : Nat) (ms : List ElM) (W : World) (hT : U8 W) (hE : ErrsAt W) (hX : MaxAt W) (h : ElIn W p ms) (hz : ∀ m ∈ ms, szW m.d) (hl : ms.length ≤ 1048576) (hc : ms.length ≤ cp) :
  Calls Tryz.prog 5 #[.slice p ms.length cp] W fun e w' => e = .returned (.bool true) ∧ Below W.heap.size W w' := by
 have HM := Lib.hid (Mem.start W)
 have HT := Lib.hid hT
 have HE := Lib.hid hE
 have HX := Lib.hid hX
 have HI := Lib.hid h
 have HK := Lib.hid (tknown_any W hT hE hX)
 have HC1 := Lib.hid (fun W2 (hM : Mem W W2 []) => rwrite_any p cp ms W2 (h.mem hM) hz)
 have HC2 := Lib.hid (fun W2 (hM : Mem W W2 []) => twrite_any p cp ms W2 (HT.out.below hM.below) (h.mem hM) hz hc)
 rcases writeT_cases (elD ms) with ⟨c, hc0, -, hw⟩ | ⟨hck, hdl, hw⟩
 ·rw [hw] at HC1 HC2
  have b1 : (c != c) = false := by simp
  have b2 : (c != 0) = true := by simpa using hc0
  clear hT hE hX h hz hw hc0
  go_enter Tryz.func5, Tryz.ntmps5
  go_wp2_with (first | (go_at_call 8; (with_reducible refine cB HM (HK.out) ?_); clear HM; intro W1 HM) | (go_at_call 16; (with_reducible refine cB HM (HC1.out _ HM.out) ?_); clear HM; intro W1 HM) | (go_at_call 17; (with_reducible refine cB HM (HC2.out _ HM.out) ?_); clear HM; intro W1 HM) | ((with_reducible refine skip_op ?_ ?_); exact rfl))
  go_ret
  exact ⟨rfl, HM.out.below⟩
 ·rw [hw] at HC1 HC2
  have hb := read_back hck hdl
  have h16 := checkT_len hck
  obtain ⟨U, hU⟩ : ∃ U : ByteArray, U = ⟨(docL (elD ms)).toArray⟩ := ⟨_, rfl⟩
  have hUs : U.size ≤ 1048576 := by rw [hU, mk_size]; omega
  rw [← hU] at HC1 HC2 hb
  have b1 : (U.toList == U.toList) = true := by simp
  have HR := Lib.hid (fun W2 h1 h2 h3 => tread_any U W2 _ hb h1 h2 h3 hUs)
  have H16 := Lib.hid h16
  clear hT hE hX h hz hw hU hb hck hdl h16 hUs
  go_enter Tryz.func5, Tryz.ntmps5
  go_wp2_with (first | (go_at_call 8; (with_reducible refine cB HM (HK.out) ?_); clear HM; intro W1 HM) | (go_at_call 16; (with_reducible refine cB HM (HC1.out _ HM.out) ?_); clear HM; intro W1 HM) | (go_at_call 17; (with_reducible refine cB HM (HC2.out _ HM.out) ?_); clear HM; intro W1 HM) | ((with_reducible refine skip_op ?_ ?_); exact rfl))
  refine (HR.out _ (HT.out.below HM.out.below) (HE.out.below HM.out.below) (HX.out.below HM.out.below)).mono ?_
  rintro e W3 ⟨ys, py, cy, hdy, hly, rfl, hM⟩
  have HM1 := Lib.hid (HM.out.comp2 hM)
  clear HM hM HR HK HC1 HC2
  have HM := HM1
  clear HM1
  have HS := Lib.hid (rtsame_any py p cy cp ys ms _ (elin_own (els := ys) (p := py) (c := cy) (n := ys.length) HM.out (by simp) (fun r hr => by simp [hr])) (HI.out.mem HM.out) hdy (by omega) (fun m hm => by
   have := H16.out m.d (by rw [← hdy]; exact List.mem_map.2 ⟨m, hm, rfl⟩)
   omega))
  clear hdy
  go_wp2_with (first | (go_at_call 11; (with_reducible refine cB HM (HS.out) ?_); clear HM; intro W1 HM) | ((with_reducible refine skip_op ?_ ?_); exact rfl))
  go_ret
  exact ⟨rfl, HM.out.below⟩
end Go.Proofs.YtanncakdlflopaaGreatDoor
