/- The reference's grown: a tree of pieces. (short) The reference's DocRead; the walk over TreeReads. (short) -/
import Derived.Test.YtanncakdlflopaaGreatDoorTreeHI
namespace Go.Proofs.YtanncakdlflopaaGreatDoor
open Go.RowKit
set_option linter.unusedVariables false
set_option linter.unusedSimpArgs false
set_option maxRecDepth 100000

section
variable {P : Program} {ops : Array Oper} {Q : Exit → Act → World → Prop} {a : Act} {W W' w0 : World} {rest : List Oper} {L : List Res}
variable {dst : Option Tmp} {ty0 : TypeId} {pos : String} {after : Array Edge} {gd : Option (Nat × Bool)}
/-- An append to an empty row. -/
theorem apr0 {t e : TypeId} {k bytes : Nat} {z : Value} [hR : RowT P t e k bytes z] {s x : Operand} {p q : Option Addr} {cap m c : Nat} {news : List Value} (hw : Region.wanted ⟨dst, .call { callee := .builtin .append, args := #[s, x], argTypes := #[t, t] }, ty0, pos, after, gd⟩ (yielded ops a.tmps) = true)
    (HM : Mem w0 W L) (j : Nat) (hj : L[j]? = some (.row p cap e k 0 [])) (hs : a.eval s = .slice p 0 cap) (hx : a.eval x = .slice q m c)
    (hl : news.length = m * k) (hq : q = none → m = 0) (hnews : ∀ b, q = some b → Cells W b news) (h1 : ∀ u ∈ news, u.oneCell' = true) (h63 : m ≤ maxLen) (hbytes : m * bytes ≤ 140737488355328)
    (h : ∀ p' cap' W', Mem w0 W' (L.set j (.row p' cap' e k m news)) → wpList P ops Q (⟨dst, .move (.const (.slice p' m cap')), ty0, pos, after, gd⟩ :: rest) a W') :
    wpList P ops Q (⟨dst, .call { callee := .builtin .append, args := #[s, x], argTypes := #[t, t] }, ty0, pos, after, gd⟩ :: rest) a W := by
  refine apr hw HM j hj hs hx hl hq hnews h1 (by omega) (by rw [Nat.zero_add]; exact hbytes) (fun p' cap' W' hM _ => ?_)
  rw [Nat.zero_add, List.nil_append] at hM
  rw [Nat.zero_add]
  exact h p' cap' W' hM
end
theorem ats_one (l : List AtD) : ∀ u ∈ l.flatMap AtD.cs, u.oneCell' = true := by
  intro u hu
  obtain ⟨x, -, hx⟩ := List.mem_flatMap.1 hu
  simp only [AtD.cs, List.mem_cons, List.not_mem_nil, or_false] at hx
  rcases hx with rfl | rfl <;> rfl
/-- What grown answers. -/
def grownF (l : List EvD) : Option (List ElD) := match growF l ⟨[], [], []⟩ with
  | none => none
  | some g => match clearF g.ts g.has with
    | none => none
    | some t => if g.ts.length = 0 ∨ g.st ≠ [] then none else some t
def GRPost (r : Option (List ElD)) (w0 : World) (e : Ending) (w' : World) : Prop :=
  match r with
  | none => ∃ v, e = .returned (.tuple #[v, .bool false]) ∧ Below w0.heap.size w0 w'
  | some t => ∃ (els : List ElM) (p : Option Addr) (c : Nat), elD els = t ∧ els.length ≤ 600000 ∧ e = .returned (.tuple #[.slice p els.length c, .bool true]) ∧ Mem w0 w' (.row p c 42 4 els.length (elC els) :: elR els)
theorem gr_none {r : Option (List ElD)} {w0 w' : World} {v : Value} (h : r = none) (hb : Below w0.heap.size w0 w') : GRPost r w0 (.returned (.tuple #[v, .bool false])) w' := by
  subst h; exact ⟨v, rfl, hb⟩
theorem grn_fin {w0 W : World} {els : List ElM} {has : List Bool} {st : List Nat} {x : ElM} {p1 p2 p3 : Option Addr} {c1 c2 c3 : Nat} {b1 b2 b3 b8 : Res}
    (h : Mem w0 W (b3 :: b2 :: x.res :: b1 :: b8 :: .row p2 c2 42 4 (els.length + 1) ((elC els).take (els.length * 4) ++ x.cs) :: .row p3 c3 4 1 (has.length + 1) ((boC has).take (has.length * 1) ++ [.bool false]) :: .row p1 c1 3 1 (st.length + 1) ((intC st.reverse).take (st.length * 1) ++ [.int .i64 (els.length : Nat)]) :: elR els)) :
    Mem w0 W (.row p2 c2 42 4 (els ++ [x]).length (elC (els ++ [x])) :: .row p3 c3 4 1 (has ++ [false]).length (boC (has ++ [false])) :: .row p1 c1 3 1 (els.length :: st).length (intC (els.length :: st).reverse) :: elR (els ++ [x])) := by
  have h1 : Mem w0 W (x.res :: .row p2 c2 42 4 (els.length + 1) ((elC els).take (els.length * 4) ++ x.cs) :: .row p3 c3 4 1 (has.length + 1) ((boC has).take (has.length * 1) ++ [.bool false]) :: .row p1 c1 3 1 (st.length + 1) ((intC st.reverse).take (st.length * 1) ++ [.int .i64 (els.length : Nat)]) :: elR els) :=
    h.sub (.cons _ (.cons _ (.cons_cons _ (.cons _ (.cons _ (.refl _))))))
  rw [elC_snoc, boC_snoc, push_row] at h1
  rw [List.length_append, List.length_append, show elR (els ++ [x]) = elR els ++ [x.res] by simp [elR]]
  refine h1.perm ?_
  exact (List.perm_append_comm (l₁ := [x.res]) (l₂ := _ :: _ :: _ :: elR els))

theorem elD_snoc (els : List ElM) (x : ElM) : elD (els ++ [x]) = elD els ++ [x.d] := by simp [elD]
theorem gro_next {l : List EvD} {i : Nat} {g g2 : GrD} {e : EvD} {gr : Option GrD} (hgo : (match grow1 g e with
    | none => none
    | some g2 => growF (l.drop (i + 1)) g2) = gr) (hg : grow1 g e = some g2) : growF (l.drop (i + 1)) g2 = gr := by rw [hg] at hgo; exact hgo
theorem gro_bad {l : List EvD} {i : Nat} {g : GrD} {e : EvD} {gr : Option GrD} (hgo : (match grow1 g e with
    | none => none
    | some g2 => growF (l.drop (i + 1)) g2) = gr) (hg : grow1 g e = none) : gr = none := by rw [hg] at hgo; exact hgo.symm
theorem pop_mem3 {w0 W : World} {p : Option Addr} {c k : Nat} {q : List Nat} {L : List Res} {a b : Res} (h : Mem w0 W (a :: b :: .row p c 3 1 (q.length + 1) (intC (k :: q).reverse) :: L)) : Mem w0 W (a :: b :: .row p c 3 1 q.length (intC q.reverse) :: L) := by
  have := h.trunc (k := 2) rfl (m := q.length) (by omega)
  rw [pop_take] at this
  exact this
theorem sz_next {B : Nat} {g g2 : GrD} {e : EvD} {i : Nat} (hB : B = 300000 * i) (h : grow1 g e = some g2) (he : okE 300000 e) (hg : ∀ x ∈ g.ts, x.n.size ≤ 300000 ∧ x.t.size ≤ B ∧ ∀ a ∈ x.l, a.1.size ≤ 300000 ∧ a.2.size ≤ 300000) :
    ∀ x ∈ g2.ts, x.n.size ≤ 300000 ∧ x.t.size ≤ 300000 * (i + 1) ∧ ∀ a ∈ x.l, a.1.size ≤ 300000 ∧ a.2.size ≤ 300000 := by
  rw [Nat.mul_add, Nat.mul_one, ← hB]
  exact grow_sz h he hg

set_option maxHeartbeats 32000000 in
theorem rgrown_any (p : Option Addr) (cp : Nat) (ms : List EvM) (W : World) (r : Option (List ElD)) (hr : grownF (outD ms) = r) (h1 : Sl W p (outC ms)) (h2 : ∀ m ∈ ms, Sl W m.p (m.d.l.flatMap AtD.cs)) (hok : ∀ e ∈ outD ms, okE 300000 e ∧ e.l.length ≤ 16) (hms : ms.length ≤ 600000) :
    Calls Tryz.prog 21 #[.slice p ms.length cp] W (GRPost r W) := by
  have HM := Lib.hid ((((Mem.start W).row0 3 1).row0 4 1).row0 42 4)
  have H1 := Lib.hid h1
  have H2 := Lib.hid h2
  have HOk := Lib.hid hok
  obtain ⟨gr, hgr⟩ : ∃ x, growF (outD ms) ⟨[], [], []⟩ = x := ⟨_, rfl⟩
  unfold grownF at hr
  rw [hgr] at hr
  have HR := Lib.hid hr
  have HG := Lib.hid (show growF ((outD ms).drop 0) ⟨elD [], [], []⟩ = gr from hgr)
  clear h1 h2 hok hr hgr
  go_enter Tryz.func21, Tryz.ntmps21
  go_wp2_with fail
  go_loopw [4, 5, 6, 7] (fun tv hv ov iv wr => ∃ (i : Nat) (els : List ElM) (has : List Bool) (st : List Nat) (pt ph po : Option Addr) (ct ch co : Nat), tv = .slice pt els.length ct ∧ hv = .slice ph has.length ch ∧ ov = .slice po st.length co ∧ iv = .int .i64 i ∧ i ≤ ms.length ∧ els.length ≤ i ∧ st.length ≤ i ∧ Hid (has.length = els.length) ∧ Hid (growF ((outD ms).drop i) ⟨elD els, has, st⟩ = gr) ∧ Hid (upP (elD els) st) ∧ Hid (∀ x ∈ elD els, x.n.size ≤ 300000 ∧ x.t.size ≤ 300000 * i ∧ ∀ a ∈ x.l, a.1.size ≤ 300000 ∧ a.2.size ≤ 300000) ∧
    Hid (Mem W wr (.row pt ct 42 4 els.length (elC els) :: .row ph ch 4 1 has.length (boC has) :: .row po co 3 1 st.length (intC st.reverse) :: elR els))) (fun _ _ _ iv _ => ms.length - (intOf iv).toNat)
  case atStart => exact ⟨0, [], [], [], none, none, none, 0, 0, 0, rfl, rfl, rfl, rfl, by omega, by simp, by simp, Lib.hid rfl, HG, Lib.hid trivial, Lib.hid (by intro x hx; simp [elD] at hx), HM⟩
  case round =>
    clear HM HG
    obtain ⟨i, els, has, st, pt, ph, po, ct, ch, co, rfl, rfl, rfl, rfl, hi, hel, hsl, HHl, HG, HU, HZ, HM⟩ := hrel
    by_cases hlt : i < ms.length
    · obtain ⟨b, rfl, hb⟩ := H1.out.some_at EvM.cs_len (by decide) hlt
      obtain ⟨m, hm⟩ : ∃ m, ms[i]? = some m := ⟨_, List.getElem?_eq_getElem hlt⟩
      have hmd : (outD ms)[i]? = some m.d := by unfold outD; rw [List.getElem?_map, hm]; rfl
      obtain ⟨hmok, hm16⟩ := HOk.out m.d (List.mem_of_getElem? hmd)
      have HGs := Lib.hid (grow_step (g := ⟨elD els, has, st⟩) hmd)
      have hma := H2.out m (List.mem_of_getElem? hm)
      have e1 := hb.elem EvM.cs 4 EvM.cs_len hm
      obtain ⟨⟨k, n, l, t⟩, pa, ca⟩ := m
      have E1 := Lib.hid (show Cells W (b.add (i * 4)) [.int .i64 k, .string n, .slice pa l.length ca, .string t] from e1)
      have d1 : decide ((i : Int) < ms.length) = true := decide_eq_true (by omega)
      have hlt3 := Lib.hid (show i + 1 ≤ ms.length from hlt)
      have HMo := Lib.hid hmok
      dsimp only at hm16 hma
      have HMa := Lib.hid hma
      clear hma
      have hh2 : has.length ≤ 600000 := by rw [HHl.out]; omega
      have HEd := Lib.hid (show (elD els).length = els.length from List.length_map ..)
      clear hb hm hmd hmok e1
      have HGo := Lib.hid (HGs.out.symm.trans HG.out)
      clear HGs HG
      by_cases k1 : k = 1
      · subst k1
        cases st with
        | nil =>
          simp only [List.length_nil, List.reverse_nil] at HM ⊢
          by_cases h0 : els.length = 0
          · have hg : grow1 ⟨elD els, has, []⟩ ⟨1, n, l, t⟩ = some ⟨elD els ++ [⟨n, -1, l, ⟨#[]⟩⟩], has ++ [false], [els.length]⟩ := by
              unfold grow1
              rw [if_pos rfl]
              dsimp only
              rw [if_pos (by rw [HEd.out]; exact h0), HEd.out]
            have HGn := Lib.hid (gro_next HGo.out hg)
            have HZn := Lib.hid (sz_next rfl hg HMo.out HZ.out)
            have HU2 := Lib.hid (show upP (elD els ++ [⟨n, -1, l, ⟨#[]⟩⟩]) [els.length] from ⟨⟨_, by rw [List.getElem?_append_right (by rw [HEd.out]; exact Nat.le_refl _)]; rw [HEd.out]; simp; rfl, rfl⟩, trivial⟩)
            have d2 : decide ((0 : Int) < (els.length : Int)) = false := decide_eq_false (by omega)
            have d3 : decide (0 < els.length) = false := decide_eq_false (by omega)
            clear h0 HGo HU hg HZ
            as_aux_lemma =>
            go_wp2_with (first | ((with_reducible refine iat 20 ?_); (refine ixa (i := i) rfl rfl rfl hlt ?_)) | ((with_reducible refine iat 21 ?_); (refine ldxW (HM.out.olds E1.out) rfl rfl ?_)) | ((with_reducible refine skip_op ?_ ?_); exact rfl) | refine mP ?_ | (refine mS ?_; clear HM; intro W1 HM) | (refine mL ?_; clear HM; intro g1 W1 HM) | (refine hal (dst := some 8) HM rfl ?_; clear HM; intro g8 W1 HM) | ((with_reducible refine iat 63 ?_); ((refine apb rfl HM.out 4 0 rfl rfl rfl rfl rfl rfl (by omega) (by omega) (by omega) ?_; intro p1 c1 W1 HM1; replace HM := Lib.hid HM1; clear HM1; simp only [List.set] at HM))))
            refine wp_region_steps2 [(true, 0), (true, 1), (true, 2), (true, 3), (true, 5), (true, 6), (false, 4), (false, 7), (true, 8), (false, 9), (false, 10), (true, 11)] (by kernel_rfl) (by kernel_rfl) rfl (by kernel_rfl) (fun _ _ _ _ _ h => h) HM.out _ (.cons _ (.cons_cons _ (.cons _ (List.nil_sublist _)))) ?_
            intro hNE W1 HM1; replace HM := Lib.hid HM1; clear HM1
            have HS0 := Lib.hid (HM.out.sub (.cons _ (.cons_cons _ (.cons _ (List.nil_sublist _)))))
            simp only [wpSteps, List.getElem?_cons_succ, List.getElem?_cons_zero]
            (repeat (first | ((with_reducible refine wpQuiet_nil ?_); (try dsimp only)) | refine mQ ?_ | go_big_quiet_step (fail) | quiet_step (fail)))
            go_wp2_with (first | (refine bs0 rfl HM.out ?_; intro g0 W1 HM1; replace HM := Lib.hid HM1; clear HM1) | (refine mL ?_; clear HM; intro g1 W1 HM))
            refine ⟨⟨⟨_, HM.out.sub (by repeat (first | exact List.nil_sublist _ | with_reducible refine List.Sublist.cons_cons _ ?_ | refine List.Sublist.cons _ ?_))⟩, rfl⟩, ?_⟩
            (try dsimp only)
            go_wp2_with (first | ((with_reducible refine iat 71 ?_); (refine apr0 (news := l.flatMap AtD.cs) rfl HM.out 0 rfl rfl rfl (by rw [flat_len AtD.cs 2 AtD.cs_len]) ((HM.out.sl HMa.out).nil_len AtD.cs_len (by decide)) (HM.out.sl HMa.out).2 (ats_one l) (by unfold maxLen; omega) (by omega) ?_; intro pA cA W1 HM1; replace HM := Lib.hid HM1; clear HM1; simp only [List.set] at HM)))
            refine ⟨⟨⟨_, HM.out.sub (by repeat (first | exact List.nil_sublist _ | with_reducible refine List.Sublist.cons_cons _ ?_ | refine List.Sublist.cons _ ?_))⟩, rfl⟩, ?_⟩
            (try dsimp only)
            (repeat (first | ((with_reducible refine wpQuiet_nil ?_); (try dsimp only)) | refine mQ ?_ | go_big_quiet_step (fail) | quiet_step (fail)))
            go_wp2_with (first | (refine bs0 rfl HM.out ?_; intro g0 W1 HM1; replace HM := Lib.hid HM1; clear HM1) | (refine mL ?_; clear HM; intro g1 W1 HM))
            refine ⟨⟨⟨_, HM.out.sub (by repeat (first | exact List.nil_sublist _ | with_reducible refine List.Sublist.cons_cons _ ?_ | refine List.Sublist.cons _ ?_))⟩, rfl⟩, ?_⟩
            (try dsimp only)
            go_wp2_with (first | ((with_reducible refine iat 74 ?_); ((refine apb rfl HM.out 4 0 rfl rfl rfl rfl rfl rfl (by omega) (by omega) (by omega) ?_; intro p2 c2 W1 HM1; replace HM := Lib.hid HM1; clear HM1; simp only [List.set] at HM))))
            refine ⟨⟨⟨_, HM.out.sub (by repeat (first | exact List.nil_sublist _ | with_reducible refine List.Sublist.cons_cons _ ?_ | refine List.Sublist.cons _ ?_))⟩, rfl⟩, ?_⟩
            (try dsimp only)
            (repeat (first | ((with_reducible refine wpQuiet_nil ?_); (try dsimp only)) | refine mQ ?_ | go_big_quiet_step (fail) | quiet_step (fail)))
            clear HS0 hNE
            go_wp2_with (first | ((with_reducible refine iat 77 ?_); ((refine apb rfl HM.out 6 0 rfl rfl rfl rfl rfl rfl (by omega) (by omega) (by omega) ?_; intro p3 c3 W1 HM1; replace HM := Lib.hid HM1; clear HM1; simp only [List.set] at HM))) | ((with_reducible refine skip_op ?_ ?_); exact rfl) | refine mP ?_ | (refine mS ?_; clear HM; intro W1 HM) | (refine mL ?_; clear HM; intro g1 W1 HM) | (refine hal HM rfl ?_; clear HM; intro g1 W1 HM))
            go_roundw
            case rel => exact ⟨i + 1, els ++ [⟨⟨n, -1, l, ⟨#[]⟩⟩, pA, cA⟩], has ++ [false], [els.length], p2, p3, p1, c2, c3, c1, by rw [List.length_append]; rfl, by rw [List.length_append]; rfl, rfl, by go_num, hlt3.out, by rw [List.length_append]; simp; omega, by simp, Lib.hid (by rw [List.length_append, List.length_append, HHl.out]; rfl), Lib.hid (by rw [elD_snoc]; exact HGn.out), Lib.hid (by rw [elD_snoc]; exact HU2.out), Lib.hid (by rw [elD_snoc]; exact HZn.out), Lib.hid (grn_fin (x := ⟨⟨n, -1, l, ⟨#[]⟩⟩, pA, cA⟩) (st := []) HM.out)⟩
            case measure => have := hlt3.out; simp [intOf]; omega
          · have hg : grow1 ⟨elD els, has, []⟩ ⟨1, n, l, t⟩ = none := by
              unfold grow1
              rw [if_pos rfl]
              dsimp only
              rw [if_neg (by rw [HEd.out]; exact h0)]
            have HR2 := Lib.hid (show r = none by have := HR.out; rw [gro_bad (l := outD ms) (i := i) HGo.out hg] at this; exact this.symm)
            have d2 : decide ((0 : Int) < (els.length : Int)) = true := decide_eq_true (by omega)
            have d3 : decide (0 < els.length) = true := decide_eq_true (by omega)
            clear h0 HGo HU hg HZ
            as_aux_lemma =>
            go_wp2_with (first | ((with_reducible refine iat 20 ?_); (refine ixa (i := i) rfl rfl rfl hlt ?_)) | ((with_reducible refine iat 21 ?_); (refine ldxW (HM.out.olds E1.out) rfl rfl ?_)) | ((with_reducible refine skip_op ?_ ?_); exact rfl) | refine mP ?_ | (refine mS ?_; clear HM; intro W1 HM) | (refine mL ?_; clear HM; intro g1 W1 HM) | (refine hal (dst := some 8) HM rfl ?_; clear HM; intro g8 W1 HM))
            go_ret2
            exact gr_none HR2.out HM.out.below
        | cons k0 q =>
          simp only [List.length_cons] at HM hsl ⊢
          obtain ⟨⟨xe, hxe, -⟩, -⟩ := HU.out
          have hk0 : k0 < els.length := by rw [← HEd.out]; exact (List.getElem?_eq_some_iff.1 hxe).1
          obtain ⟨x, hx⟩ : ∃ x, els[k0]? = some x := ⟨_, List.getElem?_eq_getElem hk0⟩
          clear hxe xe
          obtain ⟨bo, rfl⟩ := row_has (HM.out.get (k := 2) rfl) (by omega)
          obtain ⟨cs, hcs⟩ : ∃ cs, intC (k0 :: q).reverse = cs := ⟨_, rfl⟩
          have HTop := Lib.hid (show cs[q.length * 1]? = some (.int .i64 (k0 : Int)) by rw [← hcs]; exact top_cell k0 q)
          rw [hcs] at HM
          have HCs := Lib.hid hcs
          have dlen : decide ((0 : Int) < (q.length : Int) + 1) = true := decide_eq_true (by omega)
          have blen : ((q.length : Int) + 1 == 0) = false := by simpa using (by omega : ¬ (q.length : Int) + 1 = 0)
          clear hcs
          have hg : grow1 ⟨elD els, has, k0 :: q⟩ ⟨1, n, l, t⟩ = some ⟨elD els ++ [⟨n, k0, l, ⟨#[]⟩⟩], has.set k0 true ++ [false], els.length :: k0 :: q⟩ := by
            unfold grow1
            rw [if_pos rfl]
            dsimp only
            rw [HEd.out]
          have HGn := Lib.hid (gro_next HGo.out hg)
          have HZn := Lib.hid (sz_next rfl hg HMo.out HZ.out)
          have HU2 := Lib.hid (show upP (elD els ++ [⟨n, k0, l, ⟨#[]⟩⟩]) (els.length :: k0 :: q) from ⟨⟨_, by rw [List.getElem?_append_right (by rw [HEd.out]; exact Nat.le_refl _)]; rw [HEd.out]; simp; rfl, rfl⟩, upP_mono HU.out⟩)
          have hk0h : k0 < has.length := by rw [HHl.out]; exact hk0
          have hbc : k0 * 1 < (boC has).length := by rw [Nat.mul_one, boC_len]; exact hk0h
          obtain ⟨bh, rfl⟩ := row_has (HM.out.get (k := 1) rfl) (by omega)
          clear HGo HU hg HZ
          as_aux_lemma =>
          go_wp2_with (first | ((with_reducible refine iat 20 ?_); (refine ixa (i := i) rfl rfl rfl hlt ?_)) | ((with_reducible refine iat 21 ?_); (refine ldxW (HM.out.olds E1.out) rfl rfl ?_)) | ((with_reducible refine skip_op ?_ ?_); exact rfl) | refine mP ?_ | (refine mS ?_; clear HM; intro W1 HM) | (refine mL ?_; clear HM; intro g1 W1 HM) | (refine hal (dst := some 8) HM rfl ?_; clear HM; intro g8 W1 HM) | ((with_reducible refine iat 51 ?_); (refine ixa (i := q.length) rfl rfl (by simp) (by omega) ?_)) | ((with_reducible refine iat 52 ?_); (refine ldx1 (row_cell (HM.out.get (k := 3) rfl) HTop.out) rfl ?_)) | ((with_reducible refine iat 55 ?_); (refine ixa (i := k0) rfl rfl rfl hk0h ?_)) | ((with_reducible refine istore ?_); (refine strw (i := k0 * 1) (v := .bool true) rfl HM.out 2 rfl rfl rfl rfl hbc ?_); intro W1 HM1; replace HM := Lib.hid HM1; clear HM1; simp only [List.set, Nat.mul_one] at HM) | ((with_reducible refine iat 63 ?_); ((refine apb rfl HM.out 4 0 rfl rfl rfl rfl rfl rfl (by omega) (by omega) (by omega) ?_; intro p1 c1 W1 HM1; replace HM := Lib.hid HM1; clear HM1; simp only [List.set] at HM))))
          refine wp_region_steps2 [(true, 0), (true, 1), (true, 2), (true, 3), (true, 5), (true, 6), (false, 4), (false, 7), (true, 8), (false, 9), (false, 10), (true, 11)] (by kernel_rfl) (by kernel_rfl) rfl (by kernel_rfl) (fun _ _ _ _ _ h => h) HM.out _ (.cons _ (.cons_cons _ (.cons _ (List.nil_sublist _)))) ?_
          intro hNE W1 HM1; replace HM := Lib.hid HM1; clear HM1
          have HS0 := Lib.hid (HM.out.sub (.cons _ (.cons_cons _ (.cons _ (List.nil_sublist _)))))
          simp only [wpSteps, List.getElem?_cons_succ, List.getElem?_cons_zero]
          (repeat (first | ((with_reducible refine wpQuiet_nil ?_); (try dsimp only)) | refine mQ ?_ | go_big_quiet_step (fail) | quiet_step (fail)))
          go_wp2_with (first | (refine bs0 rfl HM.out ?_; intro g0 W1 HM1; replace HM := Lib.hid HM1; clear HM1) | (refine mL ?_; clear HM; intro g1 W1 HM))
          refine ⟨⟨⟨_, HM.out.sub (by repeat (first | exact List.nil_sublist _ | with_reducible refine List.Sublist.cons_cons _ ?_ | refine List.Sublist.cons _ ?_))⟩, rfl⟩, ?_⟩
          (try dsimp only)
          go_wp2_with (first | ((with_reducible refine iat 71 ?_); (refine apr0 (news := l.flatMap AtD.cs) rfl HM.out 0 rfl rfl rfl (by rw [flat_len AtD.cs 2 AtD.cs_len]) ((HM.out.sl HMa.out).nil_len AtD.cs_len (by decide)) (HM.out.sl HMa.out).2 (ats_one l) (by unfold maxLen; omega) (by omega) ?_; intro pA cA W1 HM1; replace HM := Lib.hid HM1; clear HM1; simp only [List.set] at HM)))
          refine ⟨⟨⟨_, HM.out.sub (by repeat (first | exact List.nil_sublist _ | with_reducible refine List.Sublist.cons_cons _ ?_ | refine List.Sublist.cons _ ?_))⟩, rfl⟩, ?_⟩
          (try dsimp only)
          (repeat (first | ((with_reducible refine wpQuiet_nil ?_); (try dsimp only)) | refine mQ ?_ | go_big_quiet_step (fail) | quiet_step (fail)))
          go_wp2_with (first | (refine bs0 rfl HM.out ?_; intro g0 W1 HM1; replace HM := Lib.hid HM1; clear HM1) | (refine mL ?_; clear HM; intro g1 W1 HM))
          refine ⟨⟨⟨_, HM.out.sub (by repeat (first | exact List.nil_sublist _ | with_reducible refine List.Sublist.cons_cons _ ?_ | refine List.Sublist.cons _ ?_))⟩, rfl⟩, ?_⟩
          (try dsimp only)
          go_wp2_with (first | ((with_reducible refine iat 74 ?_); ((refine apb rfl HM.out 4 0 rfl rfl rfl rfl rfl rfl (by omega) (by omega) (by omega) ?_; intro p2 c2 W1 HM1; replace HM := Lib.hid HM1; clear HM1; simp only [List.set] at HM))))
          refine ⟨⟨⟨_, HM.out.sub (by repeat (first | exact List.nil_sublist _ | with_reducible refine List.Sublist.cons_cons _ ?_ | refine List.Sublist.cons _ ?_))⟩, rfl⟩, ?_⟩
          (try dsimp only)
          (repeat (first | ((with_reducible refine wpQuiet_nil ?_); (try dsimp only)) | refine mQ ?_ | go_big_quiet_step (fail) | quiet_step (fail)))
          clear HS0 hNE
          go_wp2_with (first | ((with_reducible refine iat 77 ?_); ((refine apb rfl HM.out 6 0 rfl rfl rfl rfl rfl rfl (by omega) (by omega) (by omega) ?_; intro p3 c3 W1 HM1; replace HM := Lib.hid HM1; clear HM1; simp only [List.set] at HM))) | ((with_reducible refine skip_op ?_ ?_); exact rfl) | refine mP ?_ | (refine mS ?_; clear HM; intro W1 HM) | (refine mL ?_; clear HM; intro g1 W1 HM) | (refine hal HM rfl ?_; clear HM; intro g1 W1 HM))
          go_roundw
          case rel =>
            have hls : (has.set k0 true).length = has.length := List.length_set
            have h9 := HM.out
            rw [boC_set, ← HCs.out, ← hls] at h9
            have h10 := grn_fin (x := ⟨⟨n, k0, l, ⟨#[]⟩⟩, pA, cA⟩) (has := has.set k0 true) (st := k0 :: q) h9
            exact ⟨i + 1, els ++ [⟨⟨n, k0, l, ⟨#[]⟩⟩, pA, cA⟩], has.set k0 true ++ [false], els.length :: k0 :: q, p2, p3, p1, c2, c3, c1, by rw [List.length_append]; rfl, by rw [List.length_append, hls]; rfl, rfl, by go_num, hlt3.out, by rw [List.length_append]; simp; omega, by simp only [List.length_cons]; omega, Lib.hid (by rw [List.length_append, List.length_append, hls, HHl.out]; rfl), Lib.hid (by rw [elD_snoc]; exact HGn.out), Lib.hid (by rw [elD_snoc]; exact HU2.out), Lib.hid (by rw [elD_snoc]; exact HZn.out), Lib.hid h10⟩
          case measure => have := hlt3.out; simp [intOf]; omega
      by_cases k2 : k = 2
      · subst k2
        cases st with
        | nil =>
          simp only [List.length_nil, List.reverse_nil] at HM ⊢
          have hg : grow1 ⟨elD els, has, []⟩ ⟨2, n, l, t⟩ = none := rfl
          have HR2 := Lib.hid (show r = none by have := HR.out; rw [gro_bad (l := outD ms) (i := i) HGo.out hg] at this; exact this.symm)
          clear HGo HU HZ hg
          as_aux_lemma =>
          go_wp2_with (first | ((with_reducible refine iat 20 ?_); (refine ixa (i := i) rfl rfl rfl hlt ?_)) | ((with_reducible refine iat 21 ?_); (refine ldxW (HM.out.olds E1.out) rfl rfl ?_)) | ((with_reducible refine skip_op ?_ ?_); exact rfl) | refine mP ?_ | (refine mS ?_; clear HM; intro W1 HM) | (refine mL ?_; clear HM; intro g1 W1 HM) | (refine hal (dst := some 8) HM rfl ?_; clear HM; intro g8 W1 HM))
          refine wp_region_mem (by kernel_rfl) (by kernel_rfl) HM.out ?_; intro hNE; (repeat (any_goals (first | ((with_reducible refine qgd ?_); (with_reducible refine skip_q ?_ ?_ ?_); (exact rfl); (rotate_left; (exact (hNE.elim fun p => ⟨p.W, p, rfl⟩)))) | refine mQ ?_ | go_big_quiet_step (fail) | quiet_step (fail)))); clear hNE; refine wpQuiet_nil ?_; intro W1 HM1; replace HM := Lib.hid HM1; clear HM1
          go_wp2_with (first | ((with_reducible refine iat 20 ?_); (refine ixa (i := i) rfl rfl rfl hlt ?_)) | ((with_reducible refine iat 21 ?_); (refine ldxW (HM.out.olds E1.out) rfl rfl ?_)) | ((with_reducible refine skip_op ?_ ?_); exact rfl) | refine mP ?_ | (refine mS ?_; clear HM; intro W1 HM) | (refine mL ?_; clear HM; intro g1 W1 HM) | (refine hal (dst := some 8) HM rfl ?_; clear HM; intro g8 W1 HM))
          go_ret2
          exact gr_none HR2.out HM.out.below
        | cons k0 q =>
          simp only [List.length_cons] at HM hsl ⊢
          obtain ⟨⟨xe, hxe, -⟩, -⟩ := HU.out
          have hk0 : k0 < els.length := by rw [← HEd.out]; exact (List.getElem?_eq_some_iff.1 hxe).1
          obtain ⟨x, hx⟩ : ∃ x, els[k0]? = some x := ⟨_, List.getElem?_eq_getElem hk0⟩
          clear hxe xe
          obtain ⟨bo, rfl⟩ := row_has (HM.out.get (k := 2) rfl) (by omega)
          obtain ⟨cs, hcs⟩ : ∃ cs, intC (k0 :: q).reverse = cs := ⟨_, rfl⟩
          have HTop := Lib.hid (show cs[q.length * 1]? = some (.int .i64 (k0 : Int)) by rw [← hcs]; exact top_cell k0 q)
          rw [hcs] at HM
          have HCs := Lib.hid hcs
          have dlen : decide ((0 : Int) < (q.length : Int) + 1) = true := decide_eq_true (by omega)
          have blen : ((q.length : Int) + 1 == 0) = false := by simpa using (by omega : ¬ (q.length : Int) + 1 = 0)
          clear hcs
          obtain ⟨bt, rfl⟩ := row_has (HM.out.get (k := 0) rfl) (by omega)
          have HNm2 := Lib.hid (show (elC els)[k0 * 4]? = some (.string x.d.n) from flat_getx ElM.cs 4 ElM.cs_len hx (j := 0) (by omega))
          have hqc : q.length ≤ co := by have := (row_cap (HM.out.get (k := 2) rfl)).1; omega
          have hna : nameAt (elD els) k0 n = (x.d.n.toList == n.toList) := by unfold nameAt; rw [elD_at hx]
          have hg : grow1 ⟨elD els, has, k0 :: q⟩ ⟨2, n, l, t⟩ = if nameAt (elD els) k0 n then some ⟨elD els, has, q⟩ else none := rfl
          rw [hna] at hg
          clear hx hna
          cases hq : (x.d.n.toList == n.toList) with
          | false =>
            rw [hq] at hg
            have HR2 := Lib.hid (show r = none by have := HR.out; rw [gro_bad (l := outD ms) (i := i) HGo.out hg] at this; exact this.symm)
            clear HGo HU HZ hg
            as_aux_lemma =>
            go_wp2_with (first | ((with_reducible refine iat 20 ?_); (refine ixa (i := i) rfl rfl rfl hlt ?_)) | ((with_reducible refine iat 21 ?_); (refine ldxW (HM.out.olds E1.out) rfl rfl ?_)) | ((with_reducible refine skip_op ?_ ?_); exact rfl) | refine mP ?_ | (refine mS ?_; clear HM; intro W1 HM) | (refine mL ?_; clear HM; intro g1 W1 HM) | (refine hal (dst := some 8) HM rfl ?_; clear HM; intro g8 W1 HM))
            refine wp_region_mem (by kernel_rfl) (by kernel_rfl) HM.out ?_; intro hNE; (repeat (any_goals (first | ((with_reducible refine qgd ?_); (with_reducible refine skip_q ?_ ?_ ?_); (exact rfl); (rotate_left; (exact (hNE.elim fun p => ⟨p.W, p, rfl⟩)))) | refine mQ ?_ | ((with_reducible refine qat 91 ?_); (refine qixa (i := q.length) rfl rfl (by simp) (by omega) ?_)) | ((with_reducible refine qat 92 ?_); (refine qd1 rfl (fun W ⟨qq, hq⟩ => hq ▸ row_cell (qq.mem.get (k := 3) rfl) HTop.out) ?_)) | ((with_reducible refine qat 93 ?_); (refine qixa (i := k0) rfl rfl rfl hk0 ?_)) | ((with_reducible refine qat 95 ?_); (refine qd1 rfl (fun W ⟨qq, hq⟩ => hq ▸ row_cell (qq.mem.get (k := 1) rfl) HNm2.out) ?_)) | go_big_quiet_step (fail) | quiet_step (fail)))); clear hNE; refine wpQuiet_nil ?_; intro W1 HM1; replace HM := Lib.hid HM1; clear HM1
            go_wp2_with (first | ((with_reducible refine iat 20 ?_); (refine ixa (i := i) rfl rfl rfl hlt ?_)) | ((with_reducible refine iat 21 ?_); (refine ldxW (HM.out.olds E1.out) rfl rfl ?_)) | ((with_reducible refine skip_op ?_ ?_); exact rfl) | refine mP ?_ | (refine mS ?_; clear HM; intro W1 HM) | (refine mL ?_; clear HM; intro g1 W1 HM) | (refine hal (dst := some 8) HM rfl ?_; clear HM; intro g8 W1 HM))
            go_ret2
            exact gr_none HR2.out HM.out.below
          | true =>
            rw [hq] at hg
            have HGn := Lib.hid (gro_next HGo.out hg)
            have HZn := Lib.hid (sz_next rfl hg HMo.out HZ.out)
            have HU2 := Lib.hid HU.out.2
            clear HGo HU HZ hg
            as_aux_lemma =>
            go_wp2_with (first | ((with_reducible refine iat 20 ?_); (refine ixa (i := i) rfl rfl rfl hlt ?_)) | ((with_reducible refine iat 21 ?_); (refine ldxW (HM.out.olds E1.out) rfl rfl ?_)) | ((with_reducible refine skip_op ?_ ?_); exact rfl) | refine mP ?_ | (refine mS ?_; clear HM; intro W1 HM) | (refine mL ?_; clear HM; intro g1 W1 HM) | (refine hal (dst := some 8) HM rfl ?_; clear HM; intro g8 W1 HM))
            refine wp_region_mem (by kernel_rfl) (by kernel_rfl) HM.out ?_; intro hNE; (repeat (any_goals (first | ((with_reducible refine qgd ?_); (with_reducible refine skip_q ?_ ?_ ?_); (exact rfl); (rotate_left; (exact (hNE.elim fun p => ⟨p.W, p, rfl⟩)))) | refine mQ ?_ | ((with_reducible refine qat 91 ?_); (refine qixa (i := q.length) rfl rfl (by simp) (by omega) ?_)) | ((with_reducible refine qat 92 ?_); (refine qd1 rfl (fun W ⟨qq, hq⟩ => hq ▸ row_cell (qq.mem.get (k := 3) rfl) HTop.out) ?_)) | ((with_reducible refine qat 93 ?_); (refine qixa (i := k0) rfl rfl rfl hk0 ?_)) | ((with_reducible refine qat 95 ?_); (refine qd1 rfl (fun W ⟨qq, hq⟩ => hq ▸ row_cell (qq.mem.get (k := 1) rfl) HNm2.out) ?_)) | go_big_quiet_step (fail) | quiet_step (fail)))); clear hNE; refine wpQuiet_nil ?_; intro W1 HM1; replace HM := Lib.hid HM1; clear HM1
            go_wp2_with (first | ((with_reducible refine iat 104 ?_); (refine sltx rfl rfl (m := q.length) (by simp) hqc ?_)))
            go_roundw
            case rel => exact ⟨i + 1, els, has, q, some bt, ph, some bo, ct, ch, co, rfl, rfl, rfl, by go_num, hlt3.out, by omega, by omega, HHl, HGn, HU2, HZn, Lib.hid (pop_mem3 (k := k0) (by rw [HCs.out]; exact HM.out.sub (.cons _ (.refl _))))⟩
            case measure => have := hlt3.out; simp [intOf]; omega
      have b1 : ((k : Int) == 1) = false := by simpa using (by omega : ¬ (k : Int) = 1)
      have b2 : ((k : Int) == 2) = false := by simpa using (by omega : ¬ (k : Int) = 2)
      have hts := HMo.out.2.1
      dsimp only at hts
      cases st with
      | nil =>
        simp only [List.length_nil, List.reverse_nil] at HM ⊢
        have HBl := Lib.hid (fun W => rtblank_any t W (by omega))
        have hg : grow1 ⟨elD els, has, []⟩ ⟨k, n, l, t⟩ = if blankB t then some ⟨elD els, has, []⟩ else none := by
          unfold grow1
          rw [if_neg k1, if_neg k2]
        clear k1 k2
        cases hbk : blankB t with
        | false =>
          rw [hbk] at hg HBl
          have HR2 := Lib.hid (show r = none by have := HR.out; rw [gro_bad (l := outD ms) (i := i) HGo.out hg] at this; exact this.symm)
          clear HGo HU HZ hg hbk
          as_aux_lemma =>
          go_wp2_with (first | ((with_reducible refine iat 20 ?_); (refine ixa (i := i) rfl rfl rfl hlt ?_)) | ((with_reducible refine iat 21 ?_); (refine ldxW (HM.out.olds E1.out) rfl rfl ?_)) | ((with_reducible refine skip_op ?_ ?_); exact rfl) | refine mP ?_ | (refine mS ?_; clear HM; intro W1 HM) | (refine mL ?_; clear HM; intro g1 W1 HM) | (refine hal (dst := some 8) HM rfl ?_; clear HM; intro g8 W1 HM) | (go_at_call 40; with_reducible refine cQ (HBl.out _) ?_))
          go_ret2
          exact gr_none HR2.out HM.out.below
        | true =>
          rw [hbk] at hg HBl
          have HGn := Lib.hid (gro_next HGo.out hg)
          have HZn := Lib.hid (sz_next rfl hg HMo.out HZ.out)
          clear HGo HU HZ hg hbk
          as_aux_lemma =>
          go_wp2_with (first | ((with_reducible refine iat 20 ?_); (refine ixa (i := i) rfl rfl rfl hlt ?_)) | ((with_reducible refine iat 21 ?_); (refine ldxW (HM.out.olds E1.out) rfl rfl ?_)) | ((with_reducible refine skip_op ?_ ?_); exact rfl) | refine mP ?_ | (refine mS ?_; clear HM; intro W1 HM) | (refine mL ?_; clear HM; intro g1 W1 HM) | (refine hal (dst := some 8) HM rfl ?_; clear HM; intro g8 W1 HM) | (go_at_call 40; with_reducible refine cQ (HBl.out _) ?_))
          go_roundw
          case rel => exact ⟨i + 1, els, has, [], pt, ph, po, ct, ch, co, rfl, rfl, rfl, by go_num, hlt3.out, by omega, by simp, HHl, HGn, Lib.hid trivial, HZn, Lib.hid (HM.out.sub (.cons _ (.refl _)))⟩
          case measure => have := hlt3.out; simp [intOf]; omega
      | cons k0 q =>
        simp only [List.length_cons] at HM hsl ⊢
        obtain ⟨⟨xe, hxe, -⟩, -⟩ := HU.out
        have hk0 : k0 < els.length := by rw [← HEd.out]; exact (List.getElem?_eq_some_iff.1 hxe).1
        obtain ⟨x, hx⟩ : ∃ x, els[k0]? = some x := ⟨_, List.getElem?_eq_getElem hk0⟩
        clear hxe xe
        obtain ⟨bo, rfl⟩ := row_has (HM.out.get (k := 2) rfl) (by omega)
        obtain ⟨cs, hcs⟩ : ∃ cs, intC (k0 :: q).reverse = cs := ⟨_, rfl⟩
        have HTop := Lib.hid (show cs[q.length * 1]? = some (.int .i64 (k0 : Int)) by rw [← hcs]; exact top_cell k0 q)
        rw [hcs] at HM
        have HCs := Lib.hid hcs
        have dlen : decide ((0 : Int) < (q.length : Int) + 1) = true := decide_eq_true (by omega)
        have blen : ((q.length : Int) + 1 == 0) = false := by simpa using (by omega : ¬ (q.length : Int) + 1 = 0)
        clear hcs
        obtain ⟨bt, rfl⟩ := row_has (HM.out.get (k := 0) rfl) (by omega)
        have hxz := (HZ.out x.d (List.mem_of_getElem? (elD_at hx))).2.1
        have HTx := Lib.hid (flat_getx ElM.cs 4 ElM.cs_len hx (j := 3) (by omega))
        obtain ⟨⟨xn, xu, xl, xt⟩, xp, xc⟩ := x
        dsimp only at hxz
        have HTx2 := Lib.hid (show (elC els)[k0 * 4 + 3]? = some (.string xt) from HTx.out)
        have hat : addText (elD els) k0 t = (elD els).set k0 ⟨xn, xu, xl, xt ++ t⟩ := by unfold addText; rw [elD_at hx]
        have hg : grow1 ⟨elD els, has, k0 :: q⟩ ⟨k, n, l, t⟩ = some ⟨(elD els).set k0 ⟨xn, xu, xl, xt ++ t⟩, has, k0 :: q⟩ := by
          unfold grow1
          rw [if_neg k1, if_neg k2]
          dsimp only
          rw [hat]
        have HGn := Lib.hid (gro_next HGo.out hg)
        have HZn := Lib.hid (sz_next rfl hg HMo.out HZ.out)
        have HU2 := Lib.hid (upP_set (y := ⟨xn, xu, xl, xt ++ t⟩) (elD_at hx) rfl HU.out)
        have HXs := Lib.hid hx
        have HSt := Lib.hid (flat_set ElM.cs 4 ElM.cs_len (y := ⟨⟨xn, xu, xl, xt ++ t⟩, xp, xc⟩) hx rfl (by omega) (j := 3) (v := .string (xt ++ t)))
        have hcl : k0 * 4 + 3 < (elC els).length := by rw [elC_len]; omega
        have hsum : xt.size + t.size ≤ 9223372036854775807 := by omega
        clear HGo HU HZ hg hat hx HTx k1 k2
        as_aux_lemma =>
        go_wp2_with (first | ((with_reducible refine iat 20 ?_); (refine ixa (i := i) rfl rfl rfl hlt ?_)) | ((with_reducible refine iat 21 ?_); (refine ldxW (HM.out.olds E1.out) rfl rfl ?_)) | ((with_reducible refine skip_op ?_ ?_); exact rfl) | refine mP ?_ | (refine mS ?_; clear HM; intro W1 HM) | (refine mL ?_; clear HM; intro g1 W1 HM) | (refine hal (dst := some 8) HM rfl ?_; clear HM; intro g8 W1 HM) | ((with_reducible refine iat 26 ?_); (refine ixa (i := q.length) rfl rfl (by simp) (by omega) ?_)) | ((with_reducible refine iat 27 ?_); (refine ldx1 (row_cell (HM.out.get (k := 3) rfl) HTop.out) rfl ?_)))
        refine wp_region_mem3 12 [(0, 0), (0, 1), (0, 2), (0, 3), (0, 4), (0, 5), (0, 6), (0, 7), (0, 8), (0, 9), (1, 10), (1, 11), (3, 12)] (by kernel_rfl) (by kernel_rfl) rfl (by kernel_rfl) (fun _ _ _ _ _ h => h) HM.out _ (.cons_cons _ (.cons_cons _ (.cons _ (List.nil_sublist _)))) ?_
        intro hNE W1 HM1; replace HM := Lib.hid HM1; clear HM1
        have HS0 := Lib.hid (HM.out.sub (.cons_cons _ (.cons_cons _ (.cons _ (List.nil_sublist _)))))
        simp only [wpSteps3, List.getElem?_cons_succ, List.getElem?_cons_zero]
        (repeat (first | ((with_reducible refine wpQuiet_nil ?_); (try dsimp only)) | refine mQ ?_ | ((with_reducible refine qat 32 ?_); (refine qixa (i := k0) rfl rfl rfl hk0 ?_)) | ((with_reducible refine qat 34 ?_); (refine qd1 rfl (fun W ⟨qq, hq⟩ => hq ▸ row_cellf (qq.mem.get (k := 1) rfl) HTx2.out) ?_)) | ((with_reducible refine qat 38 ?_); (refine qixa (i := k0) rfl rfl rfl hk0 ?_)) | go_big_quiet_step (fail) | quiet_step (fail)))
        go_wp2_with (first | ((with_reducible refine istore ?_); (refine strw (i := k0 * 4 + 3) (v := .string (xt ++ t)) rfl HM.out 1 rfl (by rw [← add_add']; rfl) rfl rfl hcl ?_); intro W1 HM1; replace HM := Lib.hid HM1; clear HM1; simp only [List.set, Nat.mul_one] at HM) | (refine mS ?_; clear HM; intro W1 HM))
        refine ⟨trivial, ?_⟩
        (try dsimp only)
        clear HS0 hNE
        go_wp2_with fail
        go_roundw
        case rel =>
          have hes : elD (els.set k0 ⟨⟨xn, xu, xl, xt ++ t⟩, xp, xc⟩) = (elD els).set k0 ⟨xn, xu, xl, xt ++ t⟩ := by unfold elD; rw [List.map_set]
          refine ⟨i + 1, els.set k0 ⟨⟨xn, xu, xl, xt ++ t⟩, xp, xc⟩, has, k0 :: q, some bt, ph, some bo, ct, ch, co, by rw [List.length_set], rfl, rfl, by go_num, hlt3.out, by rw [List.length_set]; omega, by simp only [List.length_cons]; omega, Lib.hid (by rw [List.length_set]; exact HHl.out), Lib.hid (by rw [hes]; exact HGn.out), Lib.hid (by rw [hes]; exact HU2.out), Lib.hid (by rw [hes]; exact HZn.out), Lib.hid ?_⟩
          have h9 := HM.out.sub (.cons _ (.refl _))
          rw [List.length_set, elR_set (y := ⟨⟨xn, xu, xl, xt ++ t⟩, xp, xc⟩) HXs.out rfl]
          unfold elC at h9 ⊢
          rw [HSt.out, ← HCs.out] at h9
          exact h9
        case measure => have := hlt3.out; simp [intOf]; omega
    · obtain rfl : i = ms.length := by omega
      have d1 : decide ((ms.length : Int) < ms.length) = false := by simp
      have hgn := HG.out
      rw [List.drop_of_length_le (by unfold outD; rw [List.length_map]; exact Nat.le_refl _)] at hgn
      have hr := HR.out
      rw [← hgn] at hr
      dsimp only [growF] at hr
      have hed : (elD els).length = els.length := List.length_map ..
      rw [hed] at hr
      obtain ⟨cr, hcr⟩ : ∃ x, clearF (elD els) has = x := ⟨_, rfl⟩
      rw [hcr] at hr
      have HR := Lib.hid hr
      have HC := Lib.hid (show (clearF ((elD els).drop 0) (has.drop 0)).map ((elD els).take 0 ++ ·) = cr by
        rw [List.drop_zero, List.drop_zero, hcr, List.take_zero]
        cases cr <;> rfl)
      have hl2 : has.length ≤ 1048576 := by rw [HHl.out]; omega
      have HEd := Lib.hid hed
      obtain ⟨cs, hcs⟩ : ∃ cs, intC st.reverse = cs := ⟨_, rfl⟩
      rw [hcs] at HM
      clear hr hcr hgn HG HU hed hcs
      as_aux_lemma =>
      go_wp2_with fail
      go_loopw [11] (fun iv wr => ∃ (j : Nat) (es : List ElM), iv = .int .i64 j ∧ j ≤ els.length ∧ Hid (es.length = els.length) ∧ Hid ((clearF ((elD els).drop j) (has.drop j)).map ((elD es).take j ++ ·) = cr) ∧ Hid ((elD es).drop j = (elD els).drop j) ∧ Hid (elR es = elR els) ∧ Hid (∀ x ∈ elD es, x.n.size ≤ 300000 ∧ x.t.size ≤ 300000 * ms.length ∧ ∀ a ∈ x.l, a.1.size ≤ 300000 ∧ a.2.size ≤ 300000) ∧
        Hid (Mem W wr (.row pt ct 42 4 els.length (elC es) :: .row ph ch 4 1 has.length (boC has) :: .row po co 3 1 st.length cs :: elR els))) (fun iv _ => els.length - (intOf iv).toNat)
      case atStart => exact ⟨0, els, rfl, by omega, Lib.hid rfl, HC, Lib.hid rfl, Lib.hid rfl, HZ, HM⟩
      case round =>
        clear HM HC HZ
        obtain ⟨j, es, rfl, hj, HLe, HC, HDr, HEr, HZ, HM⟩ := hrel
        by_cases hjl : j < els.length
        · obtain ⟨x, hx⟩ : ∃ x, es[j]? = some x := ⟨_, List.getElem?_eq_getElem (by rw [HLe.out]; exact hjl)⟩
          have hjh : j < has.length := by rw [HHl.out]; exact hjl
          obtain ⟨bt, rfl⟩ := row_has (HM.out.get (k := 0) rfl) (by omega)
          obtain ⟨bh, rfl⟩ := row_has (HM.out.get (k := 1) rfl) (by omega)
          obtain ⟨b, hb⟩ : ∃ b, has[j]? = some b := ⟨_, List.getElem?_eq_getElem hjh⟩
          have hxd := elD_at hx
          have hxL := drop_at HDr.out hxd
          have HBc := Lib.hid (bo_cell hb)
          have htc := flat_getx ElM.cs 4 ElM.cs_len hx (j := 3) (by omega)
          have hxz := HZ.out x.d (List.mem_of_getElem? hxd)
          have d2 : decide ((j : Int) < els.length) = true := decide_eq_true (by omega)
          have hj3 := Lib.hid (show j + 1 ≤ els.length from hjl)
          obtain ⟨⟨n, up, la, t⟩, pa, ca⟩ := x
          dsimp only at hxd hxL hxz
          have HTc := Lib.hid (show (elC es)[j * 4 + 3]? = some (.string t) from htc)
          have HXs := Lib.hid hx
          have HXd := Lib.hid hxd
          have HXL := Lib.hid hxL
          have HXz := Lib.hid hxz
          have HBb := Lib.hid hb
          have HBl := Lib.hid (fun W => rtblank_any t W (by have := hxz.2.1; omega))
          clear hx hb hxd hxL htc hxz
          cases b with
          | false =>
            have HC2 := Lib.hid (clr_false HC.out HXL.out HBb.out HXd.out)
            have HD2 := Lib.hid (drop_next HDr.out)
            as_aux_lemma =>
            go_wp2_with (first | ((with_reducible refine iat 121 ?_); (refine ixa (i := j) rfl rfl rfl hjh ?_)) | ((with_reducible refine iat 122 ?_); (refine ldx1 (row_cell (HM.out.get (k := 1) rfl) HBc.out) rfl ?_)) | ((with_reducible refine iat 125 ?_); (refine ixa (i := j) rfl rfl rfl hjl ?_)) | ((with_reducible refine iat 127 ?_); (refine ldx1 (row_cellf (HM.out.get (k := 0) rfl) HTc.out) rfl ?_)) | (go_at_call 40; with_reducible refine cQ (HBl.out _) ?_) | ((with_reducible refine skip_op ?_ ?_); exact rfl) | refine mP ?_ | (refine mS ?_; clear HM; intro W1 HM) | (refine mL ?_; clear HM; intro g1 W1 HM) | (refine hal HM rfl ?_; clear HM; intro g1 W1 HM))
            go_roundw
            case rel => exact ⟨j + 1, es, by go_num, hj3.out, HLe, HC2, HD2, HEr, HZ, HM⟩
            case measure => have := hj3.out; simp [intOf]; omega
          | true =>
            cases hbk : blankB t with
            | false =>
              rw [hbk] at HBl
              have HR2 := Lib.hid (show r = none by have := HR.out; rw [clr_bad HC.out HXL.out HBb.out hbk] at this; exact this.symm)
              clear hbk
              as_aux_lemma =>
              go_wp2_with (first | ((with_reducible refine iat 121 ?_); (refine ixa (i := j) rfl rfl rfl hjh ?_)) | ((with_reducible refine iat 122 ?_); (refine ldx1 (row_cell (HM.out.get (k := 1) rfl) HBc.out) rfl ?_)) | ((with_reducible refine iat 125 ?_); (refine ixa (i := j) rfl rfl rfl hjl ?_)) | ((with_reducible refine iat 127 ?_); (refine ldx1 (row_cellf (HM.out.get (k := 0) rfl) HTc.out) rfl ?_)) | (go_at_call 40; with_reducible refine cQ (HBl.out _) ?_) | ((with_reducible refine skip_op ?_ ?_); exact rfl) | refine mP ?_ | (refine mS ?_; clear HM; intro W1 HM) | (refine mL ?_; clear HM; intro g1 W1 HM) | (refine hal HM rfl ?_; clear HM; intro g1 W1 HM))
              go_ret2
              exact gr_none HR2.out HM.out.below
            | true =>
              rw [hbk] at HBl
              have hjd : j < (elD es).length := (List.getElem?_eq_some_iff.1 HXd.out).1
              have HC2 := Lib.hid (clr_true HC.out HXL.out HBb.out hbk hjd)
              have HD2 := Lib.hid (show ((elD es).set j ⟨n, up, la, ⟨#[]⟩⟩).drop (j + 1) = (elD els).drop (j + 1) by rw [List.drop_set_of_lt (by omega)]; exact drop_next HDr.out)
              have hcl : j * 4 + 3 < (elC es).length := by rw [elC_len, HLe.out]; omega
              have HSe := Lib.hid (show elD (es.set j ⟨⟨n, up, la, ⟨#[]⟩⟩, pa, ca⟩) = (elD es).set j ⟨n, up, la, ⟨#[]⟩⟩ by unfold elD; rw [List.map_set])
              have HSt := Lib.hid (flat_set ElM.cs 4 ElM.cs_len (y := ⟨⟨n, up, la, ⟨#[]⟩⟩, pa, ca⟩) HXs.out rfl (by omega) (j := 3) (v := .string ⟨#[]⟩))
              clear hbk
              as_aux_lemma =>
              go_wp2_with (first | ((with_reducible refine iat 121 ?_); (refine ixa (i := j) rfl rfl rfl hjh ?_)) | ((with_reducible refine iat 122 ?_); (refine ldx1 (row_cell (HM.out.get (k := 1) rfl) HBc.out) rfl ?_)) | ((with_reducible refine iat 125 ?_); (refine ixa (i := j) rfl rfl rfl hjl ?_)) | ((with_reducible refine iat 127 ?_); (refine ldx1 (row_cellf (HM.out.get (k := 0) rfl) HTc.out) rfl ?_)) | (go_at_call 40; with_reducible refine cQ (HBl.out _) ?_) | ((with_reducible refine skip_op ?_ ?_); exact rfl) | refine mP ?_ | (refine mS ?_; clear HM; intro W1 HM) | (refine mL ?_; clear HM; intro g1 W1 HM) | (refine hal HM rfl ?_; clear HM; intro g1 W1 HM) | ((with_reducible refine iat 132 ?_); (refine ixa (i := j) rfl rfl rfl hjl ?_)) | ((with_reducible refine istore ?_); (refine strw (i := j * 4 + 3) (v := .string ⟨#[]⟩) rfl HM.out 0 rfl (by rw [← add_add']; rfl) rfl rfl hcl ?_); intro W1 HM1; replace HM := Lib.hid HM1; clear HM1; simp only [List.set, Nat.mul_one] at HM))
              go_roundw
              case rel =>
                refine ⟨j + 1, es.set j ⟨⟨n, up, la, ⟨#[]⟩⟩, pa, ca⟩, by go_num, hj3.out, Lib.hid (by rw [List.length_set]; exact HLe.out), Lib.hid (by rw [HSe.out]; exact HC2.out), Lib.hid (by rw [HSe.out]; exact HD2.out), Lib.hid ((elR_set (y := ⟨⟨n, up, la, ⟨#[]⟩⟩, pa, ca⟩) HXs.out rfl).trans HEr.out), Lib.hid ?_, Lib.hid ?_⟩
                · rw [HSe.out]
                  intro y hy
                  rcases List.mem_or_eq_of_mem_set hy with hy | rfl
                  · exact HZ.out y hy
                  · exact ⟨HXz.out.1, Nat.zero_le _, HXz.out.2.2⟩
                · have h9 := HM.out
                  unfold elC at h9 ⊢
                  rw [HSt.out] at h9
                  exact h9
              case measure => have := hj3.out; simp [intOf]; omega
        · obtain rfl : j = els.length := by omega
          have d2 : decide ((els.length : Int) < els.length) = false := by simp
          have hcr : cr = some (elD es) := by
            have := HC.out
            rw [List.drop_of_length_le (by rw [HEd.out]; exact Nat.le_refl _), List.take_of_length_le (by unfold elD; rw [List.length_map, HLe.out]; exact Nat.le_refl _)] at this
            rw [← this]
            simp [clearF]
          have hr := HR.out
          rw [hcr] at hr
          dsimp only at hr
          clear HR HC HDr HZ hcr
          by_cases h0 : els.length = 0
          · have HR2 := Lib.hid (show r = none by rw [if_pos (.inl h0)] at hr; exact hr.symm)
            have d3 : decide ((0 : Int) < (els.length : Int)) = false := decide_eq_false (by omega)
            have d4 : decide (0 < els.length) = false := decide_eq_false (by omega)
            clear hr h0
            as_aux_lemma =>
            go_wp2_with (first | ((with_reducible refine skip_op ?_ ?_); exact rfl) | refine mP ?_ | (refine mS ?_; clear HM; intro W1 HM) | (refine mL ?_; clear HM; intro g1 W1 HM) | (refine hal HM rfl ?_; clear HM; intro g1 W1 HM))
            go_ret2
            exact gr_none HR2.out HM.out.below
          have d3 : decide ((0 : Int) < (els.length : Int)) = true := decide_eq_true (by omega)
          have d4 : decide (0 < els.length) = true := decide_eq_true (by omega)
          by_cases hs0 : st.length = 0
          · have hs1 := List.eq_nil_of_length_eq_zero hs0
            rw [if_neg (by rintro (h | h); exact h0 h; exact h hs1)] at hr
            have b3 : ((st.length : Int) == 0) = true := by rw [hs0]; rfl
            subst hr
            clear hs1 h0 hs0
            as_aux_lemma =>
            go_wp2_with (first | ((with_reducible refine skip_op ?_ ?_); exact rfl) | refine mP ?_ | (refine mS ?_; clear HM; intro W1 HM) | (refine mL ?_; clear HM; intro g1 W1 HM) | (refine hal HM rfl ?_; clear HM; intro g1 W1 HM))
            go_ret2
            refine ⟨es, pt, ct, rfl, by rw [HLe.out]; omega, by rw [HLe.out]; rfl, ?_⟩
            rw [HLe.out, HEr.out]
            exact HM.out.sub (.cons_cons _ (.cons _ (.cons _ (.refl _))))
          · have HR2 := Lib.hid (show r = none by rw [if_pos (.inr (fun h => hs0 (by rw [h]; rfl)))] at hr; exact hr.symm)
            have b3 : ((st.length : Int) == 0) = false := by simpa using (by omega : ¬ (st.length : Int) = 0)
            clear hr h0 hs0
            as_aux_lemma =>
            go_wp2_with (first | ((with_reducible refine skip_op ?_ ?_); exact rfl) | refine mP ?_ | (refine mS ?_; clear HM; intro W1 HM) | (refine mL ?_; clear HM; intro g1 W1 HM) | (refine hal HM rfl ?_; clear HM; intro g1 W1 HM))
            go_ret2
            exact gr_none HR2.out HM.out.below
end Go.Proofs.YtanncakdlflopaaGreatDoor

namespace Go.Proofs.YtanncakdlflopaaGreatDoor
open Go.RowKit
set_option linter.unusedVariables false
set_option linter.unusedSimpArgs false
set_option maxRecDepth 100000

theorem treeR_grown {S : ByteArray} {l : List EvD} {c : Int} (h : markF S = (some l, c)) : treeR S = match grownF l with
    | none => (none, 5)
    | some t => if checkT t = 0 then (some t, 0) else (none, checkT t) := by
  unfold treeR grownF
  rw [h]
  dsimp only
  cases growF l ⟨[], [], []⟩ with
  | none => rfl
  | some g =>
    dsimp only
    by_cases h0 : g.ts.length = 0 ∨ g.st ≠ []
    · rw [if_pos h0]
      cases clearF g.ts g.has with
      | none => rfl
      | some t => dsimp only; rw [if_pos h0]
    · rw [if_neg h0]
      cases clearF g.ts g.has with
      | none => rfl
      | some t => dsimp only; rw [if_neg h0]
/-- What the reference's DocRead answers. -/
def TDPost (r : Option (List ElD) × Int) (w0 : World) (e : Ending) (w' : World) : Prop :=
  match r with
  | (none, c) => (c == 0) = false ∧ e = .returned (.tuple #[.slice none 0 0, .int .i64 c]) ∧ Below w0.heap.size w0 w'
  | (some t, _) => ∃ (els : List ElM) (p : Option Addr) (c : Nat), elD els = t ∧ els.length ≤ 600000 ∧ e = .returned (.tuple #[.slice p els.length c, .int .i64 0]) ∧ Mem w0 w' (.row p c 42 4 els.length (elC els) :: elR els)
theorem td_none {r : Option (List ElD) × Int} {w0 w' : World} {c : Int} (h : r = (none, c)) (hc : (c == 0) = false) (hb : Below w0.heap.size w0 w') : TDPost r w0 (.returned (.tuple #[.slice none 0 0, .int .i64 c])) w' := by
  subst h; exact ⟨hc, rfl, hb⟩
theorem mark_short {S : ByteArray} {l : List EvD} {c : Int} (h : markF S = (some l, c)) : ∀ e ∈ l, okE 300000 e ∧ e.l.length ≤ 16 := fun e he => ⟨(markF_ok h).2.2 e he, (markF_zero h).2 e he⟩
theorem pieceF_two {S : ByteArray} {i j : Nat} {l : List EvD} (h : pieceF S i = some (l, j)) : l.length ≤ 2 := by
  unfold pieceF at h
  split at h
  · cases hn : noteF S (i + 4) with
    | none => rw [hn] at h; cases h
    | some k => rw [hn] at h; simp only [Option.map_some, Option.some.injEq, Prod.mk.injEq] at h; rw [← h.1]; simp
  split at h
  · cases hn : endF S (i + 2) with
    | none => rw [hn] at h; cases h
    | some x => rw [hn] at h; simp only [Option.map_some, Option.some.injEq, Prod.mk.injEq] at h; rw [← h.1]; simp
  split at h
  · unfold openF at h
    split at h
    · cases h
    split at h
    · cases h
    simp only [Option.some.injEq, Prod.mk.injEq] at h
    rw [← h.1]
    unfold openL
    split <;> simp
  · cases hn : dataF S i with
    | none => rw [hn] at h; cases h
    | some x => rw [hn] at h; simp only [Option.map_some, Option.some.injEq, Prod.mk.injEq] at h; rw [← h.1]; simp
theorem docG_len {S : ByteArray} : ∀ {f i : Nat} {out l : List EvD}, i ≤ S.size → docG S f i out = some l → l.length ≤ out.length + 2 * (S.size - i)
  | 0, i, out, l, _, h => by cases h
  | f + 1, i, out, l, hi, h => by
    unfold docG at h
    split at h
    · cases h; omega
    rename_i hne
    split at h
    · cases h
    rename_i l2 j hp
    have h1 := pieceF_le (by omega) hp
    have h2 := pieceF_two hp
    have h3 := docG_len h1.2 h
    rw [List.length_append] at h3
    omega
theorem markF_len {S : ByteArray} {l : List EvD} {c : Int} (h : markF S = (some l, c)) : l.length ≤ 600000 := by
  have hs := (markF_ok h).2.1
  unfold markF at h
  split at h
  · cases h
  split at h
  · cases h
  split at h
  · cases h
  rename_i l2 hb
  split at h
  · cases h
  split at h
  · cases h
  simp only [Prod.mk.injEq, Option.some.injEq] at h
  obtain ⟨rfl, -⟩ := h
  unfold bodyF at hb
  split at hb
  · cases hb
  · rename_i i hi
    have := docG_len (pro_le hi) hb
    simp at this
    omega
/-- Sizes of what was grown. -/
theorem szs_of {t : List ElD} (h : ∀ x ∈ t, x.n.size ≤ 300000 ∧ x.t.size ≤ 1099511627776 ∧ ∀ a ∈ x.l, a.1.size ≤ 300000 ∧ a.2.size ≤ 300000) : ∀ x ∈ t, szOk x := fun x hx => ⟨by have := h x hx; omega, (h x hx).2.1, fun a ha => by have := (h x hx).2.2 a ha; omega⟩
theorem growF_sz : ∀ (l : List EvD) {g g2 : GrD} {i : Nat}, growF l g = some g2 → (∀ e ∈ l, okE 300000 e) → (∀ x ∈ g.ts, x.n.size ≤ 300000 ∧ x.t.size ≤ 300000 * i ∧ ∀ a ∈ x.l, a.1.size ≤ 300000 ∧ a.2.size ≤ 300000) →
    ∀ x ∈ g2.ts, x.n.size ≤ 300000 ∧ x.t.size ≤ 300000 * (i + l.length) ∧ ∀ a ∈ x.l, a.1.size ≤ 300000 ∧ a.2.size ≤ 300000
  | [], g, g2, i, h, hl, hg => by cases h; simpa using hg
  | e :: l, g, g2, i, h, hl, hg => by
    rw [growF] at h
    cases h1 : grow1 g e with
    | none => rw [h1] at h; cases h
    | some g1 =>
      rw [h1] at h
      have := growF_sz l (i := i + 1) h (fun e he => hl e (by simp [he])) (sz_next rfl h1 (hl e (by simp)) hg)
      intro x hx
      have h2 := this x hx
      rw [List.length_cons, show i + (l.length + 1) = i + 1 + l.length by omega]
      exact h2
theorem clearF_sz {Q : ElD → Prop} (hQ : ∀ e : ElD, Q e → Q ⟨e.n, e.up, e.l, ⟨#[]⟩⟩) : ∀ {l : List ElD} {hs : List Bool} {t : List ElD}, clearF l hs = some t → (∀ x ∈ l, Q x) → ∀ x ∈ t, Q x
  | [], hs, t, h, hl => by cases h; simp
  | e :: r, [], t, h, hl => by
    rw [clearF] at h
    cases h1 : clearF r [] with
    | none => rw [h1] at h; cases h
    | some t1 =>
      rw [h1] at h
      simp only [Option.map_some, Option.some.injEq] at h
      rw [← h]
      have := clearF_sz hQ h1 (fun x hx => hl x (by simp [hx]))
      intro x hx
      rcases List.mem_cons.1 hx with rfl | hx
      · exact hl x (by simp)
      · exact this x hx
  | e :: r, b :: hs, t, h, hl => by
    rw [clearF] at h
    cases h1 : clearF r hs with
    | none => rw [h1] at h; cases b <;> simp at h
    | some t1 =>
      rw [h1] at h
      have := clearF_sz hQ h1 (fun x hx => hl x (by simp [hx]))
      cases b with
      | false =>
        simp only [Bool.false_eq_true, if_false, Option.map_some, Option.some.injEq] at h
        rw [← h]
        intro x hx
        rcases List.mem_cons.1 hx with rfl | hx
        · exact hl x (by simp)
        · exact this x hx
      | true =>
        rw [if_pos rfl] at h
        split at h
        · simp only [Option.map_some, Option.some.injEq] at h
          rw [← h]
          intro x hx
          rcases List.mem_cons.1 hx with rfl | hx
          · exact hQ e (hl e (by simp))
          · exact this x hx
        · cases h
theorem grownF_sz {l : List EvD} {t : List ElD} (h : grownF l = some t) (hl : ∀ e ∈ l, okE 300000 e) (hn : l.length ≤ 3000000) : ∀ x ∈ t, szOk x := by
  unfold grownF at h
  cases h1 : growF l ⟨[], [], []⟩ with
  | none => rw [h1] at h; cases h
  | some g =>
    rw [h1] at h
    dsimp only at h
    cases h2 : clearF g.ts g.has with
    | none => rw [h2] at h; cases h
    | some t1 =>
      rw [h2] at h
      dsimp only at h
      split at h
      · cases h
      · cases h
        refine szs_of (clearF_sz (Q := fun x => x.n.size ≤ 300000 ∧ x.t.size ≤ 1099511627776 ∧ ∀ a ∈ x.l, a.1.size ≤ 300000 ∧ a.2.size ≤ 300000) (fun e he => ⟨he.1, Nat.zero_le _, he.2.2⟩) h2 (fun x hx => ?_))
        have := growF_sz l (i := 0) h1 hl (by simp) x hx
        exact ⟨this.1, by omega, this.2.2⟩

set_option maxHeartbeats 8000000 in
theorem rtdoc_any (S : ByteArray) (W : World) (r : Option (List ElD) × Int) (hr : treeR S = r) (hs : S.size ≤ 1048576) :
    Calls Tryz.prog 9 #[.string S] W (TDPost r W) := by
  have HM := Lib.hid (Mem.start W)
  obtain ⟨rm, hrm⟩ : ∃ x, markF S = x := ⟨_, rfl⟩
  have HRd := Lib.hid (rdoc_any S W rm hrm hs)
  obtain ⟨o, c0⟩ := rm
  cases o with
  | none =>
    unfold treeR at hr
    rw [hrm] at hr
    dsimp only at hr
    subst hr
    clear hrm
    go_enter Tryz.func9, Tryz.ntmps9
    go_wp2_with fail
    refine HRd.out.mono ?_
    rintro e W2 ⟨hc, rfl, hb⟩
    have HM1 := Lib.hid (HM.out.next hb)
    have b1 : (c0 != 0) = true := by simpa using hc
    clear HM hb
    have HM := HM1
    clear HM1
    go_wp2_with fail
    go_ret2
    exact ⟨hc, rfl, HM.out.below⟩
  | some l =>
    obtain ⟨hc0, hs3, hok⟩ := markF_ok hrm
    subst hc0
    have HSh := Lib.hid (mark_short hrm)
    have hll := markF_len hrm
    rw [treeR_grown hrm] at hr
    obtain ⟨gt, hgt⟩ : ∃ x, grownF l = x := ⟨_, rfl⟩
    rw [hgt] at hr
    have HR := Lib.hid hr
    have HGt := Lib.hid hgt
    clear hrm hr hgt hok
    go_enter Tryz.func9, Tryz.ntmps9
    go_wp2_with fail
    refine HRd.out.mono ?_
    rintro e W2 ⟨ms, p, c, hl, hms, rfl, hM⟩
    clear HM HRd
    have HM := Lib.hid hM
    have HL := Lib.hid hl
    clear hM hl
    have HGr := Lib.hid (rgrown_any p c ms _ gt (by rw [HL.out]; exact HGt.out) (row_sl (HM.out.get (k := 0) rfl)) (fun m hm => row_sl (HM.out.holds m.res (.tail _ (List.mem_map.2 ⟨m, hm, rfl⟩)))) (by rw [HL.out]; exact HSh.out) (by have : (outD ms).length = ms.length := List.length_map ..; rw [HL.out] at this; omega))
    go_wp2_with fail
    refine HGr.out.mono ?_
    rintro e W3 h
    clear HGr
    cases gt with
    | none =>
      obtain ⟨v, rfl, hb⟩ := h
      have HM1 := Lib.hid (HM.out.next hb)
      have HR2 := Lib.hid (HR.out).symm
      clear HM hb
      have HM := HM1
      clear HM1
      go_wp2_with (first | fail)
      go_ret2
      exact td_none HR2.out rfl HM.out.below
    | some t =>
      obtain ⟨els, p2, c2, hd, hel, rfl, hM2⟩ := h
      have HM1 := Lib.hid (HM.out.comp2 hM2)
      have HD := Lib.hid hd
      have HZ := Lib.hid (grownF_sz HGt.out (fun e he => (HSh.out e he).1) (by omega))
      have HCk := Lib.hid (fun (W4 : World) (h : Mem W W4 ((.row p2 c2 42 4 els.length (elC els) :: elR els) ++ (.row p c 57 4 ms.length (outC ms) :: outR ms))) => rcheck_any p2 c2 els W4 (elin_own (c := c2) (n := els.length) h (by simp) (fun r hr => by simp [hr])) (fun m hm => HZ.out m.d (by rw [← HD.out]; exact List.mem_map.2 ⟨m, hm, rfl⟩)))
      rw [hd] at HCk
      have hr := HR.out
      dsimp only at hr
      clear HM hM2 hd HR
      have HM := HM1
      clear HM1
      by_cases hck : checkT t = 0
      · rw [if_pos hck] at hr
        subst hr
        rw [hck] at HCk
        clear hck
        go_wp2_with (first | (go_at_call 13; (with_reducible refine cB HM (HCk.out _ HM.out) ?_); clear HM; intro W1 HM) | fail)
        go_ret2
        exact ⟨els, p2, c2, HD.out, hel, rfl, HM.out.sub (List.sublist_append_left _ _)⟩
      · rw [if_neg hck] at hr
        have HR2 := Lib.hid hr.symm
        have b1 : (checkT t != 0) = true := by simpa using hck
        have b2 : (checkT t == 0) = false := by simpa using hck
        clear hck hr
        go_wp2_with (first | (go_at_call 13; (with_reducible refine cB HM (HCk.out _ HM.out) ?_); clear HM; intro W1 HM) | fail)
        go_ret2
        exact td_none HR2.out b2 HM.out.below

theorem grow1_l {g g2 : GrD} {e : EvD} (h : grow1 g e = some g2) (he : e.l.length ≤ 16) (hg : ∀ x ∈ g.ts, x.l.length ≤ 16) : ∀ x ∈ g2.ts, x.l.length ≤ 16 := by
  unfold grow1 at h
  split at h
  · split at h
    · split at h
      · cases h
        intro x hx
        rcases List.mem_append.1 hx with hx | hx
        · exact hg x hx
        · simp at hx; rw [hx]; exact he
      · cases h
    · cases h
      intro x hx
      rcases List.mem_append.1 hx with hx | hx
      · exact hg x hx
      · simp at hx; rw [hx]; exact he
  split at h
  · split at h
    · cases h
    · split at h
      · cases h; exact hg
      · cases h
  · split at h
    · split at h
      · cases h; exact hg
      · cases h
    · cases h
      intro x hx
      unfold addText at hx
      split at hx
      · rename_i y hy
        rcases List.mem_or_eq_of_mem_set hx with hx | rfl
        · exact hg x hx
        · exact hg y (List.mem_of_getElem? hy)
      · exact hg x hx
theorem growF_l : ∀ (l : List EvD) {g g2 : GrD}, growF l g = some g2 → (∀ e ∈ l, e.l.length ≤ 16) → (∀ x ∈ g.ts, x.l.length ≤ 16) → ∀ x ∈ g2.ts, x.l.length ≤ 16
  | [], g, g2, h, _, hg => by cases h; exact hg
  | e :: l, g, g2, h, hl, hg => by
    rw [growF] at h
    cases h1 : grow1 g e with
    | none => rw [h1] at h; cases h
    | some g1 =>
      rw [h1] at h
      exact growF_l l h (fun e he => hl e (by simp [he])) (grow1_l h1 (hl e (by simp)) hg)
theorem grownF_l {l : List EvD} {t : List ElD} (h : grownF l = some t) (hl : ∀ e ∈ l, e.l.length ≤ 16) : ∀ x ∈ t, x.l.length ≤ 16 := by
  unfold grownF at h
  cases h1 : growF l ⟨[], [], []⟩ with
  | none => rw [h1] at h; cases h
  | some g =>
    rw [h1] at h
    dsimp only at h
    cases h2 : clearF g.ts g.has with
    | none => rw [h2] at h; cases h
    | some t1 =>
      rw [h2] at h
      dsimp only at h
      split at h
      · cases h
      · cases h
        exact clearF_sz (Q := fun x => x.l.length ≤ 16) (fun e he => he) h2 (growF_l l h1 hl (by simp))
theorem treeR_some {S : ByteArray} {t : List ElD} {c : Int} (h : treeR S = (some t, c)) : checkT t = 0 ∧ (∀ x ∈ t, szOk x) ∧ ∀ x ∈ t, x.l.length ≤ 16 := by
  obtain ⟨⟨o, c0⟩, hm⟩ : ∃ x, markF S = x := ⟨_, rfl⟩
  cases o with
  | none =>
    unfold treeR at h
    rw [hm] at h
    cases h
  | some l =>
    rw [treeR_grown hm] at h
    cases hg : grownF l with
    | none => rw [hg] at h; cases h
    | some t1 =>
      rw [hg] at h
      dsimp only at h
      split at h
      · rename_i hc
        simp only [Prod.mk.injEq, Option.some.injEq] at h
        obtain ⟨rfl, -⟩ := h
        exact ⟨hc, grownF_sz hg (fun e he => (mark_short hm e he).1) (by have := markF_len hm; omega), grownF_l hg (fun e he => (mark_short hm e he).2)⟩
      · cases h

set_option maxHeartbeats 8000000 in
theorem treeReads_walk (S : ByteArray) (W : World) (hT : U8 W) (hE : ErrsAt W) (hX : MaxAt W) (hs : S.size ≤ 1048576) :
    Calls Tryz.prog 3 #[.string S] W fun e w' => e = .returned (.bool true) ∧ Below W.heap.size W w' := by
  have HM := Lib.hid (Mem.start W)
  have HT := Lib.hid hT
  have HK := Lib.hid (tknown_any W hT hE hX)
  obtain ⟨r, hr⟩ : ∃ r, treeR S = r := ⟨_, rfl⟩
  have HD := Lib.hid (fun W2 => rtdoc_any S W2 r hr hs)
  have HR := Lib.hid (fun W2 h1 h2 h3 => tread_any S W2 r hr h1 h2 h3 hs)
  have HE := Lib.hid hE
  have HX := Lib.hid hX
  obtain ⟨o, c⟩ := r
  clear hT hE hX
  cases o with
  | none =>
    clear hr
    go_enter Tryz.func3, Tryz.ntmps3
    go_wp2_with (first | (go_at_call 8; (with_reducible refine cB HM (HK.out) ?_); clear HM; intro W1 HM))
    refine (HD.out _).mono ?_
    rintro e W2 ⟨hc, rfl, hb⟩
    have HM1 := Lib.hid (HM.out.next hb)
    clear HM hb
    have HM := HM1
    clear HM1
    go_wp2_with fail
    refine (HR.out _ (HT.out.below HM.out.below) (HE.out.below HM.out.below) (HX.out.below HM.out.below)).mono ?_
    rintro e W3 ⟨j, hj, -, rfl, hb⟩
    have HM1 := Lib.hid (HM.out.next hb)
    have HS := Lib.hid (fun W4 => rtsame_any none none 0 0 [] [] W4 ⟨⟨fun _ => rfl, fun a e => by cases e⟩, fun m hm => by simp at hm⟩ ⟨⟨fun _ => rfl, fun a e => by cases e⟩, fun m hm => by simp at hm⟩ rfl (by simp) (by intro m hm; simp at hm))
    have b1 : (c == c) = true := by simp
    have b2 : (c != 0) = true := by simpa using hc
    have d1 : decide ((j : Int) ≤ (S.size : Int)) = true := decide_eq_true (by omega)
    have d2 : decide (j ≤ S.size) = true := decide_eq_true (by omega)
    clear HM hb HD HR HK hc
    have HM := HM1
    clear HM1
    go_wp2_with (first | (go_at_call 11; (with_reducible refine cB HM (HS.out _) ?_); clear HM; intro W1 HM) | ((with_reducible refine skip_op ?_ ?_); exact rfl))
    go_ret
    exact ⟨rfl, HM.out.below⟩
  | some t =>
    obtain ⟨hck, hsz, hl16⟩ := treeR_some hr
    have HSz := Lib.hid hsz
    have HL16 := Lib.hid hl16
    have HCk := Lib.hid hck
    clear hr hck hsz hl16
    go_enter Tryz.func3, Tryz.ntmps3
    go_wp2_with (first | (go_at_call 8; (with_reducible refine cB HM (HK.out) ?_); clear HM; intro W1 HM))
    refine (HD.out _).mono ?_
    rintro e W2 ⟨xs, px, cx, hdx, hlx, rfl, hM⟩
    have HM1 := Lib.hid (HM.out.comp2 hM)
    clear HM hM
    have HM := HM1
    clear HM1
    go_wp2_with fail
    refine (HR.out _ (HT.out.below HM.out.below) (HE.out.below HM.out.below) (HX.out.below HM.out.below)).mono ?_
    rintro e W3 ⟨ys, py, cy, hdy, hly, rfl, hM⟩
    have HM1 := Lib.hid (HM.out.comp2 hM)
    clear HM hM HD HR HK
    have HM := HM1
    clear HM1
    have HIx := Lib.hid (elin_own (els := xs) (p := px) (c := cx) (n := xs.length) HM.out (by simp) (fun r hr => by simp [hr]))
    have HS := Lib.hid (rtsame_any px py cx cy xs ys _ HIx.out (elin_own (els := ys) (p := py) (c := cy) (n := ys.length) HM.out (by simp) (fun r hr => by simp [hr])) (hdx.trans hdy.symm) (by omega) (fun m hm => by
      have := HL16.out m.d (by rw [← hdx]; exact List.mem_map.2 ⟨m, hm, rfl⟩)
      omega))
    have HCc := Lib.hid (fun (W4 : World) (h : Mem W W4 ((.row py cy 42 4 ys.length (elC ys) :: elR ys) ++ ((.row px cx 42 4 xs.length (elC xs) :: elR xs) ++ []))) => tcheck_any py cy ys W4 (HT.out.below h.below) (elin_own (c := cy) (n := ys.length) h (by simp) (fun r hr => by simp [hr])) (fun m hm => HSz.out m.d (by rw [← hdy]; exact List.mem_map.2 ⟨m, hm, rfl⟩)))
    rw [hdy, HCk.out] at HCc
    clear hdx hdy HIx
    go_wp2_with (first | (go_at_call 11; (with_reducible refine cB HM (HS.out) ?_); clear HM; intro W1 HM) | (go_at_call 12; (with_reducible refine cB HM (HCc.out _ HM.out) ?_); clear HM; intro W1 HM) | ((with_reducible refine skip_op ?_ ?_); exact rfl))
    go_ret
    exact ⟨rfl, HM.out.below⟩
end Go.Proofs.YtanncakdlflopaaGreatDoor
