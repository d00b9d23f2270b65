/- The grower takes a piece. (short) What a document's pieces hold is no longer than the document; what is grown of them. No program in sight. -/
import Derived.Test.YtanncakdlflopaaGreatDoorTreeAB
namespace Go.Proofs.YtanncakdlflopaaGreatDoor
open Go.RowKit
set_option linter.unusedVariables false
set_option linter.unusedSimpArgs false
set_option maxRecDepth 100000

def boC (l : List Bool) : List Value := l.map fun b : Bool => .bool b
theorem boC_len (l : List Bool) : (boC l).length = l.length := List.length_map ..
theorem boC_snoc (l : List Bool) (b : Bool) : (boC l).take (l.length * 1) ++ [.bool b] = boC (l ++ [b]) := by
 rw [List.take_of_length_le (by rw [boC_len]; omega)]
 simp [boC]
theorem boC_set (l : List Bool) (k : Nat) (b : Bool) : (boC l).set k (.bool b) = boC (l.set k b) := by unfold boC; rw [List.map_set]
theorem elC_snoc (l : List ElM) (x : ElM) : (elC l).take (l.length * 4) ++ x.cs = elC (l ++ [x]) := by
 rw [List.take_of_length_le (by rw [elC_len]; exact Nat.le_refl _)]
 simp [elC]
/-- The place of the open element. -/
def topI : List Nat → Int
 | [] => -1
 | k :: _ => k
/-- The path of the open element. -/
def upP (l : List ElD) : List Nat → Prop
 | [] => True
 | k :: q => (∃ e, l[k]? = some e ∧ e.up = topI q) ∧ upP l q
theorem upP_mono {l : List ElD} {x : ElD} : ∀ {st : List Nat}, upP l st → upP (l ++ [x]) st
 | [], _ => trivial
 | k :: q, ⟨⟨e, h1, h2⟩, h3⟩ => ⟨⟨e, by rw [List.getElem?_append_left (List.getElem?_eq_some_iff.1 h1).1]; exact h1, h2⟩, upP_mono h3⟩
theorem upP_set {l : List ElD} {i : Nat} {x y : ElD} (hx : l[i]? = some x) (hu : y.up = x.up) : ∀ {st : List Nat}, upP l st → upP (l.set i y) st
 | [], _ => trivial
 | k :: q, ⟨⟨e, h1, h2⟩, h3⟩ => by
  refine ⟨?_, upP_set hx hu h3⟩
  by_cases hk : i = k
  ·subst hk
   rw [hx] at h1
   obtain rfl := Option.some.inj h1
   exact ⟨y, List.getElem?_set_self (List.getElem?_eq_some_iff.1 hx).1, hu.trans h2⟩
  ·exact ⟨e, by rw [List.getElem?_set_ne hk]; exact h1, h2⟩
theorem elD_at {els : List ElM} {k : Nat} {x : ElM} (h : els[k]? = some x) : (elD els)[k]? = some x.d := by unfold elD; rw [List.getElem?_map, h]; rfl
theorem elR_set {els : List ElM} {k : Nat} {x y : ElM} (h : els[k]? = some x) (hr : y.res = x.res) : elR (els.set k y) = elR els := by
 unfold elR
 rw [List.map_set, hr]
 apply List.ext_getElem?
 intro i
 by_cases hik : k = i
 ·subst hik
  have hk := (List.getElem?_eq_some_iff.1 h).1
  rw [List.getElem?_set_self (by rw [List.length_map]; exact hk), List.getElem?_map, h]; rfl
 ·rw [List.getElem?_set_ne hik]
theorem row_cellf {B : Nat} {W : World} {b : Addr} {cap k n i f : Nat} {e : TypeId} {cs : List Value} {v : Value} (h : (Res.row (some b) cap e k n cs).holds B W) (hi : cs[i * 4 + f]? = some v) : W.cell? ((b.add (i * 4)).add f) = some v := by
 rw [add_add']
 exact row_cell h hi
theorem grow_fin {w0 W : World} {G : Nat} {T : List Res} {els : List ElM} {has : List Bool} {x : ElM} {b : Bool} {p1 p2 : Option Addr} {c1 c2 : Nat} {o : Int} (h : Mem w0 W (.box G 55 [.slice p1 (els.length + 1) c1, .slice p2 (has.length + 1) c2, .int .i64 o] :: .row p1 c1 42 4 (els.length + 1) ((elC els).take (els.length * 4) ++ x.cs) :: .row p2 c2 4 1 (has.length + 1) ((boC has).take (has.length * 1) ++ [.bool b]) :: T)) :
  Mem w0 W (.box G 55 [.slice p1 (els ++ [x]).length c1, .slice p2 (has ++ [b]).length c2, .int .i64 o] :: .row p1 c1 42 4 (els ++ [x]).length (elC (els ++ [x])) :: .row p2 c2 4 1 (has ++ [b]).length (boC (has ++ [b])) :: T) := by
 rw [List.length_append, List.length_append, ← elC_snoc, ← boC_snoc]
 exact h
/-- What take leaves. -/
def TKPost (r : Option GrD) (w0 : World) (G : Nat) (T : List Res) (els : List ElM) (m : EvM) (e : Ending) (w' : World) : Prop :=
 match r with
 | none => e = .returned (.bool false) ∧ Below w0.heap.size w0 w'
 | some g => e = .returned (.bool true) ∧ ∃ (els' : List ElM) (pt ph : Option Addr) (ct ch : Nat), elD els' = g.ts ∧ (elR els' = elR els ∨ elR els' = elR els ++ [m.res]) ∧ els'.length ≤ els.length + 1 ∧ upP g.ts g.st ∧ g.has.length = els'.length ∧
   Mem w0 w' (.box G 55 [.slice pt els'.length ct, .slice ph g.has.length ch, .int .i64 (topI g.st)] :: .row pt ct 42 4 els'.length (elC els') :: .row ph ch 4 1 g.has.length (boC g.has) :: T)
theorem tk_none {r : Option GrD} {w0 : World} {G : Nat} {T : List Res} {els : List ElM} {m : EvM} {w' : World} (h : none = r) (hb : Below w0.heap.size w0 w') : TKPost r w0 G T els m (.returned (.bool false)) w' := by
 subst h; exact ⟨rfl, hb⟩

set_option maxHeartbeats 8000000 in
theorem take_root_no (w0 W : World) (G : Nat) (T : List Res) (els : List ElM) (has : List Bool) (st : List Nat) (pt ph : Option Addr) (ct ch : Nat) (m : EvM) (hl : els.length ≤ 1048576) (hh : has.length = els.length) (h : Mem w0 W (.box G 55 [.slice pt els.length ct, .slice ph has.length ch, .int .i64 (topI st)] :: .row pt ct 42 4 els.length (elC els) :: .row ph ch 4 1 has.length (boC has) :: T)) (hk : m.d.k = 1) (hst : st = []) (hne : els.length ≠ 0) :
  Calls Tryz.prog 23 #[.pointer (some ⟨G, 0, none⟩), .agg #[.int .i64 m.d.k, .string m.d.n, .slice m.p m.d.l.length m.c, .string m.d.t]] W (TKPost none w0 G T els m) := by
 have HM := Lib.hid h
 have HEd := Lib.hid (show (elD els).length = els.length from List.length_map ..)
 have hl2 : has.length ≤ 1048576 := by omega
 have HHs := Lib.hid hh
 obtain ⟨⟨k, n, l, t⟩, pa, ca⟩ := m
 dsimp only at hk ⊢
 clear h hh
 subst hk hst
 have d1 : decide ((0 : Int) < (els.length : Int)) = true := decide_eq_true (by omega)
 simp only [topI] at HM
 go_enter Tryz.func23, Tryz.ntmps23
 go_wp2_with (first | ((with_reducible refine skip_op ?_ ?_); exact rfl) | refine mP ?_ | (refine mS ?_; clear HM; intro W1 HM) | (refine mL ?_; clear HM; intro g1 W1 HM) | ((with_reducible refine iat 3 ?_); refine mB ?_; clear HM; intro g3 W1 HM))
 go_ret
 exact tk_none rfl HM.out.below
set_option maxHeartbeats 8000000 in
theorem take_root (w0 W : World) (G : Nat) (T : List Res) (els : List ElM) (has : List Bool) (st : List Nat) (pt ph : Option Addr) (ct ch : Nat) (m : EvM) (hl : els.length ≤ 1048576) (hh : has.length = els.length) (h : Mem w0 W (.box G 55 [.slice pt els.length ct, .slice ph has.length ch, .int .i64 (topI st)] :: .row pt ct 42 4 els.length (elC els) :: .row ph ch 4 1 has.length (boC has) :: T)) (hk : m.d.k = 1) (hst : st = []) (h0 : els.length = 0) :
  Calls Tryz.prog 23 #[.pointer (some ⟨G, 0, none⟩), .agg #[.int .i64 m.d.k, .string m.d.n, .slice m.p m.d.l.length m.c, .string m.d.t]] W (TKPost (some ⟨elD els ++ [⟨m.d.n, -1, m.d.l, ⟨#[]⟩⟩], has ++ [false], [els.length]⟩) w0 G T els m) := by
 have HM := Lib.hid h
 have HEd := Lib.hid (show (elD els).length = els.length from List.length_map ..)
 have hl2 : has.length ≤ 1048576 := by omega
 have HHs := Lib.hid hh
 obtain ⟨⟨k, n, l, t⟩, pa, ca⟩ := m
 dsimp only at hk ⊢
 clear h hh
 subst hk hst
 have d1 : decide ((0 : Int) < (els.length : Int)) = false := decide_eq_false (by omega)
 have d2 : decide (0 < els.length) = false := decide_eq_false (by omega)
 clear h0
 simp only [topI] at HM
 go_enter Tryz.func23, Tryz.ntmps23
 go_wp2_with (first | ((with_reducible refine skip_op ?_ ?_); exact rfl) | refine mP ?_ | (refine mS ?_; clear HM; intro W1 HM) | (refine mL ?_; clear HM; intro g1 W1 HM) | ((with_reducible refine iat 3 ?_); refine mB ?_; clear HM; intro g3 W1 HM))
 refine wp_region_mem3 18 [(0, 0), (0, 1), (0, 2), (0, 3), (0, 4), (0, 5), (0, 6), (0, 7), (0, 8), (0, 9), (0, 10), (0, 11), (0, 12), (0, 13), (2, 14), (2, 15), (1, 16), (1, 17), (3, 18)] (by kernel_rfl) (by kernel_rfl) rfl (by kernel_rfl) (fun _ _ _ _ _ h => h) HM.out _ (.cons_cons _ (.cons_cons _ (.cons _ (List.nil_sublist _)))) ?_
 intro hNE W1 HM1; replace HM := Lib.hid HM1; clear HM1
 have HS0 := Lib.hid (HM.out.sub (.cons_cons _ (.cons_cons _ (.cons _ (List.nil_sublist _)))))
 simp only [wpSteps3, List.getElem?_cons_succ, List.getElem?_cons_zero]
 (repeat (first | ((with_reducible refine wpQuiet_nil ?_); (try dsimp only)) | refine mQ ?_ | go_big_quiet_step (fail) | quiet_step (fail)))
 go_wp2_with (first | (refine mL ?_; clear HM; intro g1 W1 HM))
 refine ⟨⟨⟨_, HM.out.sub (by repeat (first | exact List.nil_sublist _ | with_reducible refine List.Sublist.cons_cons _ ?_ | refine List.Sublist.cons _ ?_))⟩, rfl⟩, ?_⟩
 (try dsimp only)
 go_wp2_with (first | (refine apb rfl HM.out 3 0 rfl rfl rfl rfl rfl rfl (by omega) (by omega) (by omega) ?_; intro p1 cap1 W1 HM1; replace HM := Lib.hid HM1; clear HM1; simp only [List.set] at HM))
 refine ⟨⟨⟨_, HM.out.sub (by repeat (first | exact List.nil_sublist _ | with_reducible refine List.Sublist.cons_cons _ ?_ | refine List.Sublist.cons _ ?_))⟩, rfl⟩, ?_⟩
 (try dsimp only)
 (repeat (first | ((with_reducible refine wpQuiet_nil ?_); (try dsimp only)) | refine mQ ?_ | go_big_quiet_step (fail) | quiet_step (fail)))
 go_wp2_with (first | (refine mS ?_; clear HM; intro W1 HM))
 refine ⟨trivial, ?_⟩
 (try dsimp only)
 clear HS0 hNE
 go_wp2_with (first | (refine apb rfl HM.out 5 0 rfl rfl rfl rfl rfl rfl (by omega) (by omega) (by omega) ?_; intro p2 cap2 W1 HM1; replace HM := Lib.hid HM1; clear HM1; simp only [List.set] at HM) | ((with_reducible refine skip_op ?_ ?_); exact rfl) | refine mP ?_ | (refine mS ?_; clear HM; intro W1 HM) | (refine mL ?_; clear HM; intro g1 W1 HM) | (refine mB ?_; clear HM; intro g1 W1 HM))
 go_ret
 refine ⟨rfl, els ++ [⟨⟨n, -1, l, ⟨#[]⟩⟩, pa, ca⟩], p1, p2, cap1, cap2, by simp [elD], .inr (by simp [elR, ElM.res, EvM.res]), by simp, ⟨⟨_, by rw [List.getElem?_append_right (by rw [HEd.out]; exact Nat.le_refl _)]; rw [HEd.out]; simp; rfl, rfl⟩, trivial⟩, by simp [HHs.out], ?_⟩
 exact grow_fin (x := ⟨⟨n, -1, l, ⟨#[]⟩⟩, pa, ca⟩) (b := false) (HM.out.sub (.cons _ (.cons _ (.cons _ (.refl _)))))
set_option maxHeartbeats 8000000 in
theorem take_open (w0 W : World) (G : Nat) (T : List Res) (els : List ElM) (has : List Bool) (st : List Nat) (pt ph : Option Addr) (ct ch : Nat) (m : EvM) (hl : els.length ≤ 1048576) (hh : has.length = els.length) (h : Mem w0 W (.box G 55 [.slice pt els.length ct, .slice ph has.length ch, .int .i64 (topI st)] :: .row pt ct 42 4 els.length (elC els) :: .row ph ch 4 1 has.length (boC has) :: T)) (k0 : Nat) (q : List Nat) (hk : m.d.k = 1) (hst : st = k0 :: q) (hk0 : k0 < els.length) (hup : upP (elD els) (k0 :: q)) :
  Calls Tryz.prog 23 #[.pointer (some ⟨G, 0, none⟩), .agg #[.int .i64 m.d.k, .string m.d.n, .slice m.p m.d.l.length m.c, .string m.d.t]] W (TKPost (some ⟨elD els ++ [⟨m.d.n, k0, m.d.l, ⟨#[]⟩⟩], has.set k0 true ++ [false], els.length :: k0 :: q⟩) w0 G T els m) := by
 have HM := Lib.hid h
 have HEd := Lib.hid (show (elD els).length = els.length from List.length_map ..)
 have hl2 : has.length ≤ 1048576 := by omega
 have HHs := Lib.hid hh
 obtain ⟨⟨k, n, l, t⟩, pa, ca⟩ := m
 dsimp only at hk ⊢
 clear h hh
 subst hk hst
 have hk0h : k0 < has.length := by rw [HHs.out]; exact hk0
 obtain ⟨bh, rfl⟩ := row_has (HM.out.get (k := 2) rfl) (by omega)
 have HU := Lib.hid hup
 clear hup
 simp only [topI] at HM
 go_enter Tryz.func23, Tryz.ntmps23
 go_wp2_with (first | ((with_reducible refine skip_op ?_ ?_); exact rfl) | refine mP ?_ | (refine mS ?_; clear HM; intro W1 HM) | (refine mL ?_; clear HM; intro g1 W1 HM) | ((with_reducible refine iat 3 ?_); refine mB ?_; clear HM; intro g3 W1 HM))
 refine wp_region_mem3 9 [(0, 0), (0, 1), (0, 2), (0, 3), (0, 4), (0, 5), (0, 6), (0, 7), (1, 8), (3, 9)] (by kernel_rfl) (by kernel_rfl) rfl (by kernel_rfl) (fun _ _ _ _ _ h => h) HM.out _ (.cons_cons _ (.cons_cons _ (.cons _ (List.nil_sublist _)))) ?_
 intro hNE W1 HM1; replace HM := Lib.hid HM1; clear HM1
 have HS0 := Lib.hid (HM.out.sub (.cons_cons _ (.cons_cons _ (.cons _ (List.nil_sublist _)))))
 simp only [wpSteps3, List.getElem?_cons_succ, List.getElem?_cons_zero]
 (repeat (first | ((with_reducible refine wpQuiet_nil ?_); (try dsimp only)) | refine mQ ?_ | ((with_reducible refine qat 59 ?_); (refine qixa (i := k0) rfl rfl rfl hk0h ?_)) | go_big_quiet_step (fail) | quiet_step (fail)))
 go_wp2_with (first | ((with_reducible refine istore ?_); (refine strw (i := k0 * 1) (v := .bool true) rfl HM.out 3 rfl rfl rfl rfl (by rw [boC_len]; omega) ?_); intro W1 HM1; replace HM := Lib.hid HM1; clear HM1; simp only [List.set, Nat.mul_one] at HM) | (refine mS ?_; clear HM; intro W1 HM))
 refine ⟨trivial, ?_⟩
 (try dsimp only)
 clear HS0 hNE
 rw [boC_set] at HM
 obtain ⟨has2, hh2⟩ : ∃ x, has.set k0 true = x := ⟨_, rfl⟩
 have hl3 : has2.length = has.length := by rw [← hh2, List.length_set]
 rw [hh2, ← hl3] at HM
 rw [← hl3] at hl2
 have HHt := Lib.hid (hl3.trans HHs.out)
 have HH2 := Lib.hid hh2
 clear hl3 hh2 hk0h
 go_wp2_with fail
 refine wp_region_mem3 18 [(0, 0), (0, 1), (0, 2), (0, 3), (0, 4), (0, 5), (0, 6), (0, 7), (0, 8), (0, 9), (0, 10), (0, 11), (0, 12), (0, 13), (2, 14), (2, 15), (1, 16), (1, 17), (3, 18)] (by kernel_rfl) (by kernel_rfl) rfl (by kernel_rfl) (fun _ _ _ _ _ h => h) HM.out _ (.cons_cons _ (.cons_cons _ (.cons _ (List.nil_sublist _)))) ?_
 intro hNE W1 HM1; replace HM := Lib.hid HM1; clear HM1
 have HS0 := Lib.hid (HM.out.sub (.cons_cons _ (.cons_cons _ (.cons _ (List.nil_sublist _)))))
 simp only [wpSteps3, List.getElem?_cons_succ, List.getElem?_cons_zero]
 (repeat (first | ((with_reducible refine wpQuiet_nil ?_); (try dsimp only)) | refine mQ ?_ | go_big_quiet_step (fail) | quiet_step (fail)))
 go_wp2_with (first | (refine mL ?_; clear HM; intro g1 W1 HM))
 refine ⟨⟨⟨_, HM.out.sub (by repeat (first | exact List.nil_sublist _ | with_reducible refine List.Sublist.cons_cons _ ?_ | refine List.Sublist.cons _ ?_))⟩, rfl⟩, ?_⟩
 (try dsimp only)
 go_wp2_with (first | (refine apb rfl HM.out 3 0 rfl rfl rfl rfl rfl rfl (by omega) (by omega) (by omega) ?_; intro p1 cap1 W1 HM1; replace HM := Lib.hid HM1; clear HM1; simp only [List.set] at HM))
 refine ⟨⟨⟨_, HM.out.sub (by repeat (first | exact List.nil_sublist _ | with_reducible refine List.Sublist.cons_cons _ ?_ | refine List.Sublist.cons _ ?_))⟩, rfl⟩, ?_⟩
 (try dsimp only)
 (repeat (first | ((with_reducible refine wpQuiet_nil ?_); (try dsimp only)) | refine mQ ?_ | go_big_quiet_step (fail) | quiet_step (fail)))
 go_wp2_with (first | (refine mS ?_; clear HM; intro W1 HM))
 refine ⟨trivial, ?_⟩
 (try dsimp only)
 clear HS0 hNE
 go_wp2_with (first | (refine apb rfl HM.out 5 0 rfl rfl rfl rfl rfl rfl (by omega) (by omega) (by omega) ?_; intro p2 cap2 W1 HM1; replace HM := Lib.hid HM1; clear HM1; simp only [List.set] at HM) | ((with_reducible refine skip_op ?_ ?_); exact rfl) | refine mP ?_ | (refine mS ?_; clear HM; intro W1 HM) | (refine mL ?_; clear HM; intro g1 W1 HM) | (refine mB ?_; clear HM; intro g1 W1 HM))
 go_ret
 rw [HH2.out]
 refine ⟨rfl, els ++ [⟨⟨n, k0, l, ⟨#[]⟩⟩, pa, ca⟩], p1, p2, cap1, cap2, by simp [elD], .inr (by simp [elR, ElM.res, EvM.res]), by simp, ⟨⟨_, by rw [List.getElem?_append_right (by rw [HEd.out]; exact Nat.le_refl _)]; rw [HEd.out]; simp; rfl, rfl⟩, upP_mono HU.out⟩, by simp [HHt.out], ?_⟩
 exact grow_fin (x := ⟨⟨n, k0, l, ⟨#[]⟩⟩, pa, ca⟩) (b := false) (HM.out.sub (.cons _ (.cons _ (.cons _ (.refl _)))))
set_option maxHeartbeats 8000000 in
theorem take_close_no (w0 W : World) (G : Nat) (T : List Res) (els : List ElM) (has : List Bool) (st : List Nat) (pt ph : Option Addr) (ct ch : Nat) (m : EvM) (hl : els.length ≤ 1048576) (hh : has.length = els.length) (h : Mem w0 W (.box G 55 [.slice pt els.length ct, .slice ph has.length ch, .int .i64 (topI st)] :: .row pt ct 42 4 els.length (elC els) :: .row ph ch 4 1 has.length (boC has) :: T)) (hk : m.d.k = 2) (hst : st = []) :
  Calls Tryz.prog 23 #[.pointer (some ⟨G, 0, none⟩), .agg #[.int .i64 m.d.k, .string m.d.n, .slice m.p m.d.l.length m.c, .string m.d.t]] W (TKPost none w0 G T els m) := by
 have HM := Lib.hid h
 have HEd := Lib.hid (show (elD els).length = els.length from List.length_map ..)
 have hl2 : has.length ≤ 1048576 := by omega
 have HHs := Lib.hid hh
 obtain ⟨⟨k, n, l, t⟩, pa, ca⟩ := m
 dsimp only at hk ⊢
 clear h hh
 subst hk hst
 simp only [topI] at HM
 go_enter Tryz.func23, Tryz.ntmps23
 go_wp2_with (first | ((with_reducible refine skip_op ?_ ?_); exact rfl) | refine mP ?_ | (refine mS ?_; clear HM; intro W1 HM) | (refine mL ?_; clear HM; intro g1 W1 HM) | ((with_reducible refine iat 3 ?_); refine mB ?_; clear HM; intro g3 W1 HM))
 refine wp_region_mem (by kernel_rfl) (by kernel_rfl) HM.out ?_; intro hNE; (repeat (any_goals (first | ((with_reducible refine qgd ?_); (with_reducible refine skip_q ?_ ?_ ?_); (exact rfl); (rotate_left; (exact (hNE.elim fun p => ⟨p.W, p, rfl⟩)))) | refine mQ ?_ | go_big_quiet_step (fail) | quiet_step (fail)))); clear hNE; refine wpQuiet_nil ?_; intro W1 HM1; replace HM := Lib.hid HM1; clear HM1
 go_wp2_with (first | ((with_reducible refine skip_op ?_ ?_); exact rfl) | refine mP ?_ | (refine mS ?_; clear HM; intro W1 HM) | (refine mL ?_; clear HM; intro g1 W1 HM) | ((with_reducible refine iat 3 ?_); refine mB ?_; clear HM; intro g3 W1 HM))
 go_ret
 exact tk_none rfl HM.out.below
set_option maxHeartbeats 8000000 in
theorem take_close (w0 W : World) (G : Nat) (T : List Res) (els : List ElM) (has : List Bool) (st : List Nat) (pt ph : Option Addr) (ct ch : Nat) (m : EvM) (hl : els.length ≤ 1048576) (hh : has.length = els.length) (h : Mem w0 W (.box G 55 [.slice pt els.length ct, .slice ph has.length ch, .int .i64 (topI st)] :: .row pt ct 42 4 els.length (elC els) :: .row ph ch 4 1 has.length (boC has) :: T)) (k0 : Nat) (q : List Nat) (x : ElM) (b : Bool) (hk : m.d.k = 2) (hst : st = k0 :: q) (hx : els[k0]? = some x) (hxu : x.d.up = topI q) (hb : (x.d.n.toList == m.d.n.toList) = b) (hup : upP (elD els) q) :
  Calls Tryz.prog 23 #[.pointer (some ⟨G, 0, none⟩), .agg #[.int .i64 m.d.k, .string m.d.n, .slice m.p m.d.l.length m.c, .string m.d.t]] W (TKPost (if b then some ⟨elD els, has, q⟩ else none) w0 G T els m) := by
 have hk0 : k0 < els.length := (List.getElem?_eq_some_iff.1 hx).1
 have HM := Lib.hid h
 have HEd := Lib.hid (show (elD els).length = els.length from List.length_map ..)
 have hl2 : has.length ≤ 1048576 := by omega
 have HHs := Lib.hid hh
 obtain ⟨⟨k, n, l, t⟩, pa, ca⟩ := m
 dsimp only at hk ⊢
 clear h hh
 subst hk hst
 have HU := Lib.hid hup
 have HNm := Lib.hid (flat_getx ElM.cs 4 ElM.cs_len hx (j := 0) (by omega))
 have HUp := Lib.hid (flat_getx ElM.cs 4 ElM.cs_len hx (j := 1) (by omega))
 obtain ⟨⟨xn, xu, xl, xt⟩, xp, xc⟩ := x
 dsimp only at hxu hb
 subst hxu
 have HNm2 := Lib.hid (show (elC els)[k0 * 4]? = some (.string xn) from HNm.out)
 have HUp2 := Lib.hid (show (elC els)[k0 * 4 + 1]? = some (.int .i64 (topI q)) from HUp.out)
 obtain ⟨tq, htq⟩ : ∃ y, topI q = y := ⟨_, rfl⟩
 rw [htq] at HUp2
 have HTq := Lib.hid htq
 obtain ⟨bt, rfl⟩ := row_has (HM.out.get (k := 1) rfl) (by omega)
 simp only [topI] at HM
 clear hup hx HNm HUp htq
 cases b with
 | false =>
  as_aux_lemma =>
  go_enter Tryz.func23, Tryz.ntmps23
  go_wp2_with (first | ((with_reducible refine skip_op ?_ ?_); exact rfl) | refine mP ?_ | (refine mS ?_; clear HM; intro W1 HM) | (refine mL ?_; clear HM; intro g1 W1 HM) | ((with_reducible refine iat 3 ?_); refine mB ?_; clear HM; intro g3 W1 HM))
  refine wp_region_mem (by kernel_rfl) (by kernel_rfl) HM.out ?_; intro hNE; (repeat (any_goals (first | ((with_reducible refine qgd ?_); (with_reducible refine skip_q ?_ ?_ ?_); (exact rfl); (rotate_left; (exact (hNE.elim fun p => ⟨p.W, p, rfl⟩)))) | refine mQ ?_ | ((with_reducible refine qat 112 ?_); (refine qixa (i := k0) rfl rfl rfl hk0 ?_)) | ((with_reducible refine qat 114 ?_); (refine qd1 rfl (fun W ⟨qq, hq⟩ => hq ▸ row_cell (qq.mem.get (k := 2) rfl) HNm2.out) ?_)) | go_big_quiet_step (fail) | quiet_step (fail)))); clear hNE; refine wpQuiet_nil ?_; intro W1 HM1; replace HM := Lib.hid HM1; clear HM1
  go_wp2_with (first | ((with_reducible refine skip_op ?_ ?_); exact rfl) | refine mP ?_ | (refine mS ?_; clear HM; intro W1 HM) | (refine mL ?_; clear HM; intro g1 W1 HM) | ((with_reducible refine iat 3 ?_); refine mB ?_; clear HM; intro g3 W1 HM))
  go_ret
  exact tk_none rfl HM.out.below
 | true =>
  as_aux_lemma =>
  go_enter Tryz.func23, Tryz.ntmps23
  go_wp2_with (first | ((with_reducible refine skip_op ?_ ?_); exact rfl) | refine mP ?_ | (refine mS ?_; clear HM; intro W1 HM) | (refine mL ?_; clear HM; intro g1 W1 HM) | ((with_reducible refine iat 3 ?_); refine mB ?_; clear HM; intro g3 W1 HM))
  refine wp_region_mem (by kernel_rfl) (by kernel_rfl) HM.out ?_; intro hNE; (repeat (any_goals (first | ((with_reducible refine qgd ?_); (with_reducible refine skip_q ?_ ?_ ?_); (exact rfl); (rotate_left; (exact (hNE.elim fun p => ⟨p.W, p, rfl⟩)))) | refine mQ ?_ | ((with_reducible refine qat 112 ?_); (refine qixa (i := k0) rfl rfl rfl hk0 ?_)) | ((with_reducible refine qat 114 ?_); (refine qd1 rfl (fun W ⟨qq, hq⟩ => hq ▸ row_cell (qq.mem.get (k := 2) rfl) HNm2.out) ?_)) | go_big_quiet_step (fail) | quiet_step (fail)))); clear hNE; refine wpQuiet_nil ?_; intro W1 HM1; replace HM := Lib.hid HM1; clear HM1
  go_wp2_with fail
  refine wp_region_mem3 14 [(0, 0), (0, 1), (0, 2), (0, 3), (0, 4), (0, 5), (0, 6), (0, 7), (0, 8), (0, 9), (0, 10), (0, 11), (1, 12), (1, 13), (3, 14)] (by kernel_rfl) (by kernel_rfl) rfl (by kernel_rfl) (fun _ _ _ _ _ h => h) HM.out _ (.cons_cons _ (.cons_cons _ (.cons_cons _ (.cons _ (List.nil_sublist _))))) ?_
  intro hNE W1 HM1; replace HM := Lib.hid HM1; clear HM1
  have HS0 := Lib.hid (HM.out.sub (.cons_cons _ (.cons_cons _ (.cons_cons _ (.cons _ (List.nil_sublist _))))))
  simp only [wpSteps3, List.getElem?_cons_succ, List.getElem?_cons_zero]
  (repeat (first | ((with_reducible refine wpQuiet_nil ?_); (try dsimp only)) | refine mQ ?_ | ((with_reducible refine qat 128 ?_); (refine qixa (i := k0) rfl rfl rfl hk0 ?_)) | ((with_reducible refine qat 130 ?_); (refine qd1 rfl (fun W ⟨qq, hq⟩ => hq ▸ row_cellf (qq.mem.get (k := 2) rfl) HUp2.out) ?_)) | go_big_quiet_step (fail) | quiet_step (fail)))
  go_wp2_with (first | (refine mS ?_; clear HM; intro W1 HM))
  refine ⟨trivial, ?_⟩
  (try dsimp only)
  clear HS0 hNE
  go_wp2_with (first | ((with_reducible refine skip_op ?_ ?_); exact rfl) | refine mP ?_ | (refine mS ?_; clear HM; intro W1 HM) | (refine mL ?_; clear HM; intro g1 W1 HM) | (refine mB ?_; clear HM; intro g1 W1 HM))
  go_ret
  exact ⟨rfl, els, some bt, ph, ct, ch, rfl, .inl rfl, by omega, HU.out, HHs.out, by rw [HTq.out]; exact HM.out.sub (.cons _ (.refl _))⟩
set_option maxHeartbeats 8000000 in
theorem take_blank (w0 W : World) (G : Nat) (T : List Res) (els : List ElM) (has : List Bool) (st : List Nat) (pt ph : Option Addr) (ct ch : Nat) (m : EvM) (hl : els.length ≤ 1048576) (hh : has.length = els.length) (h : Mem w0 W (.box G 55 [.slice pt els.length ct, .slice ph has.length ch, .int .i64 (topI st)] :: .row pt ct 42 4 els.length (elC els) :: .row ph ch 4 1 has.length (boC has) :: T)) (b : Bool) (hk : m.d.k ≠ 1) (hk2 : m.d.k ≠ 2) (hst : st = []) (hb : blankB m.d.t = b) (hts : m.d.t.size ≤ 1099511627776) :
  Calls Tryz.prog 23 #[.pointer (some ⟨G, 0, none⟩), .agg #[.int .i64 m.d.k, .string m.d.n, .slice m.p m.d.l.length m.c, .string m.d.t]] W (TKPost (if b then some ⟨elD els, has, []⟩ else none) w0 G T els m) := by
 have HM := Lib.hid h
 have HEd := Lib.hid (show (elD els).length = els.length from List.length_map ..)
 have hl2 : has.length ≤ 1048576 := by omega
 have HHs := Lib.hid hh
 obtain ⟨⟨k, n, l, t⟩, pa, ca⟩ := m
 dsimp only at hk ⊢
 clear h hh
 subst hst
 have b1 : ((k : Int) == 1) = false := by simpa using (by omega : ¬ (k : Int) = 1)
 have b2 : ((k : Int) == 2) = false := by dsimp only at hk2; simpa using (by omega : ¬ (k : Int) = 2)
 dsimp only at hb hts
 have HBl := Lib.hid (fun W => tblank_any t W hts)
 rw [hb] at HBl
 simp only [topI] at HM
 clear hb hk hk2
 cases b with
 | false =>
  rw [if_neg (by decide)]
  as_aux_lemma =>
  go_enter Tryz.func23, Tryz.ntmps23
  go_wp2_with (first | (go_at_call 24; (with_reducible refine cB HM (HBl.out _) ?_); clear HM; intro W1 HM) | ((with_reducible refine skip_op ?_ ?_); exact rfl) | refine mP ?_ | (refine mS ?_; clear HM; intro W1 HM) | (refine mL ?_; clear HM; intro g1 W1 HM) | ((with_reducible refine iat 3 ?_); refine mB ?_; clear HM; intro g3 W1 HM))
  go_ret
  exact tk_none rfl HM.out.below
 | true =>
  rw [if_pos rfl]
  as_aux_lemma =>
  go_enter Tryz.func23, Tryz.ntmps23
  go_wp2_with (first | (go_at_call 24; (with_reducible refine cB HM (HBl.out _) ?_); clear HM; intro W1 HM) | ((with_reducible refine skip_op ?_ ?_); exact rfl) | refine mP ?_ | (refine mS ?_; clear HM; intro W1 HM) | (refine mL ?_; clear HM; intro g1 W1 HM) | ((with_reducible refine iat 3 ?_); refine mB ?_; clear HM; intro g3 W1 HM))
  go_ret
  exact ⟨rfl, els, pt, ph, ct, ch, rfl, .inl rfl, by omega, trivial, HHs.out, HM.out.sub (.cons _ (.refl _))⟩
set_option maxHeartbeats 8000000 in
theorem take_text (w0 W : World) (G : Nat) (T : List Res) (els : List ElM) (has : List Bool) (st : List Nat) (pt ph : Option Addr) (ct ch : Nat) (m : EvM) (hl : els.length ≤ 1048576) (hh : has.length = els.length) (h : Mem w0 W (.box G 55 [.slice pt els.length ct, .slice ph has.length ch, .int .i64 (topI st)] :: .row pt ct 42 4 els.length (elC els) :: .row ph ch 4 1 has.length (boC has) :: T)) (k0 : Nat) (q : List Nat) (x : ElM) (hk : m.d.k ≠ 1) (hk2 : m.d.k ≠ 2) (hst : st = k0 :: q) (hx : els[k0]? = some x) (hup : upP (elD els) (k0 :: q)) (hts : x.d.t.size + m.d.t.size ≤ 9223372036854775807) :
  Calls Tryz.prog 23 #[.pointer (some ⟨G, 0, none⟩), .agg #[.int .i64 m.d.k, .string m.d.n, .slice m.p m.d.l.length m.c, .string m.d.t]] W (TKPost (some ⟨addText (elD els) k0 m.d.t, has, k0 :: q⟩) w0 G T els m) := by
 have hk0 : k0 < els.length := (List.getElem?_eq_some_iff.1 hx).1
 have HM := Lib.hid h
 have HEd := Lib.hid (show (elD els).length = els.length from List.length_map ..)
 have hl2 : has.length ≤ 1048576 := by omega
 have HHs := Lib.hid hh
 obtain ⟨⟨k, n, l, t⟩, pa, ca⟩ := m
 dsimp only at hk ⊢
 clear h hh
 subst hst
 have b1 : ((k : Int) == 1) = false := by simpa using (by omega : ¬ (k : Int) = 1)
 have b2 : ((k : Int) == 2) = false := by dsimp only at hk2; simpa using (by omega : ¬ (k : Int) = 2)
 have HU := Lib.hid hup
 have HTx := Lib.hid (flat_getx ElM.cs 4 ElM.cs_len hx (j := 3) (by omega))
 obtain ⟨⟨xn, xu, xl, xt⟩, xp, xc⟩ := x
 dsimp only at hts
 have HTx2 := Lib.hid (show (elC els)[k0 * 4 + 3]? = some (.string xt) from HTx.out)
 have HXx := Lib.hid hx
 have hcl : k0 * 4 + 3 < (elC els).length := by rw [elC_len]; omega
 obtain ⟨bt, rfl⟩ := row_has (HM.out.get (k := 1) rfl) (by omega)
 simp only [topI] at HM
 clear hup hx HTx hk hk2
 go_enter Tryz.func23, Tryz.ntmps23
 go_wp2_with (first | ((with_reducible refine skip_op ?_ ?_); exact rfl) | refine mP ?_ | (refine mS ?_; clear HM; intro W1 HM) | (refine mL ?_; clear HM; intro g1 W1 HM) | ((with_reducible refine iat 3 ?_); refine mB ?_; clear HM; intro g3 W1 HM))
 refine wp_region_mem3 16 [(0, 0), (0, 1), (0, 2), (0, 3), (0, 4), (0, 5), (0, 6), (0, 7), (0, 8), (0, 9), (0, 10), (0, 11), (0, 12), (0, 13), (1, 14), (1, 15), (3, 16)] (by kernel_rfl) (by kernel_rfl) rfl (by kernel_rfl) (fun _ _ _ _ _ h => h) HM.out _ (.cons_cons _ (.cons_cons _ (.cons_cons _ (.cons _ (List.nil_sublist _))))) ?_
 intro hNE W1 HM1; replace HM := Lib.hid HM1; clear HM1
 have HS0 := Lib.hid (HM.out.sub (.cons_cons _ (.cons_cons _ (.cons_cons _ (.cons _ (List.nil_sublist _))))))
 simp only [wpSteps3, List.getElem?_cons_succ, List.getElem?_cons_zero]
 (repeat (first | ((with_reducible refine wpQuiet_nil ?_); (try dsimp only)) | refine mQ ?_ | ((with_reducible refine qat 23 ?_); (refine qixa (i := k0) rfl rfl rfl hk0 ?_)) | ((with_reducible refine qat 25 ?_); (refine qd1 rfl (fun W ⟨qq, hq⟩ => hq ▸ row_cellf (qq.mem.get (k := 2) rfl) HTx2.out) ?_)) | ((with_reducible refine qat 29 ?_); (refine qixa (i := k0) rfl rfl rfl hk0 ?_)) | go_big_quiet_step (fail) | quiet_step (fail)))
 go_wp2_with (first | ((with_reducible refine istore ?_); (refine strw (i := k0 * 4 + 3) (v := .string (xt ++ t)) rfl HM.out 2 rfl (by rw [← add_add']; rfl) rfl rfl hcl ?_); intro W1 HM1; replace HM := Lib.hid HM1; clear HM1; simp only [List.set] at HM) | (refine mS ?_; clear HM; intro W1 HM))
 refine ⟨trivial, ?_⟩
 (try dsimp only)
 clear HS0 hNE
 go_wp2_with (first | ((with_reducible refine skip_op ?_ ?_); exact rfl) | refine mP ?_ | (refine mS ?_; clear HM; intro W1 HM) | (refine mL ?_; clear HM; intro g1 W1 HM) | (refine mB ?_; clear HM; intro g1 W1 HM))
 go_ret
 have hs := flat_set ElM.cs 4 ElM.cs_len (y := ⟨⟨xn, xu, xl, xt ++ t⟩, xp, xc⟩) HXx.out rfl (by omega) (j := 3) (v := .string (xt ++ t))
 have hat : addText (elD els) k0 t = (elD els).set k0 ⟨xn, xu, xl, xt ++ t⟩ := by unfold addText; rw [elD_at HXx.out]
 refine ⟨rfl, els.set k0 ⟨⟨xn, xu, xl, xt ++ t⟩, xp, xc⟩, some bt, ph, ct, ch, by rw [hat]; unfold elD; rw [List.map_set], .inl (elR_set HXx.out rfl), by simp, by rw [hat]; exact upP_set (y := ⟨xn, xu, xl, xt ++ t⟩) (elD_at HXx.out) rfl HU.out, by rw [List.length_set]; exact HHs.out, ?_⟩
 have h9 := HM.out.sub (.cons _ (.refl _))
 rw [List.length_set]
 unfold elC at h9 ⊢
 rw [hs] at h9
 exact h9
end Go.Proofs.YtanncakdlflopaaGreatDoor

namespace Go.Proofs.YtanncakdlflopaaGreatDoor
open Go.RowKit
set_option linter.unusedVariables false
set_option linter.unusedSimpArgs false
set_option maxRecDepth 100000

theorem unes_len : ∀ (n : Nat) (S r : List UInt8), S.length ≤ n → unes S = some r → r.length ≤ S.length
 | 0, S, r, hn, h => by
  have : S = [] := List.eq_nil_of_length_eq_zero (by omega)
  subst this
  rw [unes_nil] at h
  cases h
  simp
 | n + 1, S, r, hn, h => by
  by_cases h60 : 60 ∈ S
  ·rw [unes_mem S.length S (Nat.le_refl _) h60] at h; cases h
  ·cases hc : cutL 38 S with
   | none =>
    rw [unes_last h60 hc] at h
    cases h
    exact Nat.le_refl _
   | some mr =>
    obtain ⟨m, r'⟩ := mr
    cases hd : cutL 59 r' with
    | none => rw [unes_bad1 h60 hc hd] at h; cases h
    | some xt =>
     obtain ⟨x, t⟩ := xt
     cases hv : meanL x with
     | none => rw [unes_bad2 h60 hc hd hv] at h; cases h
     | some v =>
      obtain ⟨h1, -, h3, h4⟩ := unes_more h60 hc hd hv
      rw [h1] at h
      cases hu : unes t with
      | none => rw [hu] at h; cases h
      | some w =>
       rw [hu] at h
       simp only [Option.map_some, Option.some.injEq] at h
       have := unes_len n t w (by omega) hu
       rw [← h]
       simp only [List.length_append]
       omega
theorem unescO_len {a : Bool} {s v : ByteArray} (h : unescO a s = some v) : v.size ≤ s.size := by
 unfold unescO at h
 split at h
 ·cases h
 ·cases hu : unes (plainL a s.data.toList) with
  | none => rw [hu] at h; cases h
  | some r =>
   rw [hu] at h
   simp only [Option.map_some, Option.some.injEq] at h
   have h1 := unes_len _ _ _ (Nat.le_refl _) hu
   have h2 := plainL_len a s.data.toList
   rw [← h]
   show r.toArray.size ≤ _
   rw [List.size_toArray]
   rw [size_list] at h2
   omega
theorem ext_le {S : ByteArray} {i k : Nat} : (S.extract i k).size ≤ S.size := by rw [ByteArray.size_extract]; omega
/-- The strings of a piece are bounded. -/
def okE (B : Nat) (e : EvD) : Prop := e.n.size ≤ B ∧ e.t.size ≤ B ∧ ∀ a ∈ e.l, a.1.size ≤ B ∧ a.2.size ≤ B
theorem attrF_ok {S : ByteArray} {i j : Nat} {x : AtD} (h : attrF S i = some (x, j)) : x.1.size ≤ S.size ∧ x.2.size ≤ S.size := by
 unfold attrF at h
 split at h
 ·cases h
 split at h
 ·cases h
 split at h
 ·cases h
 split at h
 ·cases h
 split at h
 ·cases h
 rename_i v hv
 simp only [Option.some.injEq, Prod.mk.injEq] at h
 obtain ⟨rfl, -⟩ := h
 exact ⟨ext_le, Nat.le_trans (unescO_len hv) ext_le⟩
theorem attrsF_ok {S : ByteArray} : ∀ {f k j : Nat} {acc l : List AtD} {c : Bool}, (∀ a ∈ acc, a.1.size ≤ S.size ∧ a.2.size ≤ S.size) → attrsF S f k acc = some (l, c, j) → ∀ a ∈ l, a.1.size ≤ S.size ∧ a.2.size ≤ S.size
 | 0, k, j, acc, l, c, _, h => by cases h
 | f + 1, k, j, acc, l, c, ha, h => by
  unfold attrsF at h
  split at h
  ·simp only [Option.some.injEq, Prod.mk.injEq] at h; rw [← h.1]; exact ha
  split at h
  ·simp only [Option.some.injEq, Prod.mk.injEq] at h; rw [← h.1]; exact ha
  split at h
  ·cases h
  split at h
  ·cases h
  rename_i x j2 hx
  refine attrsF_ok (fun a hm => ?_) h
  rcases List.mem_append.1 hm with hm | hm
  ·exact ha a hm
  ·simp at hm; rw [hm]; exact attrF_ok hx
theorem pieceF_ok {S : ByteArray} {i j : Nat} {l : List EvD} (h : pieceF S i = some (l, j)) : ∀ e ∈ l, okE S.size e := by
 have h0 : (⟨#[]⟩ : ByteArray).size ≤ S.size := Nat.zero_le _
 unfold pieceF at h
 split at h
 ·cases hn : noteF S (i + 4) with
  | none => rw [hn] at h; cases h
  | some k => rw [hn] at h; simp only [Option.map_some, Option.some.injEq, Prod.mk.injEq] at h; rw [← h.1]; simp
 split at h
 ·cases hn : endF S (i + 2) with
  | none => rw [hn] at h; cases h
  | some x =>
   rw [hn] at h
   simp only [Option.map_some, Option.some.injEq, Prod.mk.injEq] at h
   rw [← h.1]
   unfold endF at hn
   split at hn
   ·cases hn
   split at hn
   ·simp only [Option.some.injEq] at hn
    intro e he
    simp at he
    rw [he, ← hn]
    exact ⟨ext_le, h0, by intro a ha; simp [evClose] at ha⟩
   ·cases hn
 split at h
 ·unfold openF at h
  split at h
  ·cases h
  split at h
  ·cases h
  rename_i l2 c k2 hx
  simp only [Option.some.injEq, Prod.mk.injEq] at h
  have hl := attrsF_ok (by simp) hx
  rw [← h.1]
  intro e he
  unfold openL at he
  rcases List.mem_cons.1 he with rfl | he
  ·exact ⟨ext_le, h0, hl⟩
  ·split at he
   ·simp at he; rw [he]; exact ⟨ext_le, h0, by intro a ha; simp [evClose] at ha⟩
   ·simp at he
 ·cases hn : dataF S i with
  | none => rw [hn] at h; cases h
  | some x =>
   rw [hn] at h
   simp only [Option.map_some, Option.some.injEq, Prod.mk.injEq] at h
   rw [← h.1]
   unfold dataF at hn
   split at hn
   ·cases hn
   rename_i v hv
   simp only [Option.some.injEq] at hn
   intro e he
   simp at he
   rw [he, ← hn]
   exact ⟨h0, Nat.le_trans (unescO_len hv) ext_le, by intro a ha; simp [evData] at ha⟩
theorem docG_ok {S : ByteArray} : ∀ {f i : Nat} {out l : List EvD}, (∀ e ∈ out, okE S.size e) → docG S f i out = some l → ∀ e ∈ l, okE S.size e
 | 0, i, out, l, _, h => by cases h
 | f + 1, i, out, l, ho, h => by
  unfold docG at h
  split at h
  ·cases h; exact ho
  split at h
  ·cases h
  rename_i l2 j hp
  refine docG_ok (fun e he => ?_) h
  rcases List.mem_append.1 he with he | he
  ·exact ho e he
  ·exact pieceF_ok hp e he
theorem markF_ok {S : ByteArray} {l : List EvD} {c : Int} (h : markF S = (some l, c)) : c = 0 ∧ S.size ≤ 300000 ∧ ∀ e ∈ l, okE 300000 e := by
 unfold markF at h
 split at h
 ·cases h
 rename_i hs
 split at h
 ·cases h
 split at h
 ·cases h
 rename_i l2 hb
 split at h
 ·cases h
 split at h
 ·cases h
 simp only [Prod.mk.injEq, Option.some.injEq] at h
 obtain ⟨rfl, rfl⟩ := h
 refine ⟨rfl, by omega, fun e he => ?_⟩
 have h1 : okE S.size e := by
  unfold bodyF at hb
  split at hb
  ·cases hb
  ·exact docG_ok (by simp) hb e he
 obtain ⟨a, b, c⟩ := h1
 exact ⟨by omega, by omega, fun x hx => by have := c x hx; omega⟩

/-- take, on any piece. -/
theorem take_any (w0 W : World) (G : Nat) (T : List Res) (els : List ElM) (has : List Bool) (st : List Nat) (pt ph : Option Addr) (ct ch : Nat) (m : EvM) (B : Nat)
  (hl : els.length ≤ 1048576) (hh : has.length = els.length) (hup : upP (elD els) st) (hB : B ≤ 1099511627776) (hm : okE 300000 m.d) (hsz : ∀ x ∈ els, x.d.t.size ≤ B)
  (h : Mem w0 W (.box G 55 [.slice pt els.length ct, .slice ph has.length ch, .int .i64 (topI st)] :: .row pt ct 42 4 els.length (elC els) :: .row ph ch 4 1 has.length (boC has) :: T)) :
  Calls Tryz.prog 23 #[.pointer (some ⟨G, 0, none⟩), .agg #[.int .i64 m.d.k, .string m.d.n, .slice m.p m.d.l.length m.c, .string m.d.t]] W (TKPost (grow1 ⟨elD els, has, st⟩ m.d) w0 G T els m) := by
 have hed : (elD els).length = els.length := List.length_map ..
 obtain ⟨hmn, hmt, -⟩ := hm
 unfold grow1
 by_cases k1 : m.d.k = 1
 ·rw [if_pos k1]
  cases st with
  | nil =>
   dsimp only
   by_cases h0 : els.length = 0
   ·rw [if_pos (by rw [hed]; exact h0), hed]
    exact take_root w0 W G T els has [] pt ph ct ch m hl hh h k1 rfl h0
   ·rw [if_neg (by rw [hed]; exact h0)]
    exact take_root_no w0 W G T els has [] pt ph ct ch m hl hh h k1 rfl h0
  | cons k q =>
   dsimp only
   rw [hed]
   have hup2 := hup
   obtain ⟨⟨e, he, -⟩, -⟩ := hup
   have hk : k < els.length := by rw [← hed]; exact (List.getElem?_eq_some_iff.1 he).1
   exact take_open w0 W G T els has (k :: q) pt ph ct ch m hl hh h k q k1 rfl hk hup2
 rw [if_neg k1]
 by_cases k2 : m.d.k = 2
 ·rw [if_pos k2]
  cases st with
  | nil => exact take_close_no w0 W G T els has [] pt ph ct ch m hl hh h k2 rfl
  | cons k q =>
   dsimp only
   obtain ⟨⟨e, he, hu⟩, hq⟩ := hup
   have hk : k < els.length := by rw [← hed]; exact (List.getElem?_eq_some_iff.1 he).1
   obtain ⟨x, hx⟩ : ∃ x, els[k]? = some x := ⟨_, List.getElem?_eq_getElem hk⟩
   have hxe := elD_at hx
   rw [he] at hxe
   obtain rfl := Option.some.inj hxe
   have hn : nameAt (elD els) k m.d.n = (x.d.n.toList == m.d.n.toList) := by unfold nameAt; rw [he]
   rw [hn]
   exact take_close w0 W G T els has (k :: q) pt ph ct ch m hl hh h k q x _ k2 rfl hx hu rfl hq
 rw [if_neg k2]
 cases st with
 | nil => exact take_blank w0 W G T els has [] pt ph ct ch m hl hh h _ k1 k2 rfl rfl (by omega)
 | cons k q =>
  dsimp only
  have hup2 := hup
  obtain ⟨⟨e, he, -⟩, -⟩ := hup
  have hk : k < els.length := by rw [← hed]; exact (List.getElem?_eq_some_iff.1 he).1
  obtain ⟨x, hx⟩ : ∃ x, els[k]? = some x := ⟨_, List.getElem?_eq_getElem hk⟩
  have := hsz x (List.mem_of_getElem? hx)
  exact take_text w0 W G T els has (k :: q) pt ph ct ch m hl hh h k q x k1 k2 rfl hx hup2 (by omega)
/-- How the texts grow. -/
theorem grow_sz {B : Nat} {g g2 : GrD} {e : EvD} (h : grow1 g e = some g2) (he : okE 300000 e) (hg : ∀ x ∈ g.ts, x.n.size ≤ 300000 ∧ x.t.size ≤ B ∧ ∀ a ∈ x.l, a.1.size ≤ 300000 ∧ a.2.size ≤ 300000) :
  ∀ x ∈ g2.ts, x.n.size ≤ 300000 ∧ x.t.size ≤ B + 300000 ∧ ∀ a ∈ x.l, a.1.size ≤ 300000 ∧ a.2.size ≤ 300000 := by
 have hold : ∀ x ∈ g.ts, x.n.size ≤ 300000 ∧ x.t.size ≤ B + 300000 ∧ ∀ a ∈ x.l, a.1.size ≤ 300000 ∧ a.2.size ≤ 300000 := fun x hx => ⟨(hg x hx).1, Nat.le_trans (hg x hx).2.1 (by omega), (hg x hx).2.2⟩
 have hnew : ∀ u : Int, (⟨e.n, u, e.l, ⟨#[]⟩⟩ : ElD).n.size ≤ 300000 ∧ (⟨e.n, u, e.l, ⟨#[]⟩⟩ : ElD).t.size ≤ B + 300000 ∧ ∀ a ∈ (⟨e.n, u, e.l, ⟨#[]⟩⟩ : ElD).l, a.1.size ≤ 300000 ∧ a.2.size ≤ 300000 := fun u => ⟨he.1, Nat.zero_le _, he.2.2⟩
 unfold grow1 at h
 split at h
 ·split at h
  ·split at h
   ·cases h
    intro x hx
    rcases List.mem_append.1 hx with hx | hx
    ·exact hold x hx
    ·simp at hx; rw [hx]; exact hnew _
   ·cases h
  ·cases h
   intro x hx
   rcases List.mem_append.1 hx with hx | hx
   ·exact hold x hx
   ·simp at hx; rw [hx]; exact hnew _
 split at h
 ·split at h
  ·cases h
  ·split at h
   ·cases h; exact hold
   ·cases h
 ·split at h
  ·split at h
   ·cases h; exact hold
   ·cases h
  ·cases h
   intro x hx
   unfold addText at hx
   split at hx
   ·rename_i y hy
    rcases List.mem_or_eq_of_mem_set hx with hx | rfl
    ·exact hold x hx
    ·have := hg y (List.mem_of_getElem? hy)
     refine ⟨this.1, ?_, this.2.2⟩
     show (y.t ++ e.t).size ≤ _
     rw [ByteArray.size_append]
     have := he.2.1
     omega
   ·exact hold x hx
end Go.Proofs.YtanncakdlflopaaGreatDoor
