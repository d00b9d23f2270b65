/- The law's spelled: a piece as the grammar has it, and its events. (short) -/
import Derived.Test.YtfnodoepeiknhaaGreatDoorMarkU
namespace Go.Proofs.YtfnodoepeiknhaaGreatDoor
open Go.RowKit
set_option linter.unusedVariables false
set_option linter.unusedSimpArgs false
set_option maxRecDepth 100000

theorem sz1 (b : UInt8) : (⟨#[b]⟩ : ByteArray).size = 1 := rfl
theorem sz2 (b c : UInt8) : (⟨#[b, c]⟩ : ByteArray).size = 2 := rfl
theorem sz7 (b c d e f g h : UInt8) : (⟨#[b, c, d, e, f, g, h]⟩ : ByteArray).size = 7 := rfl
theorem szs {P : Prop} (h : P := by first | decide | omega) : P := h
theorem rmname_q (s : ByteArray) (w : World) (hs : s.size ≤ 1099511627776) : Calls Tryz.prog 14 #[.string s] w fun e w' => e = .returned (.bool (nameM s)) ∧ w = w' := (rmname_any s w hs).mono (fun e w' ⟨h1, h2⟩ => ⟨h1, h2.symm⟩)
theorem Mem.boxrow {w0 W : World} {L : List Res} (h : Mem w0 W L) {k : Nat} {g j n : Nat} {e : TypeId} {cs : List Value} (hk : L[k]? = some (.box g e cs)) (hl : cs.length = n * j) (hn : n ≤ maxLen) : Mem w0 W (L.set k (.row (some ⟨g, 0, none⟩) n e j n cs)) := h.turn0 hk (box_row (h.get hk) hl hn) (fun g e => e)
def PartD.cs (p : PartD) : List Value := [.int .i64 p.k, .string p.n, .string p.v, .string p.t]
theorem PartD.cs_len (p : PartD) : p.cs.length = 4 := rfl
theorem name_64 {n : ByteArray} (h : nameM n = true) : n.size ≤ 64 := by
  unfold nameM at h
  simp only [Bool.and_eq_true, decide_eq_true_eq] at h
  exact h.1.1.2
theorem esc_shape (at_ : Bool) (s : ByteArray) : ∃ (x : ByteArray) (c : Int), escV at_ s = .tuple #[.string x, .int .i64 c] ∧ (c = 0 ∧ (chars s.data.toList).isSome = true ∧ x.data.toList = escT at_ s.data.toList ∧ x.size ≤ 36 * s.size ∨ c = 2 ∧ (chars s.data.toList).isSome = false) := by
  unfold escV
  cases h : chars s.data.toList with
  | none => exact ⟨_, _, rfl, .inr ⟨rfl, rfl⟩⟩
  | some cs =>
    have e : (⟨(escT at_ s.data.toList).toArray⟩ : ByteArray).data.toList = escT at_ s.data.toList := List.toList_toArray
    refine ⟨_, _, rfl, .inl ⟨rfl, rfl, e, ?_⟩⟩
    rw [← size_list, e, ← size_list]
    exact escT_len at_ _
/-- What spelled answers. -/
def SpPost (p : PartD) (B : List UInt8) (q : UInt8) (w0 : World) (e : Ending) (w' : World) : Prop :=
  match spOk p with
  | false => e = .returned (.tuple #[.string ⟨#[]⟩, .slice none 0 0, .bool false]) ∧ Below w0.heap.size w0 w'
  | true => ∃ (s : ByteArray) (ms : List EvM) (r : Option Addr) (c : Nat), s.data.toList = spT B q p ∧ s.size ≤ 80000 ∧ ms.length ≤ 1 ∧ outD ms = spV p ∧ e = .returned (.tuple #[.string s, .slice r ms.length c, .bool true]) ∧ Mem w0 w' (.row r c 36 4 ms.length (outC ms) :: outR ms)
theorem sp_no {p : PartD} {B : List UInt8} {q : UInt8} {w0 w' : World} (h : spOk p = false) (hb : Below w0.heap.size w0 w') : SpPost p B q w0 (.returned (.tuple #[.string ⟨#[]⟩, .slice none 0 0, .bool false])) w' := by
  unfold SpPost; rw [h]; exact ⟨rfl, hb⟩
theorem sp_yes {p : PartD} {B : List UInt8} {q : UInt8} {w0 w' : World} (h : spOk p = true) {s : ByteArray} (hs : s.data.toList = spT B q p) (hz : s.size ≤ 80000) (ms : List EvM) {r : Option Addr} {c : Nat} (hl : ms.length ≤ 1) (hd : outD ms = spV p)
    (hM : Mem w0 w' (.row r c 36 4 ms.length (outC ms) :: outR ms)) : SpPost p B q w0 (.returned (.tuple #[.string s, .slice r ms.length c, .bool true])) w' := by
  unfold SpPost; rw [h]; exact ⟨s, ms, r, c, hs, hz, hl, hd, rfl, hM⟩
/-- An event with one attribute; an event without. -/
theorem ev_row1 {w0 W : World} {g g1 : Nat} {L : List Res} {k : Nat} {n t : ByteArray} {a b : ByteArray} (h : Mem w0 W (.box g 36 [.int .i64 k, .string n, .slice (some ⟨g1, 0, none⟩) 1 1, .string t] :: .box g1 38 [.string a, .string b] :: L)) :
    Mem w0 W (.row (some ⟨g, 0, none⟩) 1 36 4 [(⟨⟨k, n, [(a, b)], t⟩, some ⟨g1, 0, none⟩, 1⟩ : EvM)].length (outC [⟨⟨k, n, [(a, b)], t⟩, some ⟨g1, 0, none⟩, 1⟩]) :: outR [⟨⟨k, n, [(a, b)], t⟩, some ⟨g1, 0, none⟩, 1⟩]) :=
  ((h.boxrow (k := 0) (j := 4) (n := 1) rfl rfl (by decide)).boxrow (k := 1) (j := 2) (n := 1) rfl rfl (by decide)).sub (.cons_cons _ (.cons_cons _ (List.nil_sublist _)))
theorem ev_row0 {w0 W : World} {g : Nat} {L : List Res} {k : Nat} {n t : ByteArray} (h : Mem w0 W (.box g 36 [.int .i64 k, .string n, .slice none 0 0, .string t] :: L)) :
    Mem w0 W (.row (some ⟨g, 0, none⟩) 1 36 4 [evM ⟨k, n, [], t⟩].length (outC [evM ⟨k, n, [], t⟩]) :: outR [evM ⟨k, n, [], t⟩]) := by
  have h1 := ((h.boxrow (k := 0) (j := 4) (n := 1) rfl rfl (by decide)).sub (L' := [.row (some ⟨g, 0, none⟩) 1 36 4 1 [.int .i64 k, .string n, .slice none 0 0, .string t]]) (.cons_cons _ (List.nil_sublist _))).row0 38 2
  exact h1.perm (List.Perm.swap _ _ _)
theorem nil_rows {w0 W : World} {L : List Res} (h : Mem w0 W L) : Mem w0 W (.row none 0 36 4 ([] : List EvM).length (outC []) :: outR []) := (h.sub (List.nil_sublist _)).row0 _ _

section
variable (n v t bs qs : ByteArray) (q : UInt8) (W : World)
theorem spelled_bad (k : Int) (hT : U8 W) (hv : v.size ≤ 1000) (ht : t.size ≤ 1000) (h : ((chars v.data.toList).isSome && (chars t.data.toList).isSome) = false) :
    Calls Tryz.prog 21 #[.agg #[.int .i64 k, .string n, .string v, .string t], .string bs, .string qs] W (SpPost ⟨k, n, v, t⟩ bs.data.toList q W) := by
  have HN := Lib.hid (show spOk ⟨k, n, v, t⟩ = false by unfold spOk; dsimp only; rw [h]; rfl)
  obtain ⟨x1, c1, e1, h1⟩ := esc_shape true v
  obtain ⟨x2, c2, e2, h2⟩ := esc_shape false t
  have HM := Lib.hid (Mem.start W)
  have HT := Lib.hid hT
  have HE1 := Lib.hid (fun W h => escape_any v true W h (by omega))
  rw [e1] at HE1
  have HE2 := Lib.hid (fun W h => escape_any t false W h (by omega))
  rw [e2] at HE2
  have hc : (c1 = 0 ∧ c2 = 2) ∨ c1 = 2 := by
    rcases h1 with ⟨g1, s1, -, -⟩ | ⟨g1, s1⟩
    · rcases h2 with ⟨g2, s2, -, -⟩ | ⟨g2, s2⟩
      · rw [s1, s2] at h; cases h
      · exact .inl ⟨g1, g2⟩
    · exact .inr g1
  clear hT h1 h2 e1 e2 h
  rcases hc with ⟨rfl, rfl⟩ | rfl
  · as_aux_lemma =>
    go_enter Tryz.func21, Tryz.ntmps21
    go_wp2_with (first | (go_at_call 9; first | ((with_reducible refine cB HM (HE1.out _ (HT.out.below HM.out.below)) ?_); clear HM; intro W1 HM) | ((with_reducible refine cB HM (HE2.out _ (HT.out.below HM.out.below)) ?_); clear HM; intro W1 HM)) | ((with_reducible refine skip_op ?_ ?_); exact rfl) | refine mP ?_ | (refine mL ?_; clear HM; intro g1 W1 HM) | ((with_reducible refine iat 3 ?_); refine mB ?_; clear HM; intro g3 W1 HM))
    go_ret3
    exact sp_no HN.out HM.out.below
  · rcases h2' : c2 == 0 with _ | _
    all_goals
      as_aux_lemma =>
      go_enter Tryz.func21, Tryz.ntmps21
      go_wp2_with (first | (go_at_call 9; first | ((with_reducible refine cB HM (HE1.out _ (HT.out.below HM.out.below)) ?_); clear HM; intro W1 HM) | ((with_reducible refine cB HM (HE2.out _ (HT.out.below HM.out.below)) ?_); clear HM; intro W1 HM)) | ((with_reducible refine skip_op ?_ ?_); exact rfl) | refine mP ?_ | (refine mL ?_; clear HM; intro g1 W1 HM) | ((with_reducible refine iat 3 ?_); refine mB ?_; clear HM; intro g3 W1 HM))
      go_ret3
      exact sp_no HN.out HM.out.below

theorem spelled_other (hT : U8 W) (hv : v.size ≤ 1000) (ht : t.size ≤ 1000) (hb : bs.size ≤ 100) (hq : qs.data.toList = [q]) (h1 : (chars v.data.toList).isSome = true) (h2 : (chars t.data.toList).isSome = true) (k : Int) (k1 : k ≠ 1) (k2 : k ≠ 2) (k3 : k ≠ 3) :
    Calls Tryz.prog 21 #[.agg #[.int .i64 k, .string n, .string v, .string t], .string bs, .string qs] W (SpPost ⟨k, n, v, t⟩ bs.data.toList q W) := by
  obtain ⟨x1, c1, e1, g1⟩ := esc_shape true v
  obtain ⟨x2, c2, e2, g2⟩ := esc_shape false t
  rw [h1] at g1
  rw [h2] at g2
  obtain ⟨rfl, -, gx1, gz1⟩ : c1 = 0 ∧ true = true ∧ x1.data.toList = escT true v.data.toList ∧ x1.size ≤ 36 * v.size := by simpa using g1
  obtain ⟨rfl, -, gx2, gz2⟩ : c2 = 0 ∧ true = true ∧ x2.data.toList = escT false t.data.toList ∧ x2.size ≤ 36 * t.size := by simpa using g2
  have HM := Lib.hid (Mem.start W)
  have HT := Lib.hid hT
  have HE1 := Lib.hid (fun W h => escape_any v true W h (by omega))
  rw [e1] at HE1
  have HE2 := Lib.hid (fun W h => escape_any t false W h (by omega))
  rw [e2] at HE2
  have HX1 := Lib.hid gx1
  have HX2 := Lib.hid gx2
  clear hT g1 g2 gx1 gx2 e1 e2
  have HY := Lib.hid (show spOk ⟨k, n, v, t⟩ = true by unfold spOk; dsimp only; rw [h1, h2, decide_eq_false k1, decide_eq_false k2]; rfl)
  have HS := Lib.hid (show spT bs.data.toList q ⟨k, n, v, t⟩ = 60 :: 33 :: 45 :: 45 :: (bs.data.toList ++ [45, 45, 62]) by unfold spT; dsimp only; rw [if_neg k1, if_neg k2, if_neg k3])
  have HV := Lib.hid (show spV ⟨k, n, v, t⟩ = [] by unfold spV; dsimp only; rw [if_neg k1, if_neg k2, if_neg k3])
  have b1 : ((k : Int) == 1) = false := by simpa using k1
  have b2 : ((k : Int) == 2) = false := by simpa using k2
  have b3 : ((k : Int) == 3) = false := by simpa using k3
  clear k1 k2 k3 h1 h2 hq
  go_enter Tryz.func21, Tryz.ntmps21
  go_wp2_with (first | (go_at_call 9; first | ((with_reducible refine cB HM (HE1.out _ (HT.out.below HM.out.below)) ?_); clear HM; intro W1 HM) | ((with_reducible refine cB HM (HE2.out _ (HT.out.below HM.out.below)) ?_); clear HM; intro W1 HM)) | ((with_reducible refine skip_op ?_ ?_); exact rfl) | refine mP ?_ | (refine mL ?_; clear HM; intro g1 W1 HM) | ((with_reducible refine iat 3 ?_); refine mB ?_; clear HM; intro g3 W1 HM))
  go_ret3
  exact sp_yes HY.out (by rw [HS.out, ByteArray.data_append, ByteArray.data_append, Array.toList_append, Array.toList_append]; simp) (by rw [ByteArray.size_append, ByteArray.size_append, show (⟨#[60, 33, 45, 45]⟩ : ByteArray).size = 4 from rfl, show (⟨#[45, 45, 62]⟩ : ByteArray).size = 3 from rfl]; omega) [] (by simp) HV.out.symm (nil_rows HM.out)
theorem spelled_text0 (hT : U8 W) (hv : v.size ≤ 1000) (ht : t.size ≤ 1000) (hb : bs.size ≤ 100) (hq : qs.data.toList = [q]) (h1 : (chars v.data.toList).isSome = true) (h2 : (chars t.data.toList).isSome = true) (e : t.data.toList = []) :
    Calls Tryz.prog 21 #[.agg #[.int .i64 3, .string n, .string v, .string t], .string bs, .string qs] W (SpPost ⟨3, n, v, t⟩ bs.data.toList q W) := by
  obtain ⟨x1, c1, e1, g1⟩ := esc_shape true v
  obtain ⟨x2, c2, e2, g2⟩ := esc_shape false t
  rw [h1] at g1
  rw [h2] at g2
  obtain ⟨rfl, -, gx1, gz1⟩ : c1 = 0 ∧ true = true ∧ x1.data.toList = escT true v.data.toList ∧ x1.size ≤ 36 * v.size := by simpa using g1
  obtain ⟨rfl, -, gx2, gz2⟩ : c2 = 0 ∧ true = true ∧ x2.data.toList = escT false t.data.toList ∧ x2.size ≤ 36 * t.size := by simpa using g2
  have HM := Lib.hid (Mem.start W)
  have HT := Lib.hid hT
  have HE1 := Lib.hid (fun W h => escape_any v true W h (by omega))
  rw [e1] at HE1
  have HE2 := Lib.hid (fun W h => escape_any t false W h (by omega))
  rw [e2] at HE2
  have HX1 := Lib.hid gx1
  have HX2 := Lib.hid gx2
  clear hT g1 g2 gx1 gx2 e1 e2
  have HY := Lib.hid (show spOk ⟨3, n, v, t⟩ = true by unfold spOk; dsimp only; rw [h1, h2]; rfl)
  have HS := Lib.hid (show spT bs.data.toList q ⟨3, n, v, t⟩ = [] by unfold spT; dsimp only; rw [if_neg (by decide), if_neg (by decide), if_pos rfl, if_pos e])
  have HV := Lib.hid (show spV ⟨3, n, v, t⟩ = [] by unfold spV; dsimp only; rw [if_neg (by decide), if_neg (by decide), if_pos rfl, if_pos e])
  have b1 : (t.toList == []) = true := by rw [Lib.toList_data, e]; rfl
  clear e h1 h2 hq
  go_enter Tryz.func21, Tryz.ntmps21
  go_wp2_with (first | (go_at_call 9; first | ((with_reducible refine cB HM (HE1.out _ (HT.out.below HM.out.below)) ?_); clear HM; intro W1 HM) | ((with_reducible refine cB HM (HE2.out _ (HT.out.below HM.out.below)) ?_); clear HM; intro W1 HM)) | ((with_reducible refine skip_op ?_ ?_); exact rfl) | refine mP ?_ | (refine mL ?_; clear HM; intro g1 W1 HM) | ((with_reducible refine iat 3 ?_); refine mB ?_; clear HM; intro g3 W1 HM))
  go_ret3
  exact sp_yes (s := ⟨#[]⟩) HY.out (by rw [HS.out]) (by decide) [] (by simp) HV.out.symm (nil_rows HM.out)
theorem spelled_text (hT : U8 W) (hv : v.size ≤ 1000) (ht : t.size ≤ 1000) (hb : bs.size ≤ 100) (hq : qs.data.toList = [q]) (h1 : (chars v.data.toList).isSome = true) (h2 : (chars t.data.toList).isSome = true) (e : t.data.toList ≠ []) :
    Calls Tryz.prog 21 #[.agg #[.int .i64 3, .string n, .string v, .string t], .string bs, .string qs] W (SpPost ⟨3, n, v, t⟩ bs.data.toList q W) := by
  obtain ⟨x1, c1, e1, g1⟩ := esc_shape true v
  obtain ⟨x2, c2, e2, g2⟩ := esc_shape false t
  rw [h1] at g1
  rw [h2] at g2
  obtain ⟨rfl, -, gx1, gz1⟩ : c1 = 0 ∧ true = true ∧ x1.data.toList = escT true v.data.toList ∧ x1.size ≤ 36 * v.size := by simpa using g1
  obtain ⟨rfl, -, gx2, gz2⟩ : c2 = 0 ∧ true = true ∧ x2.data.toList = escT false t.data.toList ∧ x2.size ≤ 36 * t.size := by simpa using g2
  have HM := Lib.hid (Mem.start W)
  have HT := Lib.hid hT
  have HE1 := Lib.hid (fun W h => escape_any v true W h (by omega))
  rw [e1] at HE1
  have HE2 := Lib.hid (fun W h => escape_any t false W h (by omega))
  rw [e2] at HE2
  have HX1 := Lib.hid gx1
  have HX2 := Lib.hid gx2
  clear hT g1 g2 gx1 gx2 e1 e2
  have HY := Lib.hid (show spOk ⟨3, n, v, t⟩ = true by unfold spOk; dsimp only; rw [h1, h2]; rfl)
  have HS := Lib.hid (show spT bs.data.toList q ⟨3, n, v, t⟩ = escT false t.data.toList ++ [60, 33, 45, 45, 45, 45, 62] by unfold spT; dsimp only; rw [if_neg (by decide), if_neg (by decide), if_pos rfl, if_neg e])
  have HV := Lib.hid (show spV ⟨3, n, v, t⟩ = [evData t] by unfold spV; dsimp only; rw [if_neg (by decide), if_neg (by decide), if_pos rfl, if_neg e])
  have b1 : (t.toList == []) = false := by rw [Lib.toList_data]; simpa using e
  clear e h1 h2 hq
  go_enter Tryz.func21, Tryz.ntmps21
  go_wp2_with (first | (go_at_call 9; first | ((with_reducible refine cB HM (HE1.out _ (HT.out.below HM.out.below)) ?_); clear HM; intro W1 HM) | ((with_reducible refine cB HM (HE2.out _ (HT.out.below HM.out.below)) ?_); clear HM; intro W1 HM)) | ((with_reducible refine skip_op ?_ ?_); exact rfl) | refine mP ?_ | (refine mL ?_; clear HM; intro g1 W1 HM) | ((with_reducible refine iat 3 ?_); refine mB ?_; clear HM; intro g3 W1 HM))
  refine wp_region_steps2 [(true, 0), (true, 1), (true, 2), (true, 3), (true, 4), (true, 6), (false, 5), (true, 7), (true, 8)] (by kernel_rfl) (by kernel_rfl) rfl (by kernel_rfl) (fun _ _ _ _ _ h => h) HM.out _ (.cons_cons _ .slnil) ?_
  intro hNE W1 HM1; replace HM := Lib.hid HM1; clear HM1
  have HS0 := Lib.hid (HM.out.sub (.cons_cons _ .slnil))
  simp only [wpSteps, List.getElem?_cons_succ, List.getElem?_cons_zero]
  (repeat (first | ((with_reducible refine wpQuiet_nil ?_); (try dsimp only)) | refine mQ ?_ | go_big_quiet_step (fail) | quiet_step (fail)))
  go_wp2_with (first | (refine mL ?_; clear HM; intro g1 W1 HM))
  refine ⟨⟨⟨_, HM.out.sub (by repeat (first | exact List.nil_sublist _ | with_reducible refine List.Sublist.cons_cons _ ?_ | refine List.Sublist.cons _ ?_))⟩, rfl⟩, ?_⟩
  (try dsimp only)
  (repeat (first | ((with_reducible refine wpQuiet_nil ?_); (try dsimp only)) | refine mQ ?_ | go_big_quiet_step (fail) | quiet_step (fail)))
  clear HS0 hNE
  go_wp2_with fail
  go_ret3
  exact sp_yes HY.out (by rw [HS.out]; simp only [ByteArray.data_append, Array.toList_append, HX1.out, HX2.out]) (by simp only [ByteArray.size_append, sz1, sz2, sz7]; omega) [evM (evData t)] (by simp) HV.out.symm (ev_row0 HM.out)
theorem spelled_noname (hT : U8 W) (hv : v.size ≤ 1000) (ht : t.size ≤ 1000) (hb : bs.size ≤ 100) (hq : qs.data.toList = [q]) (h1 : (chars v.data.toList).isSome = true) (h2 : (chars t.data.toList).isSome = true) (k : Int) (hk : k = 1 ∨ k = 2) (hn : nameM n = false) (hns : n.size ≤ 1099511627776) :
    Calls Tryz.prog 21 #[.agg #[.int .i64 k, .string n, .string v, .string t], .string bs, .string qs] W (SpPost ⟨k, n, v, t⟩ bs.data.toList q W) := by
  obtain ⟨x1, c1, e1, g1⟩ := esc_shape true v
  obtain ⟨x2, c2, e2, g2⟩ := esc_shape false t
  rw [h1] at g1
  rw [h2] at g2
  obtain ⟨rfl, -, gx1, gz1⟩ : c1 = 0 ∧ true = true ∧ x1.data.toList = escT true v.data.toList ∧ x1.size ≤ 36 * v.size := by simpa using g1
  obtain ⟨rfl, -, gx2, gz2⟩ : c2 = 0 ∧ true = true ∧ x2.data.toList = escT false t.data.toList ∧ x2.size ≤ 36 * t.size := by simpa using g2
  have HM := Lib.hid (Mem.start W)
  have HT := Lib.hid hT
  have HE1 := Lib.hid (fun W h => escape_any v true W h (by omega))
  rw [e1] at HE1
  have HE2 := Lib.hid (fun W h => escape_any t false W h (by omega))
  rw [e2] at HE2
  have HX1 := Lib.hid gx1
  have HX2 := Lib.hid gx2
  clear hT g1 g2 gx1 gx2 e1 e2
  have HNm := Lib.hid (fun W => rmname_q n W hns)
  rw [hn] at HNm
  rcases hk with rfl | rfl
  · have HN := Lib.hid (show spOk ⟨1, n, v, t⟩ = false by unfold spOk; dsimp only; rw [h1, h2, hn]; rfl)
    clear hn h1 h2 hq
    as_aux_lemma =>
    go_enter Tryz.func21, Tryz.ntmps21
    go_wp2_with (first | (go_at_call 9; first | ((with_reducible refine cB HM (HE1.out _ (HT.out.below HM.out.below)) ?_); clear HM; intro W1 HM) | ((with_reducible refine cB HM (HE2.out _ (HT.out.below HM.out.below)) ?_); clear HM; intro W1 HM)) | (go_at_call 14; with_reducible refine cQ (HNm.out _) ?_) | ((with_reducible refine skip_op ?_ ?_); exact rfl) | refine mP ?_ | (refine mL ?_; clear HM; intro g1 W1 HM) | ((with_reducible refine iat 3 ?_); refine mB ?_; clear HM; intro g3 W1 HM))
    go_ret3
    exact sp_no HN.out HM.out.below
  · have HN := Lib.hid (show spOk ⟨2, n, v, t⟩ = false by unfold spOk; dsimp only; rw [h1, h2, hn]; rfl)
    clear hn h1 h2 hq
    as_aux_lemma =>
    go_enter Tryz.func21, Tryz.ntmps21
    go_wp2_with (first | (go_at_call 9; first | ((with_reducible refine cB HM (HE1.out _ (HT.out.below HM.out.below)) ?_); clear HM; intro W1 HM) | ((with_reducible refine cB HM (HE2.out _ (HT.out.below HM.out.below)) ?_); clear HM; intro W1 HM)) | (go_at_call 14; with_reducible refine cQ (HNm.out _) ?_) | ((with_reducible refine skip_op ?_ ?_); exact rfl) | refine mP ?_ | (refine mL ?_; clear HM; intro g1 W1 HM) | ((with_reducible refine iat 3 ?_); refine mB ?_; clear HM; intro g3 W1 HM))
    go_ret3
    exact sp_no HN.out HM.out.below
theorem spelled_end (hT : U8 W) (hv : v.size ≤ 1000) (ht : t.size ≤ 1000) (hb : bs.size ≤ 100) (hq : qs.data.toList = [q]) (h1 : (chars v.data.toList).isSome = true) (h2 : (chars t.data.toList).isSome = true) (hn : nameM n = true) :
    Calls Tryz.prog 21 #[.agg #[.int .i64 2, .string n, .string v, .string t], .string bs, .string qs] W (SpPost ⟨2, n, v, t⟩ bs.data.toList q W) := by
  have hn64 := name_64 hn
  obtain ⟨x1, c1, e1, g1⟩ := esc_shape true v
  obtain ⟨x2, c2, e2, g2⟩ := esc_shape false t
  rw [h1] at g1
  rw [h2] at g2
  obtain ⟨rfl, -, gx1, gz1⟩ : c1 = 0 ∧ true = true ∧ x1.data.toList = escT true v.data.toList ∧ x1.size ≤ 36 * v.size := by simpa using g1
  obtain ⟨rfl, -, gx2, gz2⟩ : c2 = 0 ∧ true = true ∧ x2.data.toList = escT false t.data.toList ∧ x2.size ≤ 36 * t.size := by simpa using g2
  have HM := Lib.hid (Mem.start W)
  have HT := Lib.hid hT
  have HE1 := Lib.hid (fun W h => escape_any v true W h (by omega))
  rw [e1] at HE1
  have HE2 := Lib.hid (fun W h => escape_any t false W h (by omega))
  rw [e2] at HE2
  have HX1 := Lib.hid gx1
  have HX2 := Lib.hid gx2
  clear hT g1 g2 gx1 gx2 e1 e2
  have HNm := Lib.hid (fun W => rmname_q n W (by omega))
  rw [hn] at HNm
  have HY := Lib.hid (show spOk ⟨2, n, v, t⟩ = true by unfold spOk; dsimp only; rw [h1, h2, hn]; rfl)
  have HS := Lib.hid (show spT bs.data.toList q ⟨2, n, v, t⟩ = 60 :: 47 :: (n.data.toList ++ (bs.data.toList ++ [62])) by unfold spT; dsimp only; rw [if_neg (by decide), if_pos rfl])
  have HV := Lib.hid (show spV ⟨2, n, v, t⟩ = [evClose n] by unfold spV; dsimp only; rw [if_neg (by decide), if_pos rfl])
  clear hn h1 h2 hq
  go_enter Tryz.func21, Tryz.ntmps21
  go_wp2_with (first | (go_at_call 9; first | ((with_reducible refine cB HM (HE1.out _ (HT.out.below HM.out.below)) ?_); clear HM; intro W1 HM) | ((with_reducible refine cB HM (HE2.out _ (HT.out.below HM.out.below)) ?_); clear HM; intro W1 HM)) | (go_at_call 14; with_reducible refine cQ (HNm.out _) ?_) | ((with_reducible refine skip_op ?_ ?_); exact rfl) | refine mP ?_ | (refine mL ?_; clear HM; intro g1 W1 HM) | ((with_reducible refine iat 3 ?_); refine mB ?_; clear HM; intro g3 W1 HM))
  refine wp_region_steps2 [(true, 0), (true, 1), (true, 2), (true, 3), (true, 4), (true, 5), (true, 6), (true, 7), (true, 8), (true, 10), (false, 9), (true, 11), (true, 12)] (by kernel_rfl) (by kernel_rfl) rfl (by kernel_rfl) (fun _ _ _ _ _ h => h) HM.out _ (.cons_cons _ .slnil) ?_
  intro hNE W1 HM1; replace HM := Lib.hid HM1; clear HM1
  have HS0 := Lib.hid (HM.out.sub (.cons_cons _ .slnil))
  simp only [wpSteps, List.getElem?_cons_succ, List.getElem?_cons_zero]
  (repeat (first | ((with_reducible refine wpQuiet_nil ?_); (try dsimp only)) | refine mQ ?_ | go_big_quiet_step (fail) | quiet_step (fail)))
  go_wp2_with (first | (refine mL ?_; clear HM; intro g1 W1 HM))
  refine ⟨⟨⟨_, HM.out.sub (by repeat (first | exact List.nil_sublist _ | with_reducible refine List.Sublist.cons_cons _ ?_ | refine List.Sublist.cons _ ?_))⟩, rfl⟩, ?_⟩
  (try dsimp only)
  (repeat (first | ((with_reducible refine wpQuiet_nil ?_); (try dsimp only)) | refine mQ ?_ | go_big_quiet_step (fail) | quiet_step (fail)))
  clear HS0 hNE
  go_wp2_with fail
  go_ret3
  exact sp_yes HY.out (by rw [HS.out]; simp only [ByteArray.data_append, Array.toList_append, HX1.out, HX2.out]; simp) (by simp only [ByteArray.size_append, sz1, sz2, sz7]; omega) [evM (evClose n)] (by simp) HV.out.symm (ev_row0 HM.out)
theorem spelled_open (hT : U8 W) (hv : v.size ≤ 1000) (ht : t.size ≤ 1000) (hb : bs.size ≤ 100) (hq : qs.data.toList = [q]) (h1 : (chars v.data.toList).isSome = true) (h2 : (chars t.data.toList).isSome = true) (hn : nameM n = true) :
    Calls Tryz.prog 21 #[.agg #[.int .i64 1, .string n, .string v, .string t], .string bs, .string qs] W (SpPost ⟨1, n, v, t⟩ bs.data.toList q W) := by
  have hn64 := name_64 hn
  obtain ⟨x1, c1, e1, g1⟩ := esc_shape true v
  obtain ⟨x2, c2, e2, g2⟩ := esc_shape false t
  rw [h1] at g1
  rw [h2] at g2
  obtain ⟨rfl, -, gx1, gz1⟩ : c1 = 0 ∧ true = true ∧ x1.data.toList = escT true v.data.toList ∧ x1.size ≤ 36 * v.size := by simpa using g1
  obtain ⟨rfl, -, gx2, gz2⟩ : c2 = 0 ∧ true = true ∧ x2.data.toList = escT false t.data.toList ∧ x2.size ≤ 36 * t.size := by simpa using g2
  have HM := Lib.hid (Mem.start W)
  have HT := Lib.hid hT
  have HE1 := Lib.hid (fun W h => escape_any v true W h (by omega))
  rw [e1] at HE1
  have HE2 := Lib.hid (fun W h => escape_any t false W h (by omega))
  rw [e2] at HE2
  have HX1 := Lib.hid gx1
  have HX2 := Lib.hid gx2
  clear hT g1 g2 gx1 gx2 e1 e2
  have hq1 : qs.size = 1 := by rw [← size_list, hq]; rfl
  have HQ := Lib.hid hq
  have HNm := Lib.hid (fun W => rmname_q n W (by omega))
  rw [hn] at HNm
  have HY := Lib.hid (show spOk ⟨1, n, v, t⟩ = true by unfold spOk; dsimp only; rw [h1, h2, hn]; rfl)
  have HS := Lib.hid (show spT bs.data.toList q ⟨1, n, v, t⟩ = 60 :: (n.data.toList ++ 32 :: (bs.data.toList ++ (n.data.toList ++ (bs.data.toList ++ 61 :: (bs.data.toList ++ q :: (escT true v.data.toList ++ q :: (bs.data.toList ++ [62]))))))) by unfold spT; dsimp only; rw [if_pos rfl])
  have HV := Lib.hid (show spV ⟨1, n, v, t⟩ = [evOpen n [(n, v)]] by unfold spV; dsimp only; rw [if_pos rfl])
  clear hn h1 h2 hq
  go_enter Tryz.func21, Tryz.ntmps21
  go_wp2_with (first | (go_at_call 9; first | ((with_reducible refine cB HM (HE1.out _ (HT.out.below HM.out.below)) ?_); clear HM; intro W1 HM) | ((with_reducible refine cB HM (HE2.out _ (HT.out.below HM.out.below)) ?_); clear HM; intro W1 HM)) | (go_at_call 14; with_reducible refine cQ (HNm.out _) ?_) | ((with_reducible refine skip_op ?_ ?_); exact rfl) | refine mP ?_ | (refine mL ?_; clear HM; intro g1 W1 HM) | ((with_reducible refine iat 3 ?_); refine mB ?_; clear HM; intro g3 W1 HM))
  refine wp_region_steps2 [(true, 0), (true, 1), (true, 2), (true, 3), (true, 4), (true, 5), (true, 6), (true, 7), (true, 8), (true, 9), (true, 10), (true, 11), (true, 12), (true, 13), (true, 14), (true, 15), (true, 16), (true, 17), (true, 18), (true, 19), (true, 20), (true, 21), (true, 22), (true, 23), (true, 24), (true, 25), (true, 26), (true, 27), (true, 28), (true, 29), (true, 33), (false, 30), (true, 31), (false, 32), (true, 34), (true, 35)] (by kernel_rfl) (by kernel_rfl) rfl (by kernel_rfl) (fun _ _ _ _ _ h => h) HM.out _ (.cons_cons _ .slnil) ?_
  intro hNE W1 HM1; replace HM := Lib.hid HM1; clear HM1
  have HS0 := Lib.hid (HM.out.sub (.cons_cons _ .slnil))
  simp only [wpSteps, List.getElem?_cons_succ, List.getElem?_cons_zero]
  (repeat (first | ((with_reducible refine wpQuiet_nil ?_); (try dsimp only)) | refine mQ ?_ | go_big_quiet_step (fail) | quiet_step (fail)))
  go_wp2_with (first | (refine mL ?_; clear HM; intro g1 W1 HM))
  refine ⟨⟨⟨_, HM.out.sub (by repeat (first | exact List.nil_sublist _ | with_reducible refine List.Sublist.cons_cons _ ?_ | refine List.Sublist.cons _ ?_))⟩, rfl⟩, ?_⟩
  (try dsimp only)
  (repeat (first | ((with_reducible refine wpQuiet_nil ?_); (try dsimp only)) | refine mQ ?_ | go_big_quiet_step (fail) | quiet_step (fail)))
  go_wp2_with (first | (refine mL ?_; clear HM; intro g1 W1 HM))
  refine ⟨⟨⟨_, HM.out.sub (by repeat (first | exact List.nil_sublist _ | with_reducible refine List.Sublist.cons_cons _ ?_ | refine List.Sublist.cons _ ?_))⟩, rfl⟩, ?_⟩
  (try dsimp only)
  (repeat (first | ((with_reducible refine wpQuiet_nil ?_); (try dsimp only)) | refine mQ ?_ | go_big_quiet_step (fail) | quiet_step (fail)))
  clear HS0 hNE
  go_wp2_with fail
  go_ret3
  exact sp_yes HY.out (by rw [HS.out]; simp only [ByteArray.data_append, Array.toList_append, HX1.out, HX2.out, HQ.out]; simp) (by simp only [ByteArray.size_append, sz1, sz2, sz7]; omega) [⟨evOpen n [(n, v)], some ⟨_, 0, none⟩, 1⟩] (by simp) HV.out.symm (ev_row1 HM.out)
end
theorem spelled_any (p : PartD) (bs qs : ByteArray) (q : UInt8) (W : World) (hT : U8 W) (hn : p.n.size ≤ 1099511627776) (hv : p.v.size ≤ 1000) (ht : p.t.size ≤ 1000) (hb : bs.size ≤ 100) (hq : qs.data.toList = [q]) :
    Calls Tryz.prog 21 #[.agg #[.int .i64 p.k, .string p.n, .string p.v, .string p.t], .string bs, .string qs] W (SpPost p bs.data.toList q W) := by
  obtain ⟨k, n, v, t⟩ := p
  dsimp only at *
  cases h1 : (chars v.data.toList).isSome with
  | false => exact spelled_bad n v t bs qs q W k hT hv ht (by rw [h1]; rfl)
  | true =>
  cases h2 : (chars t.data.toList).isSome with
  | false => exact spelled_bad n v t bs qs q W k hT hv ht (by rw [h2, Bool.and_false])
  | true =>
  by_cases k1 : k = 1
  · cases hm : nameM n with
    | false => exact spelled_noname n v t bs qs q W hT hv ht hb hq h1 h2 k (.inl k1) hm hn
    | true => subst k1; exact spelled_open n v t bs qs q W hT hv ht hb hq h1 h2 hm
  by_cases k2 : k = 2
  · cases hm : nameM n with
    | false => exact spelled_noname n v t bs qs q W hT hv ht hb hq h1 h2 k (.inr k2) hm hn
    | true => subst k2; exact spelled_end n v t bs qs q W hT hv ht hb hq h1 h2 hm
  by_cases k3 : k = 3
  · subst k3
    by_cases e : t.data.toList = []
    · exact spelled_text0 n v t bs qs q W hT hv ht hb hq h1 h2 e
    · exact spelled_text n v t bs qs q W hT hv ht hb hq h1 h2 e
  · exact spelled_other n v t bs qs q W hT hv ht hb hq h1 h2 k k1 k2 k3
end Go.Proofs.YtfnodoepeiknhaaGreatDoor
