/- The walk over tarifflaw05.MarkApart. (short) -/
import Derived.Test.YtfnodoepeiknhaaGreatDoorMarkZ
namespace Go.Proofs.YtfnodoepeiknhaaGreatDoor
open Go.RowKit
set_option linter.unusedVariables false
set_option linter.unusedSimpArgs false
set_option maxRecDepth 100000

theorem markF_zero {S : ByteArray} {l : List EvD} {c : Int} (h : markF S = (some l, c)) : c = 0 ∧ ∀ e ∈ l, e.l.length ≤ 16 := by
  unfold markF at h
  split at h
  · cases h
  split at h
  · cases h
  split at h
  · cases h
  split at h
  · cases h
  rename_i hl
  split at h
  · cases h
  · simp only [Prod.mk.injEq, Option.some.injEq] at h
    obtain ⟨rfl, rfl⟩ := h
    refine ⟨rfl, fun e he => ?_⟩
    by_cases h16 : 16 < e.l.length
    · exact absurd (show longB _ = true by unfold longB; rw [List.any_eq_true]; exact ⟨e, he, decide_eq_true h16⟩) hl
    · omega
/-- What Read answers, in one form. -/
def RowPost (l : List EvD) (w0 : World) (f : Value → Value) (e : Ending) (w' : World) : Prop :=
  ∃ (ms : List EvM) (p : Option Addr) (c : Nat), outD ms = l ∧ ms.length ≤ 4194304 ∧ e = .returned (f (.slice p ms.length c)) ∧ Mem w0 w' (.row p c 36 4 ms.length (outC ms) :: outR ms)
theorem read_one (S : ByteArray) (hs : S.size ≤ 1048576) : ∃ (l : List EvD) (ec : Int), (∀ e ∈ l, e.l.length ≤ 16) ∧
    (∀ W, U8 W → ErrsAt W → MaxAt W → Calls Tryz.prog 15 #[.string S] W fun e w' => ∃ j : Int, RowPost l W (fun v => .tuple #[v, .int .i64 j, .int .i64 ec]) e w') ∧
    (∀ W, Calls Tryz.prog 16 #[.string S] W (RowPost l W (fun v => .tuple #[v, .int .i64 ec]))) := by
  obtain ⟨⟨o, ec⟩, hr⟩ : ∃ r, markF S = r := ⟨_, rfl⟩
  cases o with
  | none =>
    refine ⟨[], ec, by simp, fun W h1 h2 h3 => ?_, fun W => ?_⟩
    · refine (mRead_any S W _ hr h1 h2 h3 hs).mono ?_
      rintro e w' ⟨j, -, -, rfl, hb⟩
      exact ⟨j, [], none, 0, rfl, by simp, rfl, ((Mem.start W).next hb).row0 _ _⟩
    · refine (rdoc_any S W _ hr hs).mono ?_
      rintro e w' ⟨-, rfl, hb⟩
      exact ⟨[], none, 0, rfl, by simp, rfl, ((Mem.start W).next hb).row0 _ _⟩
  | some l =>
    obtain ⟨rfl, hl⟩ := markF_zero hr
    refine ⟨l, 0, hl, fun W h1 h2 h3 => ?_, fun W => ?_⟩
    · refine (mRead_any S W _ hr h1 h2 h3 hs).mono ?_
      rintro e w' ⟨ms, p, c, hd, hms, rfl, hM⟩
      exact ⟨0, ms, p, c, hd, by omega, rfl, hM⟩
    · refine (rdoc_any S W _ hr hs).mono ?_
      rintro e w' ⟨ms, p, c, hd, hms, rfl, hM⟩
      exact ⟨ms, p, c, hd, hms, rfl, hM⟩

/-- An event that is written over: what its cells hold, its attributes' row. -/
structure XM where
  a : Value
  b : Value
  d : Value
  p : Option Addr
  c : Nat
  n : Nat
  cs : List Value
def XM.vs (x : XM) : List Value := [x.a, x.b, .slice x.p x.n x.c, x.d]
theorem XM.vs_len (x : XM) : x.vs.length = 4 := rfl
def XM.res (x : XM) : Res := .row x.p x.c 38 2 x.n x.cs
def XM.of (m : EvM) : XM := ⟨.int .i64 m.d.k, .string m.d.n, .string m.d.t, m.p, m.c, m.d.l.length, m.d.l.flatMap AtD.cs⟩
def outX (l : List XM) : List Value := l.flatMap XM.vs
def outXR (l : List XM) : List Res := l.map XM.res
theorem outX_of (ms : List EvM) : outX (ms.map XM.of) = outC ms := by unfold outX outC; rw [List.flatMap_map]; rfl
theorem outXR_of (ms : List EvM) : outXR (ms.map XM.of) = outR ms := by unfold outXR outR; rw [List.map_map]; rfl
theorem flat_set {α : Type} (f : α → List Value) (k : Nat) (hf : ∀ x, (f x).length = k) : ∀ {l : List α} {i j : Nat} {x y : α} {v : Value}, l[i]? = some x → f y = (f x).set j v → j < k → (l.flatMap f).set (i * k + j) v = (l.set i y).flatMap f
  | [], i, j, x, y, v, h, hy, hj => by simp at h
  | z :: l, 0, j, x, y, v, h, hy, hj => by
    simp only [List.getElem?_cons_zero, Option.some.injEq] at h
    subst h
    rw [List.flatMap_cons, List.set_append, if_pos (by rw [hf]; omega), List.set_cons_zero, List.flatMap_cons, hy, Nat.zero_mul, Nat.zero_add]
  | z :: l, i + 1, j, x, y, v, h, hy, hj => by
    rw [List.getElem?_cons_succ] at h
    rw [List.flatMap_cons, List.set_append, if_neg (by rw [hf, Nat.add_mul]; omega), List.set_cons_succ, List.flatMap_cons, hf, show (i + 1) * k + j - k = i * k + j by rw [Nat.add_mul]; omega, flat_set f k hf h hy hj]
theorem flat_getx {α : Type} (f : α → List Value) (k : Nat) (hf : ∀ x, (f x).length = k) {l : List α} {i j : Nat} {x : α} (h : l[i]? = some x) (hj : j < k) : (l.flatMap f)[i * k + j]? = (f x)[j]? := by
  rw [← flat_at f k hf h, List.getElem?_take, if_pos hj, List.getElem?_drop]
theorem map_perm {α β : Type} (g : α → β) : ∀ {l : List α} {i : Nat} {x : α}, l[i]? = some x → (l.map g).Perm (g x :: (l.eraseIdx i).map g)
  | [], i, x, h => by simp at h
  | z :: l, 0, x, h => by
    simp only [List.getElem?_cons_zero, Option.some.injEq] at h
    subst h
    exact List.Perm.refl _
  | z :: l, i + 1, x, h => by
    rw [List.getElem?_cons_succ] at h
    rw [List.eraseIdx_cons_succ, List.map_cons, List.map_cons]
    exact ((map_perm g h).cons _).trans (List.Perm.swap _ _ _)
theorem x_take {w0 W : World} {E : Res} {R : List Res} {zs : List XM} {i : Nat} {z : XM} (hz : zs[i]? = some z) (h : Mem w0 W (E :: (outXR zs ++ R))) : Mem w0 W (E :: z.res :: (outXR (zs.eraseIdx i) ++ R)) :=
  h.perm (.cons _ ((map_perm XM.res hz).append_right R))
theorem x_put {w0 W : World} {E : Res} {R : List Res} {zs : List XM} {i : Nat} {y : XM} (hi : i < zs.length) (h : Mem w0 W (E :: y.res :: (outXR (zs.eraseIdx i) ++ R))) : Mem w0 W (E :: (outXR (zs.set i y) ++ R)) := by
  have h1 : (zs.set i y)[i]? = some y := by rw [List.getElem?_set_self hi]
  have h2 := map_perm XM.res h1
  rw [List.eraseIdx_set_eq] at h2
  exact h.perm (.cons _ (h2.symm.append_right R))
theorem x_len {zs : List XM} : (outX zs).length = zs.length * 4 := flat_len XM.vs 4 XM.vs_len zs
theorem x_over {zs : List XM} {i : Nat} {z : XM} (hz : zs[i]? = some z) (u v w : Value) (cs : List Value) : (((outX zs).set (i * 4 + 1) u).set (i * 4 + 3) v).set (i * 4) w = outX (zs.set i ⟨w, u, v, z.p, z.c, z.n, cs⟩) := by
  have hi : i < zs.length := (List.getElem?_eq_some_iff.1 hz).1
  unfold outX
  rw [flat_set XM.vs 4 XM.vs_len (y := ⟨z.a, u, z.d, z.p, z.c, z.n, z.cs⟩) hz rfl (by omega),
    flat_set XM.vs 4 XM.vs_len (x := ⟨z.a, u, z.d, z.p, z.c, z.n, z.cs⟩) (y := ⟨z.a, u, v, z.p, z.c, z.n, z.cs⟩) (List.getElem?_set_self hi) rfl (by omega), List.set_set]
  have := flat_set XM.vs 4 XM.vs_len (l := zs.set i ⟨z.a, u, v, z.p, z.c, z.n, z.cs⟩) (i := i) (j := 0) (x := ⟨z.a, u, v, z.p, z.c, z.n, z.cs⟩) (y := ⟨w, u, v, z.p, z.c, z.n, cs⟩) (v := w) (List.getElem?_set_self hi) rfl (by omega)
  rw [Nat.add_zero, List.set_set] at this
  exact this
theorem x_grow {zs : List XM} {i : Nat} {z : XM} (hz : zs[i]? = some z) (p : Option Addr) (c n : Nat) (cs : List Value) : (outX zs).set (i * 4 + 2) (.slice p n c) = outX (zs.set i ⟨z.a, z.b, z.d, p, c, n, cs⟩) := by
  unfold outX
  exact flat_set XM.vs 4 XM.vs_len hz rfl (by omega)
theorem x_cell {zs : List XM} {i : Nat} {z : XM} (hz : zs[i]? = some z) : (outX zs)[i * 4 + 2]? = some (.slice z.p z.n z.c) := flat_getx XM.vs 4 XM.vs_len hz (by omega)
theorem set_all {zs : List XM} {i m m' : Nat} {y : XM} (h : ∀ z ∈ zs, z.n ≤ m) (hm : m ≤ m') (hy : y.n ≤ m') : ∀ z ∈ zs.set i y, z.n ≤ m' := by
  intro z hz
  rcases List.mem_or_eq_of_mem_set hz with h1 | rfl
  · exact Nat.le_trans (h z h1) hm
  · exact hy
theorem set_same : ∀ {zs : List XM} {i : Nat} {z : XM}, zs[i]? = some z → zs.set i z = zs
  | [], i, z, h => by simp at h
  | a :: l, 0, z, h => by simp at h; rw [h]; rfl
  | a :: l, i + 1, z, h => by rw [List.getElem?_cons_succ] at h; rw [List.set_cons_succ, set_same h]
theorem row_cell2 {B : Nat} {W : World} {b : Addr} {cap k n i : Nat} {e : TypeId} {cs : List Value} {v : Value} (h : (Res.row (some b) cap e k n cs).holds B W) (hi : cs[i * 4 + 2]? = some v) : W.cell? ((b.add (i * 4)).add 2) = some v := by
  rw [add_add']
  exact row_cell h hi
theorem row_has {B : Nat} {W : World} {p : Option Addr} {cap k n : Nat} {e : TypeId} {cs : List Value} (h : (Res.row p cap e k n cs).holds B W) (hn : 0 < n) : ∃ b, p = some b := by
  obtain ⟨g, rfl⟩ := row_some h hn
  exact ⟨_, rfl⟩

set_option maxHeartbeats 16000000 in
theorem markApart_walk (S : ByteArray) (W : World) (hT : U8 W) (hE : ErrsAt W) (hX : MaxAt W) (hs : S.size ≤ 1048576) :
    Calls Tryz.prog 5 #[.string S] W fun e w' => e = .returned (.bool true) ∧ Below W.heap.size W w' := by
  have HM := Lib.hid (Mem.start W)
  have HT := Lib.hid hT
  have HE := Lib.hid hE
  have HX := Lib.hid hX
  obtain ⟨l, ec, hl16, hrd, hdr⟩ := read_one S hs
  have HRd := Lib.hid hrd
  have HDr := Lib.hid hdr
  have HL := Lib.hid (show ∀ e ∈ l, e.l.length ≤ 4611686018427387904 from fun e he => Nat.le_trans (hl16 e he) (by decide))
  have HL16 := Lib.hid hl16
  have be : (ec != ec) = false := by simp
  clear hT hE hX hrd hdr hl16
  go_enter Tryz.func5, Tryz.ntmps5
  go_wp2_with (first | (go_at_call 12; (with_reducible refine cB HM (mknown_any _ HT.out HE.out) ?_); clear HM; intro W1 HM))
  refine (HRd.out _ (HT.out.below HM.out.below) (HE.out.below HM.out.below) (HX.out.below HM.out.below)).mono ?_
  rintro e W2 ⟨jx, xs, px, cx, hdx, hlx, rfl, hM2⟩
  have HM1 := Lib.hid (HM.out.comp2 hM2)
  clear HM hM2
  have HM := HM1
  clear HM1
  go_wp2_with fail
  refine (HRd.out _ (HT.out.below HM.out.below) (HE.out.below HM.out.below) (HX.out.below HM.out.below)).mono ?_
  rintro e W3 ⟨jy, ys, py, cy, hdy, hly, rfl, hM2⟩
  have HM1 := Lib.hid (HM.out.comp2 hM2)
  clear HM hM2
  have HM := HM1
  clear HM1
  go_wp2_with fail
  refine (HDr.out _).mono ?_
  rintro e W4 ⟨ws, pw, cw, hdw, hlw, rfl, hM2⟩
  have HM1 := Lib.hid (HM.out.comp2 hM2)
  clear HM hM2
  have HM := HM1
  clear HM1 HRd HDr HT HE HX
  have HIx := Lib.hid (evin_of (ms := xs) (p := px) (c := cx) HM.out (by simp) (by intro r hr; simp [hr]) (by rw [hdx]; exact HL.out))
  have HIw := Lib.hid (evin_of (ms := ws) (p := pw) (c := cw) HM.out (by simp) (by intro r hr; simp [hr]) (by rw [hdw]; exact HL.out))
  have HDxw := Lib.hid (hdx.trans hdw.symm)
  have HDyw := Lib.hid (hdy.trans hdw.symm)
  have HDy := Lib.hid hdy
  have HDw := Lib.hid hdw
  have HX16 := Lib.hid (show ∀ m ∈ xs, m.d.l.length ≤ 16 from fun m hm => HL16.out _ (by rw [← hdx]; exact List.mem_map.2 ⟨m, hm, rfl⟩))
  clear hdx hdy hdw HL16
  go_wp2_with (first | (go_at_call 17; (with_reducible refine cB HM (rsame_any px pw cx cw xs ws _ HIx.out HIw.out HDxw.out (by omega)) ?_); clear HM; intro W1 HM))
  obtain ⟨R, hR⟩ : ∃ R, (Res.row pw cw 36 4 ws.length (outC ws) :: outR ws) ++ (Res.row py cy 36 4 ys.length (outC ys) :: outR ys) = R := ⟨_, rfl⟩
  have HRw := Lib.hid (show ∀ r ∈ (Res.row pw cw 36 4 ws.length (outC ws) :: outR ws), r ∈ R from fun r hr => by rw [← hR]; exact List.mem_append_left _ hr)
  have HRy := Lib.hid (show ∀ r ∈ (Res.row py cy 36 4 ys.length (outC ys) :: outR ys), r ∈ R from fun r hr => by rw [← hR]; exact List.mem_append_right _ hr)
  have HM1 := Lib.hid (show Mem W _ (.row px cx 36 4 xs.length (outX (xs.map XM.of)) :: (outXR (xs.map XM.of) ++ R)) by
    rw [outX_of, outXR_of, ← hR]
    refine HM.out.perm ?_
    simp only [List.append_nil]
    rw [← List.append_assoc]
    exact List.perm_append_comm (l₂ := Res.row px cx 36 4 xs.length (outC xs) :: outR xs))
  have hn : (xs.map XM.of).length = xs.length := List.length_map ..
  have HZ := Lib.hid (show ∀ z ∈ xs.map XM.of, z.n ≤ 16 by
    intro z hz
    obtain ⟨m, hm, rfl⟩ := List.mem_map.1 hz
    exact HX16.out m hm)
  clear HM hR HIx HIw HDxw HX16
  have HM := HM1
  clear HM1
  obtain ⟨n, hnn⟩ : ∃ n, xs.length = n := ⟨_, rfl⟩
  rw [hnn] at hn
  simp only [hnn] at HM hlx ⊢
  generalize xs.map XM.of = zs0 at *
  clear hnn xs
  go_wp2_with fail
  go_loopw [11] (fun iv wr => ∃ (i : Nat) (zs : List XM), iv = .int .i64 i ∧ i ≤ n ∧ zs.length = n ∧ Hid (∀ z ∈ zs, z.n ≤ 16) ∧ Hid (Mem W wr (.row px cx 36 4 n (outX zs) :: (outXR zs ++ R)))) (fun iv _ => n - (intOf iv).toNat)
  case atStart => exact ⟨0, zs0, rfl, by omega, hn, HZ, HM⟩
  case round =>
    clear HM HZ hn zs0
    obtain ⟨i, zs, rfl, hi, hzl, HZ, HM⟩ := hrel
    by_cases hlt : i < n
    · obtain ⟨b, rfl⟩ := row_has (HM.out.get (k := 0) rfl) (by omega)
      obtain ⟨z, hz⟩ : ∃ t, zs[i]? = some t := ⟨_, List.getElem?_eq_getElem (by omega)⟩
      have hzn := HZ.out z (List.mem_of_getElem? hz)
      have HM1 := Lib.hid (x_take hz HM.out)
      have HC2 := Lib.hid (x_cell hz)
      have HOv := Lib.hid (fun u v w cs => x_over hz u v w cs)
      have hcl : i * 4 + 4 ≤ (outX zs).length := by rw [x_len]; omega
      have d1 : decide ((i : Int) < n) = true := decide_eq_true (by omega)
      have hlt3 := Lib.hid (show i + 1 ≤ n from hlt)
      obtain ⟨za, zb, zd, p0, c0, n0, cs0⟩ := z
      dsimp only at hzn
      unfold XM.res at HM1
      dsimp only at HC2 HOv HM1
      clear HM hz
      have HM := HM1
      clear HM1
      obtain ⟨T, hT⟩ : ∃ T, outXR (zs.eraseIdx i) ++ R = T := ⟨_, rfl⟩
      rw [hT] at HM
      have HTT := Lib.hid hT
      clear hT
      as_aux_lemma =>
      go_wp2_with fail
      go_loopw [12] (fun kv wr => ∃ (k : Nat) (cs : List Value), kv = .int .i64 k ∧ k ≤ n0 ∧ Hid (Mem W wr (.row (some b) cx 36 4 n (outX zs) :: .row p0 c0 38 2 n0 cs :: T))) (fun kv _ => n0 - (intOf kv).toNat)
      case atStart => exact ⟨0, cs0, rfl, by omega, HM⟩
      case round =>
        clear HM
        obtain ⟨k, cs, rfl, hk, HM⟩ := hrel
        by_cases hkl : k < n0
        · obtain ⟨b0, rfl⟩ := row_has (HM.out.get (k := 1) rfl) (by omega)
          have hcl2 : k * 2 + 2 ≤ cs.length := by rw [(row_cap (HM.out.get (k := 1) rfl)).2.2]; omega
          have d2 : decide ((k : Int) < n0) = true := decide_eq_true (by omega)
          have hk3 := Lib.hid (show k + 1 ≤ n0 from hkl)
          as_aux_lemma =>
          go_wp2_with (first | ((with_reducible refine iat 57 ?_); (refine ixa (i := i) rfl rfl rfl hlt ?_)) | ((with_reducible refine iat 59 ?_); (refine ldx1 (row_cell2 (HM.out.get (k := 0) rfl) HC2.out) rfl ?_)) | ((with_reducible refine iat 66 ?_); (refine ixa (i := i) rfl rfl rfl hlt ?_)) | ((with_reducible refine iat 68 ?_); (refine ldx1 (row_cell2 (HM.out.get (k := 0) rfl) HC2.out) rfl ?_)) | ((with_reducible refine iat 71 ?_); (refine ixa (i := k) rfl rfl rfl hkl ?_)) | ((with_reducible refine istore ?_); (refine strA (vs := [.string ⟨#[113]⟩, .string ⟨#[119]⟩]) (i := k * 2) rfl HM.out 1 rfl rfl rfl rfl ?_ hcl2 ?_; (intro u hu; revert u hu; simp [Value.oneCell']); intro W1 HM1; replace HM := Lib.hid HM1; clear HM1; simp only [List.set] at HM)))
          go_roundw
          case rel => exact ⟨k + 1, _, by go_num, hk3.out, HM⟩
          case measure => have := hk3.out; simp [intOf]; omega
        · obtain rfl : k = n0 := by omega
          have d2 : decide ((k : Int) < k) = false := by simp
          have hc1 : i * 4 + 1 < (outX zs).length := by omega
          have hc3 : i * 4 + 3 < ((outX zs).set (i * 4 + 1) (.string ⟨#[113]⟩)).length := by rw [List.length_set]; omega
          have hc0 : i * 4 < (((outX zs).set (i * 4 + 1) (.string ⟨#[113]⟩)).set (i * 4 + 3) (.string ⟨#[119]⟩)).length := by rw [List.length_set, List.length_set]; omega
          as_aux_lemma =>
          go_wp2_with (first | ((with_reducible refine iat 57 ?_); (refine ixa (i := i) rfl rfl rfl hlt ?_)) | ((with_reducible refine iat 59 ?_); (refine ldx1 (row_cell2 (HM.out.get (k := 0) rfl) HC2.out) rfl ?_)) | ((with_reducible refine iat 78 ?_); (refine ixa (i := i) rfl rfl rfl hlt ?_)) | ((with_reducible refine iat 80 ?_); (refine ixa (i := i) rfl rfl rfl hlt ?_)) | ((with_reducible refine iat 82 ?_); (refine ixa (i := i) rfl rfl rfl hlt ?_)) | ((with_reducible refine istore ?_); (first | (refine strw (i := i * 4 + 1) (v := .string ⟨#[113]⟩) rfl HM.out 0 rfl (by rw [← add_add']; rfl) rfl rfl hc1 ?_) | (refine strw (i := i * 4 + 3) (v := .string ⟨#[119]⟩) rfl HM.out 0 rfl (by rw [← add_add']; rfl) rfl rfl hc3 ?_) | (refine strw (i := i * 4) (v := .int .i64 9) rfl HM.out 0 rfl rfl rfl rfl hc0 ?_)); intro W1 HM1; replace HM := Lib.hid HM1; clear HM1; simp only [List.set] at HM))
          go_roundw
          case rel =>
            refine ⟨i + 1, zs.set i ⟨.int .i64 9, .string ⟨#[113]⟩, .string ⟨#[119]⟩, p0, c0, k, cs⟩, by go_num, hlt3.out, by rw [List.length_set]; exact hzl, Lib.hid (set_all HZ.out (by omega) hzn), Lib.hid (x_put (by omega) ?_)⟩
            have h9 := HM.out
            rw [HOv.out _ _ _ cs, ← HTT.out] at h9
            exact h9
          case measure => have := hlt3.out; simp [intOf]; omega
    · obtain rfl : i = n := by omega
      have d1 : decide ((i : Int) < i) = false := by simp
      clear hi
      go_wp2_with fail
      go_loopw [13] (fun iv wr => ∃ (j : Nat) (zs : List XM), iv = .int .i64 j ∧ j ≤ i ∧ zs.length = i ∧ Hid (∀ z ∈ zs, z.n ≤ 16 + 5 * j) ∧ Hid (Mem W wr (.row px cx 36 4 i (outX zs) :: (outXR zs ++ R)))) (fun iv _ => i - (intOf iv).toNat)
      case atStart => exact ⟨0, zs, rfl, by omega, hzl, HZ, HM⟩
      case round =>
        clear HM HZ hzl zs
        obtain ⟨j, zs, rfl, hj, hzl, HZ, HM⟩ := hrel
        by_cases hlt : j < i
        · obtain ⟨b, rfl⟩ := row_has (HM.out.get (k := 0) rfl) (by omega)
          obtain ⟨z, hz⟩ : ∃ t, zs[j]? = some t := ⟨_, List.getElem?_eq_getElem (by omega)⟩
          have hzn := HZ.out z (List.mem_of_getElem? hz)
          have HM1 := Lib.hid (x_take hz HM.out)
          have d1 : decide ((j : Int) < i) = true := decide_eq_true (by omega)
          have hlt3 := Lib.hid (show j + 1 ≤ i from hlt)
          have HSet := Lib.hid (show zs.set j z = zs from set_same hz)
          have hjz : j < zs.length := by omega
          have HJz := Lib.hid hjz
          clear HM hz hjz
          have HM := HM1
          clear HM1
          obtain ⟨T, hT⟩ : ∃ T, outXR (zs.eraseIdx j) ++ R = T := ⟨_, rfl⟩
          rw [hT, ← HSet.out] at HM
          have HTT := Lib.hid (show outXR ((zs.set j z).eraseIdx j) ++ R = T by rw [HSet.out]; exact hT)
          have HTe := Lib.hid hT
          clear hT
          as_aux_lemma =>
          go_wp2_with fail
          go_loopw [14] (fun kv wr => ∃ (k : Nat) (y : XM), kv = .int .i64 k ∧ k ≤ 5 ∧ y.n ≤ 16 + 5 * j + k ∧ Hid (Mem W wr (.row (some b) cx 36 4 i (outX (zs.set j y)) :: y.res :: T))) (fun kv _ => 5 - (intOf kv).toNat)
          case atStart => exact ⟨0, z, rfl, by omega, by omega, by rw [HSet.out] at HM ⊢; exact HM⟩
          case round =>
            clear HM
            obtain ⟨k, y, rfl, hk, hyn, HM⟩ := hrel
            by_cases hk5 : k < 5
            · have hget : (zs.set j y)[j]? = some y := List.getElem?_set_self HJz.out
              have HC2 := Lib.hid (x_cell hget)
              have HGr := Lib.hid (fun p c n cs => x_grow hget p c n cs)
              have hcl : j * 4 + 2 < (outX (zs.set j y)).length := by rw [x_len, List.length_set, hzl]; omega
              obtain ⟨ya, yb, yd, p0, c0, n0, cs0⟩ := y
              unfold XM.res at HM
              dsimp only at HC2 HGr HM hyn
              have d2 : decide ((k : Int) < 5) = true := decide_eq_true (by omega)
              have hk3 := Lib.hid (show k + 1 ≤ 5 from hk5)
              clear hget
              as_aux_lemma =>
              go_wp2_with (first | ((with_reducible refine iat 98 ?_); (refine ixa (i := j) rfl rfl rfl hlt ?_)) | ((with_reducible refine iat 100 ?_); (refine ldx1 (row_cell2 (HM.out.get (k := 0) rfl) HC2.out) rfl ?_)) | ((with_reducible refine iat 104 ?_); (refine ixa (i := j) rfl rfl rfl hlt ?_)) | (refine apb rfl HM.out 2 0 rfl rfl rfl rfl rfl rfl (by omega) (by omega) (by omega) ?_; intro p1 cap1 W1 HM1; replace HM := Lib.hid HM1; clear HM1; simp only [List.set] at HM) | ((with_reducible refine istore ?_); (refine strw (i := j * 4 + 2) (v := .slice p1 (n0 + 1) cap1) rfl HM.out 1 rfl (by rw [← add_add']; rfl) rfl rfl hcl ?_); intro W1 HM1; replace HM := Lib.hid HM1; clear HM1; simp only [List.set] at HM) | ((with_reducible refine skip_op ?_ ?_); exact rfl) | refine mP ?_ | (refine mS ?_; clear HM; intro W1 HM) | (refine mL ?_; clear HM; intro g1 W1 HM))
              go_roundw
              case rel =>
                obtain ⟨cs1, h9⟩ : ∃ cs1, Mem W _ (.row (some b) cx 36 4 i ((outX (zs.set j ⟨ya, yb, yd, p0, c0, n0, cs0⟩)).set (j * 4 + 2) (.slice p1 (n0 + 1) cap1)) :: .row p1 cap1 38 2 (n0 + 1) cs1 :: T) := ⟨_, HM.out.sub (.cons _ (.refl _))⟩
                rw [HGr.out _ _ _ cs1, List.set_set] at h9
                exact ⟨k + 1, ⟨ya, yb, yd, p1, cap1, n0 + 1, cs1⟩, by go_num, hk3.out, by dsimp only; omega, Lib.hid h9⟩
              case measure => have := hk3.out; simp [intOf]; omega
            · obtain rfl : k = 5 := by omega
              as_aux_lemma =>
              go_wp2_with fail
              go_roundw
              case rel =>
                refine ⟨j + 1, zs.set j y, by go_num, hlt3.out, by rw [List.length_set]; exact hzl, Lib.hid (set_all HZ.out (by omega) (by omega)), Lib.hid (x_put HJz.out ?_)⟩
                rw [HTe.out]
                exact HM.out
              case measure => have := hlt3.out; simp [intOf]; omega
        · obtain rfl : j = i := by omega
          have d1 : decide ((j : Int) < j) = false := by simp
          have HIy := Lib.hid (evin_of (ms := ys) (p := py) (c := cy) HM.out (.tail _ (List.mem_append_right _ (HRy.out _ (.head _)))) (fun r hr => .tail _ (List.mem_append_right _ (HRy.out _ (.tail _ hr)))) (by rw [HDy.out]; exact HL.out))
          have HIw := Lib.hid (evin_of (ms := ws) (p := pw) (c := cw) HM.out (.tail _ (List.mem_append_right _ (HRw.out _ (.head _)))) (fun r hr => .tail _ (List.mem_append_right _ (HRw.out _ (.tail _ hr)))) (by rw [HDw.out]; exact HL.out))
          as_aux_lemma =>
          go_wp2_with (first | (go_at_call 17; (with_reducible refine cB HM (rsame_any py pw cy cw ys ws _ HIy.out HIw.out HDyw.out (by omega)) ?_); clear HM; intro W1 HM))
          go_ret
          exact ⟨rfl, HM.out.below⟩
end Go.Proofs.YtfnodoepeiknhaaGreatDoor
