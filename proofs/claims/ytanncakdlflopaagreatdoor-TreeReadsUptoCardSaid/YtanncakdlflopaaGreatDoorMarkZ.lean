/- The reference of mark: faults, DocRead. (short) -/
import Derived.Test.YtanncakdlflopaaGreatDoorMarkY
import Derived.Test.YtanncakdlflopaaGreatDoorMarkW
namespace Go.Proofs.YtanncakdlflopaaGreatDoor
open Go.RowKit
set_option linter.unusedVariables false
set_option linter.unusedSimpArgs false
set_option maxRecDepth 100000

def mzR (n : Nat) (x : Int) : Nat := if x < 0 then 0 else n + 1 - x.toNat
theorem mzR_neg {n : Nat} : mzR n (-1) = 0 := rfl
theorem mzR_nat {n k : Nat} : mzR n (k : Int) = n + 1 - k := by unfold mzR; rw [if_neg (by omega)]; simp
def dupI (d : Bool) : Int := if d then 10 else 0
/-- What faults answers. -/
def fauI (l : List EvD) : Int := if longB l then 6 else dupI (dupB l)
theorem fau_long {ms : List EvM} {i : Nat} {x : EvM} (h : ms[i]? = some x) (hl : 16 < x.d.l.length) : fauI (outD ms) = 6 := by
  have : longB (outD ms) = true := by
    unfold longB
    rw [List.any_eq_true]
    exact ⟨x.d, List.mem_map.2 ⟨x, List.mem_of_getElem? h, rfl⟩, decide_eq_true hl⟩
  unfold fauI; rw [this]; rfl
theorem outD_next {ms : List EvM} {i : Nat} {x : EvM} (h : ms[i]? = some x) : outD (ms.take (i + 1)) = outD (ms.take i) ++ [x.d] := by
  unfold outD; rw [List.take_add_one, h]; simp
theorem long_next {ms : List EvM} {i : Nat} {x : EvM} (h : ms[i]? = some x) (h0 : longB (outD (ms.take i)) = false) (hl : ¬ 16 < x.d.l.length) : longB (outD (ms.take (i + 1))) = false := by
  rw [outD_next h, longB_add, h0]
  simp [longB, hl]
theorem dup_next {ms : List EvM} {i : Nat} {x : EvM} (h : ms[i]? = some x) : dupB (outD (ms.take (i + 1))) = (dupB (outD (ms.take i)) || dupA x.d.l) := by
  rw [outD_next h, dupB_add]
  simp [dupB]
theorem dupA_next {l : List AtD} {k : Nat} {a : AtD} (h : l[k]? = some a) : dupA (l.take (k + 1)) = (dupA (l.take k) || (l.take k).any fun b => a.1.toList == b.1.toList) := by
  rw [List.take_add_one, h]
  exact dupA_snoc _ _

set_option maxHeartbeats 16000000 in
theorem rfaults_any (p : Option Addr) (c : Nat) (ms : List EvM) (W : World) (h1 : Sl W p (outC ms)) (h2 : ∀ m ∈ ms, Sl W m.p (m.d.l.flatMap AtD.cs)) (hl : ms.length ≤ 4611686018427387904) :
    Calls Tryz.prog 39 #[.slice p ms.length c] W fun e w' => e = .returned (.int .i64 (fauI (outD ms))) ∧ Below W.heap.size W w' := by
  have HM := Lib.hid (Mem.start W)
  have H1 := Lib.hid h1
  have H2 := Lib.hid h2
  clear h1 h2
  go_enter Tryz.func39, Tryz.ntmps39
  go_wp2_with fail
  go_loopw [3, 4] (fun ev iv wr => ∃ i : Nat, ev = .int .i64 (dupI (dupB (outD (ms.take i)))) ∧ iv = .int .i64 i ∧ i ≤ ms.length ∧ Hid (longB (outD (ms.take i)) = false) ∧ Hid (Mem W wr [])) (fun _ iv _ => ms.length - (intOf iv).toNat)
  case atStart => exact ⟨0, rfl, rfl, by omega, Lib.hid rfl, HM⟩
  case round =>
    clear HM
    obtain ⟨i, rfl, rfl, hi, HL, HM⟩ := hrel
    by_cases hlt : i < ms.length
    · obtain ⟨x, hx⟩ : ∃ t, ms[i]? = some t := ⟨_, List.getElem?_eq_getElem hlt⟩
      obtain ⟨b, rfl, hb⟩ := H1.out.some_at EvM.cs_len (by decide) hlt
      have hxa := H2.out x (List.mem_of_getElem? hx)
      have e1 := hb.elem EvM.cs 4 EvM.cs_len hx
      have HX := Lib.hid hx
      obtain ⟨d0, hd0⟩ : ∃ d, dupB (outD (ms.take i)) = d := ⟨_, rfl⟩
      have HN := Lib.hid (dup_next hx)
      rw [hd0] at HN
      rw [hd0]
      clear hx hb hd0
      obtain ⟨⟨k, n, l, t⟩, pa, ca⟩ := x
      dsimp only at HN
      have E1 := Lib.hid (show Cells W (b.add (i * 4)) [.int .i64 k, .string n, .slice pa l.length ca, .string t] from e1)
      have HA := Lib.hid (show Sl W pa (l.flatMap AtD.cs) from hxa)
      have d1 : decide ((i : Int) < ms.length) = true := decide_eq_true (by omega)
      have hlt3 := Lib.hid (show i + 1 ≤ ms.length from hlt)
      clear e1 hxa
      by_cases h16 : 16 < l.length
      · have d2 : decide ((16 : Int) < (l.length : Int)) = true := decide_eq_true (by omega)
        have HF := Lib.hid (fau_long HX.out h16)
        as_aux_lemma =>
        go_wp2_with (first | ((with_reducible refine iat 15 ?_); (refine ixa (i := i) rfl rfl rfl hlt ?_)) | ((with_reducible refine iat 17 ?_); (refine ldx1 (HM.out.olds E1.out 2 _ rfl) rfl ?_)))
        go_ret
        exact ⟨by rw [HF.out]; rfl, HM.out.below⟩
      · have d2 : decide ((16 : Int) < (l.length : Int)) = false := decide_eq_false (by omega)
        have HL2 := Lib.hid (long_next HX.out HL.out h16)
        clear HX HL
        as_aux_lemma =>
        go_wp2_with (first | ((with_reducible refine iat 15 ?_); (refine ixa (i := i) rfl rfl rfl hlt ?_)) | ((with_reducible refine iat 17 ?_); (refine ldx1 (HM.out.olds E1.out 2 _ rfl) rfl ?_)))
        go_loopw [3, 5] (fun ev kv wr => ∃ k : Nat, ev = .int .i64 (dupI (d0 || dupA (l.take k))) ∧ kv = .int .i64 k ∧ k ≤ l.length ∧ Hid (Mem W wr [])) (fun _ kv _ => l.length - (intOf kv).toNat)
        case atStart => exact ⟨0, by simp [dupA], rfl, by omega, HM⟩
        case round =>
          clear HM
          obtain ⟨k, rfl, rfl, hk, HM⟩ := hrel
          by_cases hkl : k < l.length
          · obtain ⟨a, ha⟩ : ∃ t, l[k]? = some t := ⟨_, List.getElem?_eq_getElem hkl⟩
            obtain ⟨b2, rfl, hb2⟩ := HA.out.some_at AtD.cs_len (by decide) hkl
            have HNk := Lib.hid (dupA_next ha)
            have HC2 := Lib.hid hb2
            have HAk := Lib.hid ha
            obtain ⟨dk, hdk⟩ : ∃ d, dupA (l.take k) = d := ⟨_, rfl⟩
            rw [hdk] at HNk
            rw [hdk]
            obtain ⟨a1, a2⟩ := a
            have d3 : decide ((k : Int) < (l.length : Int)) = true := decide_eq_true (by omega)
            have hk3 := Lib.hid (show k + 1 ≤ l.length from hkl)
            have EK := Lib.hid (show Cells W (b2.add (k * 2)) [.string a1, .string a2] from hb2.elem AtD.cs 2 AtD.cs_len ha)
            clear ha hb2 hdk
            go_wp2_with (first | ((with_reducible refine iat 23 ?_); (refine ixa (i := i) rfl rfl rfl hlt ?_)) | ((with_reducible refine iat 25 ?_); (refine ldx1 (HM.out.olds E1.out 2 _ rfl) rfl ?_)))
            go_loopw [3, 6] (fun ev jv wr => ∃ j : Nat, ev = .int .i64 (dupI ((d0 || dk) || (l.take j).any fun b => a1.toList == b.1.toList)) ∧ jv = .int .i64 j ∧ j ≤ k ∧ Hid (Mem W wr [])) (fun _ jv _ => k - (intOf jv).toNat)
            case atStart => exact ⟨0, by simp, rfl, by omega, HM⟩
            case round =>
              clear HM
              obtain ⟨j, rfl, rfl, hj, HM⟩ := hrel
              by_cases hjk : j < k
              · have hjl : j < l.length := by omega
                obtain ⟨bb, hbb⟩ : ∃ t, l[j]? = some t := ⟨_, List.getElem?_eq_getElem hjl⟩
                have HNj := Lib.hid (any_next (fun b : AtD => a1.toList == b.1.toList) hbb)
                obtain ⟨b1, b3⟩ := bb
                have EJ := Lib.hid (show Cells W (b2.add (j * 2)) [.string b1, .string b3] from HC2.out.elem AtD.cs 2 AtD.cs_len hbb)
                have d4 : decide ((j : Int) < (k : Int)) = true := decide_eq_true (by omega)
                have hj3 := Lib.hid (show j + 1 ≤ k from hjk)
                obtain ⟨dj, hdj⟩ : ∃ d, ((l.take j).any fun b => a1.toList == b.1.toList) = d := ⟨_, rfl⟩
                rw [hdj] at HNj
                rw [hdj]
                clear hbb hdj
                cases hq : (b1.toList == a1.toList) with
                | true =>
                  have hq2 : (a1.toList == b1.toList) = true := by rw [BEq.comm]; exact hq
                  rw [hq2] at HNj
                  clear hq2
                  as_aux_lemma =>
                  go_wp2_with fail
                  refine wp_region_mem (by kernel_rfl) (by kernel_rfl) HM.out ?_; intro hNE; (repeat (any_goals (first | ((with_reducible refine qgd ?_); (with_reducible refine skip_q ?_ ?_ ?_); (exact rfl); (rotate_left; (exact (hNE.elim fun p => ⟨p.W, p, rfl⟩)))) | refine mQ ?_ | ((with_reducible refine qat 37 ?_); (refine qixa (i := i) rfl rfl rfl hlt ?_)) | ((with_reducible refine qat 46 ?_); (refine qixa (i := i) rfl rfl rfl hlt ?_)) | ((with_reducible refine qat 41 ?_); (refine qixa (i := j) rfl rfl rfl hjl ?_)) | ((with_reducible refine qat 50 ?_); (refine qixa (i := k) rfl rfl rfl hkl ?_)) | ((with_reducible refine qat 39 ?_); (refine qdx1 (i := 2) E1.out rfl rfl ?_)) | ((with_reducible refine qat 48 ?_); (refine qdx1 (i := 2) E1.out rfl rfl ?_)) | ((with_reducible refine qat 43 ?_); (refine qdx0 EJ.out rfl rfl ?_)) | ((with_reducible refine qat 52 ?_); (refine qdx0 EK.out rfl rfl ?_)) | go_big_quiet_step (fail) | quiet_step (fail)))); clear hNE; refine wpQuiet_nil ?_; intro W1 HM1; replace HM := Lib.hid HM1; clear HM1
                  go_wp2_with fail
                  go_roundw
                  case rel => exact ⟨j + 1, by rw [HNj.out]; simp [dupI], by go_num, hj3.out, HM⟩
                  case measure => have := hj3.out; simp [intOf]; omega
                | false =>
                  have hq2 : (a1.toList == b1.toList) = false := by rw [BEq.comm]; exact hq
                  rw [hq2] at HNj
                  clear hq2
                  as_aux_lemma =>
                  go_wp2_with fail
                  refine wp_region_mem (by kernel_rfl) (by kernel_rfl) HM.out ?_; intro hNE; (repeat (any_goals (first | ((with_reducible refine qgd ?_); (with_reducible refine skip_q ?_ ?_ ?_); (exact rfl); (rotate_left; (exact (hNE.elim fun p => ⟨p.W, p, rfl⟩)))) | refine mQ ?_ | ((with_reducible refine qat 37 ?_); (refine qixa (i := i) rfl rfl rfl hlt ?_)) | ((with_reducible refine qat 46 ?_); (refine qixa (i := i) rfl rfl rfl hlt ?_)) | ((with_reducible refine qat 41 ?_); (refine qixa (i := j) rfl rfl rfl hjl ?_)) | ((with_reducible refine qat 50 ?_); (refine qixa (i := k) rfl rfl rfl hkl ?_)) | ((with_reducible refine qat 39 ?_); (refine qdx1 (i := 2) E1.out rfl rfl ?_)) | ((with_reducible refine qat 48 ?_); (refine qdx1 (i := 2) E1.out rfl rfl ?_)) | ((with_reducible refine qat 43 ?_); (refine qdx0 EJ.out rfl rfl ?_)) | ((with_reducible refine qat 52 ?_); (refine qdx0 EK.out rfl rfl ?_)) | go_big_quiet_step (fail) | quiet_step (fail)))); clear hNE; refine wpQuiet_nil ?_; intro W1 HM1; replace HM := Lib.hid HM1; clear HM1
                  go_wp2_with fail
                  go_roundw
                  case rel => exact ⟨j + 1, by rw [HNj.out]; simp, by go_num, hj3.out, HM⟩
                  case measure => have := hj3.out; simp [intOf]; omega
              · obtain rfl : j = k := by omega
                have d4 : decide ((j : Int) < (j : Int)) = false := by simp
                as_aux_lemma =>
                go_wp2_with fail
                go_roundw
                case rel => exact ⟨j + 1, by rw [HNk.out, Bool.or_assoc], by go_num, hk3.out, HM⟩
                case measure => have := hk3.out; simp [intOf]; omega
          · obtain rfl : k = l.length := by omega
            have d3 : decide ((l.length : Int) < (l.length : Int)) = false := by simp
            rw [List.take_length]
            as_aux_lemma =>
            go_wp2_with (first | ((with_reducible refine iat 23 ?_); (refine ixa (i := i) rfl rfl rfl hlt ?_)) | ((with_reducible refine iat 25 ?_); (refine ldx1 (HM.out.olds E1.out 2 _ rfl) rfl ?_)))
            go_roundw
            case rel => exact ⟨i + 1, by rw [HN.out], by go_num, hlt3.out, HL2, HM⟩
            case measure => have := hlt3.out; simp [intOf]; omega
    · obtain rfl : i = ms.length := by omega
      have d1 : decide ((ms.length : Int) < ms.length) = false := by simp
      have HF := Lib.hid (show fauI (outD ms) = dupI (dupB (outD (ms.take ms.length))) by have := HL.out; rw [List.take_length] at this ⊢; unfold fauI; rw [this]; rfl)
      go_wp2_with fail
      go_ret
      exact ⟨by rw [HF.out]; rfl, HM.out.below⟩

theorem pro_le {S : ByteArray} {k : Nat} (h : prologF S = some k) : k ≤ S.size := by
  unfold prologF at h
  split at h
  · cases h; omega
  rename_i h0
  split at h
  · cases h
  split at h
  · cases h
  rename_i n hn
  simp only [Option.some.injEq] at h
  have h5 : 5 ≤ S.size := by have := atP_le (t := [60, 63, 120, 109, 108]) (Nat.zero_le _) (by simpa using h0); simpa using this
  have h6 := blkE_le h5
  have h7 := fndL_le (by simp) hn
  rw [List.length_drop, size_list] at h7
  simp only [List.length_cons, List.length_nil] at h7
  omega
theorem doc_join {w0 W1 W2 : World} {r r2 : Res} {ms ms2 : List EvM} (h0 : Mem w0 W1 (r :: outR ms)) (h : Mem W1 W2 (r2 :: outR ms2)) : Mem w0 W2 (r :: r2 :: (outR ms ++ outR ms2)) := by
  have h1 := h0.comp2 h
  refine h1.perm ?_
  refine (List.perm_append_comm (l₁ := r2 :: outR ms2) (l₂ := r :: outR ms)).trans ?_
  simp only [List.cons_append]
  refine .cons _ ?_
  exact List.perm_middle
/-- What DocRead answers. -/
def RDPost (r : Option (List EvD) × Int) (w0 : World) (e : Ending) (w' : World) : Prop :=
  match r with
  | (none, c) => (c == 0) = false ∧ e = .returned (.tuple #[.slice none 0 0, .int .i64 c]) ∧ Below w0.heap.size w0 w'
  | (some l, _) => ∃ (ms : List EvM) (p : Option Addr) (c : Nat), outD ms = l ∧ ms.length ≤ 4194304 ∧ e = .returned (.tuple #[.slice p ms.length c, .int .i64 0]) ∧ Mem w0 w' (.row p c 57 4 ms.length (outC ms) :: outR ms)
theorem rd_none {r : Option (List EvD) × Int} {w0 w' : World} {c : Int} (h : r = (none, c)) (hc : (c == 0) = false) (hb : Below w0.heap.size w0 w') : RDPost r w0 (.returned (.tuple #[.slice none 0 0, .int .i64 c])) w' := by
  subst h; exact ⟨hc, rfl, hb⟩

set_option maxHeartbeats 16000000 in
theorem rdoc_any (S : ByteArray) (W : World) (r : Option (List EvD) × Int) (hr : markF S = r) (hs : S.size ≤ 1048576) :
    Calls Tryz.prog 20 #[.string S] W (RDPost r W) := by
  have HM := Lib.hid (Mem.start W)
  by_cases h3 : 300000 < S.size
  · have d1 : decide ((300000 : Int) < (S.size : Int)) = true := decide_eq_true (by omega)
    have HR := Lib.hid (show r = (none, 6) by rw [← hr]; unfold markF; rw [if_pos h3])
    clear h3 hr
    go_enter Tryz.func20, Tryz.ntmps20
    go_wp2_with fail
    go_ret2
    exact rd_none HR.out rfl HM.out.below
  have d1 : decide ((300000 : Int) < (S.size : Int)) = false := decide_eq_false (by omega)
  have HV := Lib.hid (fun W => rValid_any S W (by omega))
  cases hv : textB S with
  | false =>
    have HR := Lib.hid (show r = (none, 2) by rw [← hr]; unfold markF; rw [if_neg h3, if_pos hv])
    rw [hv] at HV
    clear h3 hr hv
    go_enter Tryz.func20, Tryz.ntmps20
    go_wp2_with (first | (go_at_call 36; (with_reducible refine cB HM (HV.out _) ?_); clear HM; intro W1 HM))
    go_ret2
    exact rd_none HR.out rfl HM.out.below
  | true =>
    obtain ⟨q, hq⟩ : ∃ q, bodyF S = q := ⟨_, rfl⟩
    unfold markF at hr
    rw [if_neg h3, if_neg (by rw [hv]; decide), hq] at hr
    rw [hv] at HV
    have HR := Lib.hid hr
    obtain ⟨pr, hpr⟩ : ∃ x, prologF S = x := ⟨_, rfl⟩
    have HPr := Lib.hid (fun W => rprolog_any S W pr hpr hs)
    obtain ⟨x, hx⟩ : ∃ x, proI pr = x := ⟨_, rfl⟩
    rw [hx] at HPr
    have HI := Lib.hid (show (x = -1 ∧ q = none) ∨ ∃ k f : Nat, x = (k : Int) ∧ k ≤ S.size ∧ S.size - k < f ∧ docG S f k [] = q by
      unfold bodyF at hq
      rw [hpr] at hq
      cases pr with
      | none => exact .inl ⟨hx.symm, hq.symm⟩
      | some k => exact .inr ⟨k, S.size + 1, hx.symm, pro_le hpr, by omega, hq⟩)
    clear h3 hr hv hq hpr hx
    go_enter Tryz.func20, Tryz.ntmps20
    go_wp2_with (first | (go_at_call 36; (with_reducible refine cB HM (HV.out _) ?_); clear HM; intro W1 HM) | (go_at_call 37; with_reducible refine cQ (HPr.out _) ?_))
    go_loopw [4, 5] (fun iv ov wr => ∃ (x : Int) (ms : List EvM) (p : Option Addr) (c : Nat), iv = .int .i64 x ∧ ov = .slice p ms.length c ∧ Hid (Mem W wr (.row p c 57 4 ms.length (outC ms) :: outR ms)) ∧ Hid ((x = -1 ∧ q = none) ∨ ∃ k f : Nat, x = (k : Int) ∧ k ≤ S.size ∧ S.size - k < f ∧ ms.length ≤ 2 * k ∧ docG S f k (outD ms) = q)) (fun iv _ _ => mzR S.size (intOf iv))
    case atStart =>
      refine ⟨x, [], none, 0, rfl, rfl, Lib.hid (HM.out.row0 _ _), Lib.hid ?_⟩
      rcases HI.out with h | ⟨k, f, h1, h2, h3, h4⟩
      · exact .inl h
      · exact .inr ⟨k, f, h1, h2, h3, by simp, h4⟩
    case round =>
      clear HM HI
      obtain ⟨x, ms, p, c, rfl, rfl, HM, HI⟩ := hrel
      rcases HI.out with ⟨rfl, rfl⟩ | ⟨k, f, rfl, hk, hf, hms, hD⟩
      · clear HI
        as_aux_lemma =>
        go_wp2_with (first | ((with_reducible refine skip_op ?_ ?_); exact rfl))
        go_ret2
        exact rd_none HR.out.symm rfl HM.out.below
      clear HI
      by_cases hlt : k < S.size
      · have d2 : decide ((k : Int) < (S.size : Int)) = true := decide_eq_true (by omega)
        obtain ⟨f, rfl⟩ : ∃ g, f = g + 1 := ⟨f - 1, by omega⟩
        cases hp : pieceF S k with
        | none =>
          have HQ := Lib.hid ((doc_none hlt hp).symm.trans hD)
          have HPc := Lib.hid (fun W => rpiece_any S k W none hp hk hs)
          clear hp hD
          as_aux_lemma =>
          go_wp2_with fail
          refine (HPc.out _).mono ?_
          rintro e W2 ⟨rfl, hb⟩
          have HM1 := Lib.hid (HM.out.next hb)
          clear HM hb
          have HM := HM1
          clear HM1
          go_wp2_with (first | ((with_reducible refine iat 32 ?_); (refine apr (news := []) rfl HM.out 0 rfl rfl rfl rfl (fun _ => rfl) (fun b e => by cases e) (by simp) (by unfold maxLen; omega) (by omega) ?_; intro p1 cap1 W2 HM1 hnil; clear hnil; clear HM; (try clear W1); rename World => W1; have HM := Lib.hid HM1; clear HM1; simp only [List.set] at HM)))
          go_roundw
          case rel => exact ⟨-1, ms, p1, cap1, rfl, rfl, Lib.hid (by have := HM.out; rw [List.append_nil] at this; exact this), Lib.hid (.inl ⟨rfl, HQ.out.symm⟩)⟩
          case measure => simp only [intOf]; rw [mzR_neg, mzR_nat]; omega
        | some lj =>
          obtain ⟨l, j⟩ := lj
          have HQ := Lib.hid ((doc_some hlt hp).symm.trans hD)
          have hj := pieceF_le hlt hp
          have HPc := Lib.hid (fun W => rpiece_any S k W (some (l, j)) hp hk hs)
          clear hp hD
          as_aux_lemma =>
          go_wp2_with fail
          refine (HPc.out _).mono ?_
          rintro e W2 ⟨ms2, p2, c2, hd2, hl2, rfl, hM2⟩
          have HM1 := Lib.hid (doc_join HM.out hM2)
          have HD2 := Lib.hid hd2
          have HSl := Lib.hid (row_sl (hM2.get (k := 0) rfl))
          have hC2 := outC_len ms2
          have HNl := Lib.hid (HSl.out.nil_len EvM.cs_len (by decide))
          clear HM hM2 hd2
          have HM := HM1
          clear HM1
          go_wp2_with (first | ((with_reducible refine iat 32 ?_); (refine apr rfl HM.out 0 rfl rfl rfl hC2 HNl.out HSl.out.2 (outC_one ms2) (by unfold maxLen; omega) (by omega) ?_; intro p1 cap1 W2 HM1 hnil; clear hnil; clear HM; (try clear W1); rename World => W1; have HM := Lib.hid HM1; clear HM1; simp only [List.set] at HM)))
          go_roundw
          case rel => exact ⟨j, ms ++ ms2, p1, cap1, rfl, by rw [List.length_append], Lib.hid (law_drop (by rw [outC_app, List.length_append]; exact HM.out)), Lib.hid (.inr ⟨j, f, rfl, hj.2, by omega, by rw [List.length_append]; omega, by rw [outD_app, HD2.out]; exact HQ.out⟩)⟩
          case measure => simp only [intOf]; rw [mzR_nat, mzR_nat]; omega
      · obtain rfl : k = S.size := by omega
        have d2 : decide ((S.size : Int) < (S.size : Int)) = false := by simp
        obtain ⟨f, rfl⟩ : ∃ g, f = g + 1 := ⟨f - 1, by omega⟩
        rw [doc_end] at hD
        have hr := HR.out
        rw [← hD] at hr
        dsimp only at hr
        have HF := Lib.hid (fun W h1 h2 => rfaults_any p c ms W h1 h2 (by omega))
        have hfi : fauI (outD ms) = if longB (outD ms) then 6 else dupI (dupB (outD ms)) := rfl
        clear HR hD
        cases hlg : longB (outD ms) with
        | true =>
          rw [hlg, if_pos rfl] at hr hfi
          rw [hfi] at HF
          have HR := Lib.hid hr
          clear hr hfi hlg
          as_aux_lemma =>
          go_wp2_with (first | ((with_reducible refine skip_op ?_ ?_); exact rfl))
          refine (HF.out _ (row_sl (HM.out.get (k := 0) rfl)) (fun m hm => row_sl (HM.out.holds m.res (.tail _ (List.mem_map.2 ⟨m, hm, rfl⟩))))).mono ?_
          rintro e W2 ⟨rfl, hb⟩
          have HM1 := Lib.hid (HM.out.next hb)
          clear HM hb HF
          have HM := HM1
          clear HM1
          go_wp2_with fail
          go_ret2
          exact rd_none HR.out.symm rfl HM.out.below
        | false =>
          rw [hlg, if_neg (by decide)] at hr hfi
          cases hdp : dupB (outD ms) with
          | true =>
            rw [hdp, if_pos rfl] at hr
            rw [hdp] at hfi
            rw [show fauI (outD ms) = 10 from hfi] at HF
            have HR := Lib.hid hr
            clear hr hfi hlg hdp
            as_aux_lemma =>
            go_wp2_with (first | ((with_reducible refine skip_op ?_ ?_); exact rfl))
            refine (HF.out _ (row_sl (HM.out.get (k := 0) rfl)) (fun m hm => row_sl (HM.out.holds m.res (.tail _ (List.mem_map.2 ⟨m, hm, rfl⟩))))).mono ?_
            rintro e W2 ⟨rfl, hb⟩
            have HM1 := Lib.hid (HM.out.next hb)
            clear HM hb HF
            have HM := HM1
            clear HM1
            go_wp2_with fail
            go_ret2
            exact rd_none HR.out.symm rfl HM.out.below
          | false =>
            rw [hdp, if_neg (by decide)] at hr
            rw [hdp] at hfi
            rw [show fauI (outD ms) = 0 from hfi] at HF
            subst hr
            clear hfi hlg hdp
            as_aux_lemma =>
            go_wp2_with (first | ((with_reducible refine skip_op ?_ ?_); exact rfl))
            refine (HF.out _ (row_sl (HM.out.get (k := 0) rfl)) (fun m hm => row_sl (HM.out.holds m.res (.tail _ (List.mem_map.2 ⟨m, hm, rfl⟩))))).mono ?_
            rintro e W2 ⟨rfl, hb⟩
            have HM1 := Lib.hid (HM.out.next hb)
            clear HM hb HF
            have HM := HM1
            clear HM1
            go_wp2_with fail
            go_ret2
            exact ⟨ms, p, c, rfl, by omega, rfl, HM.out⟩
end Go.Proofs.YtanncakdlflopaaGreatDoor
