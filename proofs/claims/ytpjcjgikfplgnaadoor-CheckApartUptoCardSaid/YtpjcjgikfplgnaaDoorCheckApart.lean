/- CheckApart: the law's walk. (fast) -/
import Derived.Test.YtpjcjgikfplgnaaDoorCheckFnLaw
import Derived.Test.YtpjcjgikfplgnaaDoorRefTopT
namespace Go.Proofs.YtpjcjgikfplgnaaDoor
open Go.RowKit
set_option linter.unusedVariables false
set_option linter.unusedSimpArgs false
set_option maxRecDepth 100000

/-! What lies in a box as a list, its first part, an element. -/
theorem box_el {α : Type} (f : α → List Value) (k : Nat) (hf : ∀ x, (f x).length = k) {B g : Nat} {t : TypeId} {W : World} {av : List Value} {L : List α} (h : (Res.box g t av).holds B W) (hav : av = L.flatMap f) {i : Nat} {x : α} (hx : L[i]? = some x) : Cells W ((⟨g, 0, none⟩ : Addr).add (i * k)) (f x) := by
  have h1 := box_cells h 0
  rw [List.drop_zero, hav] at h1
  exact h1.elem f k hf hx
theorem sl_pre {B g : Nat} {t : TypeId} {W : World} {av x y : List Value} (h : (Res.box g t av).holds B W) (hav : av = x ++ y) : Sl W (some ⟨g, 0, none⟩) x :=
  ⟨(fun e => by cases e), (fun a e => by
    cases e
    intro j u hj
    have h1 := box_cells h 0
    rw [List.drop_zero, hav] at h1
    exact h1 j u (by rw [List.getElem?_append_left (List.getElem?_eq_some_iff.1 hj).1]; exact hj))⟩
theorem fill_flat {α : Type} (f : α → List Value) (k : Nat) (hf : ∀ x, (f x).length = k) (l : List α) (z : α) (n : Nat) : l.flatMap f ++ ((List.replicate (l.length + n) (f z)).flatten).drop (l.flatMap f).length = (l ++ List.replicate n z).flatMap f := by
  have h1 : (List.replicate (l.length + n) (f z)).flatten = (List.replicate l.length z).flatMap f ++ (List.replicate n z).flatMap f := by
    rw [← List.flatMap_append, List.replicate_append_replicate, List.flatMap_def, List.map_replicate]
  rw [h1, List.drop_append, flat_len f k hf, flat_len f k hf, List.length_replicate, Nat.sub_self, List.drop_zero, List.drop_of_length_le (by rw [flat_len f k hf, List.length_replicate]; exact Nat.le_refl _), List.nil_append, List.flatMap_append]
theorem rep_at {α : Type} (l : List α) (z : α) (n i : Nat) (h1 : l.length ≤ i) (h2 : i < l.length + n) : (l ++ List.replicate n z)[i]? = some z := by
  rw [List.getElem?_append_right h1, List.getElem?_replicate, if_pos (by omega)]
def zN : NodeD := ⟨0, 0, ⟨#[]⟩, false, 0, 0, 0, 0⟩
def zS : SymD := ⟨⟨#[]⟩, ⟨0, 0⟩⟩
def fnTs (r : Option (List TyD × TyD)) : List TyD := match r with | none => [] | some x => x.1
def fnTy (r : Option (List TyD × TyD)) : TyD := match r with | none => ⟨0, 0⟩ | some x => x.2
def fnEr (r : Option (List TyD × TyD)) : Int := match r with | none => 8 | some _ => 0
theorem fn_post {r : Option (List TyD × TyD)} {w : World} {e : Ending} {w' : World} (h : FnPost r w e w') : ∃ q, e = .returned (.tuple #[.slice q (fnTs r).length (fnTs r).length, .agg #[.int .i64 (fnTy r).k, .int .i64 (fnTy r).o], .int .i64 (fnEr r)]) ∧ Mem w w' [.row q (fnTs r).length 25 2 (fnTs r).length ((fnTs r).flatMap TyD.cs)] := by
  cases r with
  | none =>
    obtain ⟨rfl, hb⟩ := h
    exact ⟨none, rfl, ((Mem.start w).next hb).row0 _ _⟩
  | some x =>
    obtain ⟨q, rfl, hm⟩ := h
    exact ⟨some ⟨q, 0, none⟩, rfl, hm⟩
theorem fnTs_len (l : List UInt8) : (fnTs (fnF l)).length ≤ 4 := by
  have h := fnF_lens l
  cases hr : fnF l with
  | none => simp [fnTs]
  | some x => rw [hr] at h; exact h

set_option maxHeartbeats 4000000 in
theorem rSame_any (p q : Option Addr) (c d : Nat) (l : List NodeD) (w : World) (h1 : Sl w p (l.flatMap NodeD.cs)) (h2 : Sl w q (l.flatMap NodeD.cs)) (hl : l.length ≤ 4611686018427387904) :
    Calls Tryd.prog 15 #[.slice p l.length c, .slice q l.length d] w fun e w' => e = .returned (.bool true) ∧ Below w.heap.size w w' := by
  have HM := Lib.hid (Mem.start w)
  have H1 := Lib.hid h1
  have H2 := Lib.hid h2
  clear h1 h2
  have b0 : ((l.length : Int) != l.length) = false := by simp
  go_enter Tryd.func15, Tryd.ntmps15
  go_wp2_with fail
  go_loopw [5] (fun iv wr => ∃ i : Nat, iv = .int .i64 i ∧ i ≤ l.length ∧ Hid (Mem w wr [])) (fun iv _ => l.length - (intOf iv).toNat)
  case atStart => exact ⟨0, rfl, by omega, HM⟩
  case round =>
    clear HM
    obtain ⟨i, rfl, hi, HM⟩ := hrel
    by_cases hlt : i < l.length
    · obtain ⟨b, rfl, hb⟩ := H1.out.some_at NodeD.cs_len (by decide) hlt
      obtain ⟨b', rfl, hb'⟩ := H2.out.some_at NodeD.cs_len (by decide) hlt
      obtain ⟨t, ht⟩ : ∃ t, l[i]? = some t := ⟨_, List.getElem?_eq_getElem hlt⟩
      obtain ⟨x0, x1, x2, x3, x4, x5, x6, x7⟩ := t
      have E1 := Lib.hid (show Cells w (b.add (i * 8)) [.int .i64 x0, .int .i64 x1, .string x2, .bool x3, .int .u64 x4, .int .u64 x5, .int .i64 x6, .int .i64 x7] from hb.elem NodeD.cs 8 NodeD.cs_len ht)
      have E2 := Lib.hid (show Cells w (b'.add (i * 8)) [.int .i64 x0, .int .i64 x1, .string x2, .bool x3, .int .u64 x4, .int .u64 x5, .int .i64 x6, .int .i64 x7] from hb'.elem NodeD.cs 8 NodeD.cs_len ht)
      have hlt3 := Lib.hid (show i + 1 ≤ l.length from hlt)
      have d1 : decide ((i : Int) < l.length) = true := decide_eq_true (by omega)
      clear hb hb' ht
      go_wp2_with fail
      refine wp_region_mem (by kernel_rfl) (by kernel_rfl) HM.out ?_; intro hNE; (repeat (any_goals (first | ((with_reducible refine qgd ?_); (with_reducible refine skip_q ?_ ?_ ?_); (exact rfl); (rotate_left; (exact (hNE.elim fun p => ⟨p.W, p, rfl⟩)))) | ((with_reducible refine qnilCheck ?_); (refine qnil rfl ?_)) | ((with_reducible refine qat 19 ?_); (refine qixa rfl rfl rfl hlt ?_)) | ((with_reducible refine qat 23 ?_); (refine qixa rfl rfl rfl hlt ?_)) | ((with_reducible refine qat 20 ?_); (refine qdA (vs := [.int .i64 x0, .int .i64 x1, .string x2, .bool x3, .int .u64 x4, .int .u64 x5, .int .i64 x6, .int .i64 x7]) rfl rfl (fun W ⟨q, hq⟩ => hq ▸ q.mem.olds E1.out) ?_)) | ((with_reducible refine qat 24 ?_); (refine qdA (vs := [.int .i64 x0, .int .i64 x1, .string x2, .bool x3, .int .u64 x4, .int .u64 x5, .int .i64 x6, .int .i64 x7]) rfl rfl (fun W ⟨q, hq⟩ => hq ▸ q.mem.olds E2.out) ?_)) | go_big_quiet_step (fail) | quiet_step (fail)))); clear hNE; refine wpQuiet_nil ?_; intro W1 HM1; replace HM := Lib.hid HM1; clear HM1
      go_wp2
      go_roundw
      case rel => exact ⟨i + 1, by go_num, hlt3.out, HM⟩
      case measure => have := hlt3.out; simp [intOf]; omega
    · obtain rfl : i = l.length := by omega
      have d1 : decide ((l.length : Int) < l.length) = false := by simp
      go_wp2
      go_ret
      exact ⟨rfl, HM.out.below⟩
set_option maxHeartbeats 8000000 in
theorem checkApart_walk (p : Option Addr) (c : Nat) (ns : List NodeD) (q : Option Addr) (c2 : Nat) (l : List SymD) (s : ByteArray) (w : World) (hN : Sl w p (ns.flatMap NodeD.cs)) (hwf : ∀ (i : Nat) (n : NodeD), ns[i]? = some n → n.wf) (hl : ns.length ≤ 1048576) (hL : Sl w q (l.flatMap SymD.cs)) (hl2 : l.length ≤ 1048576) (hT : U8 w) :
    Calls Tryd.prog 6 #[.slice p ns.length c, .slice q l.length c2, .string s] w fun e w' => e = .returned (.bool true) ∧ Below w.heap.size w w' := by
  have HM := Lib.hid (Mem.start w)
  have HN := Lib.hid hN
  have HL := Lib.hid hL
  have HT := Lib.hid hT
  obtain ⟨N, hNl⟩ : ∃ N, ns.length = N := ⟨_, rfl⟩
  obtain ⟨S, hSl⟩ : ∃ S, l.length = S := ⟨_, rfl⟩
  obtain ⟨N3, hN3⟩ : ∃ N3, N + 3 = N3 := ⟨_, rfl⟩
  obtain ⟨S3, hS3⟩ : ∃ S3, S + 3 = S3 := ⟨_, rfl⟩
  obtain ⟨av, hav⟩ : ∃ av, (ns ++ List.replicate 3 zN).flatMap NodeD.cs = av := ⟨_, rfl⟩
  obtain ⟨bv, hbv⟩ : ∃ bv, (l ++ List.replicate 3 zS).flatMap SymD.cs = bv := ⟨_, rfl⟩
  have zNc : zN.cs = [.int .i64 0, .int .i64 0, .string ⟨#[]⟩, .bool false, .int .u64 0, .int .u64 0, .int .i64 0, .int .i64 0] := rfl
  have zSc : zS.cs = [.string ⟨#[]⟩, .int .i64 0, .int .i64 0] := rfl
  obtain ⟨fa, hfa⟩ : ∃ fa, (List.replicate N3 [(.int .i64 0 : Value), .int .i64 0, .string ⟨#[]⟩, .bool false, .int .u64 0, .int .u64 0, .int .i64 0, .int .i64 0]).flatten = fa := ⟨_, rfl⟩
  obtain ⟨fb, hfb⟩ : ∃ fb, (List.replicate S3 [(.string ⟨#[]⟩ : Value), .int .i64 0, .int .i64 0]).flatten = fb := ⟨_, rfl⟩
  have HA := Lib.hid (show ns.flatMap NodeD.cs ++ fa.drop (ns.flatMap NodeD.cs).length = av by
    rw [← hfa, ← hav, ← fill_flat NodeD.cs 8 NodeD.cs_len ns zN 3, zNc, hNl, hN3])
  have HB := Lib.hid (show l.flatMap SymD.cs ++ fb.drop (l.flatMap SymD.cs).length = bv by
    rw [← hfb, ← hbv, ← fill_flat SymD.cs 3 SymD.cs_len l zS 3, zSc, hSl, hS3])
  have HFa := Lib.hid hfa
  have HFb := Lib.hid hfb
  have HAl := Lib.hid (show (ns.flatMap NodeD.cs).length = N * 8 by rw [flat_len NodeD.cs 8 NodeD.cs_len, hNl])
  have HBl := Lib.hid (show (l.flatMap SymD.cs).length = S * 3 by rw [flat_len SymD.cs 3 SymD.cs_len, hSl])
  have HA1 := Lib.hid (show ∀ u, u ∈ ns.flatMap NodeD.cs → u.oneCell' = true from fun u hu => by
    obtain ⟨n, _, hn⟩ := List.mem_flatMap.1 hu
    simp only [NodeD.cs, List.mem_cons, List.not_mem_nil, or_false] at hn
    rcases hn with rfl | rfl | rfl | rfl | rfl | rfl | rfl | rfl <;> rfl)
  have HB1 := Lib.hid (show ∀ u, u ∈ l.flatMap SymD.cs → u.oneCell' = true from fun u hu => by
    obtain ⟨n, _, hn⟩ := List.mem_flatMap.1 hu
    simp only [SymD.cs, List.mem_cons, List.not_mem_nil, or_false] at hn
    rcases hn with rfl | rfl | rfl <;> rfl)
  have HA2 := Lib.hid (show (ns.flatMap NodeD.cs).length ≤ fa.length by
    rw [HAl.out, ← hfa, List.length_flatten, List.map_replicate, List.sum_replicate_nat]; show N * 8 ≤ N3 * 8; omega)
  have HB2 := Lib.hid (show (l.flatMap SymD.cs).length ≤ fb.length by
    rw [HBl.out, ← hfb, List.length_flatten, List.map_replicate, List.sum_replicate_nat]; show S * 3 ≤ S3 * 3; omega)
  have HAv := Lib.hid hav.symm
  have HBv := Lib.hid hbv.symm
  have HAz := Lib.hid (show ∀ i, N ≤ i → i < N3 → (ns ++ List.replicate 3 zN)[i]? = some zN from fun i h1 h2 => rep_at ns zN 3 i (by omega) (by omega))
  have HBz := Lib.hid (show ∀ i, S ≤ i → i < S3 → (l ++ List.replicate 3 zS)[i]? = some zS from fun i h1 h2 => rep_at l zS 3 i (by omega) (by omega))
  have HBs := Lib.hid (show ∀ i x, l[i]? = some x → (l ++ List.replicate 3 zS)[i]? = some x from fun i x h => by rw [List.getElem?_append_left (List.getElem?_eq_some_iff.1 h).1]; exact h)
  have HSi := Lib.hid (show ∀ i, i < S → ∃ x, l[i]? = some x from fun i h => ⟨_, List.getElem?_eq_getElem (by omega)⟩)
  have HSa := Lib.hid (show ∀ i, i < S → ∃ a, q = some a ∧ Cells w a (l.flatMap SymD.cs) from fun i h => hL.some_at SymD.cs_len (by decide) (by omega : i < l.length))
  obtain ⟨⟨⟨rk, ro⟩, re⟩, hre⟩ : ∃ r, exprF ns l = r := ⟨_, rfl⟩
  obtain ⟨rt, hrt⟩ : ∃ r, testsF ns ⟨0, 0⟩ l = r := ⟨_, rfl⟩
  have HEx := Lib.hid (fun (gN gS : Nat) (W : World) (h1 : Sl W (some ⟨gN, 0, none⟩) (ns.flatMap NodeD.cs)) (h2 : Sl W (some ⟨gS, 0, none⟩) (l.flatMap SymD.cs)) (h3 : U8 W) => (show Calls Tryd.prog 12 #[.slice (some ⟨gN, 0, none⟩) N N3, .slice (some ⟨gS, 0, none⟩) S S3] W fun e w' => e = .returned (.tuple #[.agg #[.int .i64 rk, .int .i64 ro], .int .i64 re]) ∧ Below W.heap.size W w' from by
    have h := cExpr_any (some ⟨gN, 0, none⟩) N3 ns (some ⟨gS, 0, none⟩) S3 l W h1 hwf (by omega) h2 (by omega) h3
    rw [hre, hNl, hSl] at h
    exact h))
  have HTs := Lib.hid (fun (gN gS : Nat) (W : World) (h1 : Sl W (some ⟨gN, 0, none⟩) (ns.flatMap NodeD.cs)) (h2 : Sl W (some ⟨gS, 0, none⟩) (l.flatMap SymD.cs)) (h3 : U8 W) => (show Calls Tryd.prog 13 #[.slice (some ⟨gN, 0, none⟩) N N3, .agg #[.int .i64 0, .int .i64 0], .slice (some ⟨gS, 0, none⟩) S S3] W fun e w' => e = .returned (.int .i64 rt) ∧ Below W.heap.size W w' from by
    have h := cTests_any (some ⟨gN, 0, none⟩) N3 ns 0 0 (some ⟨gS, 0, none⟩) S3 l W h1 hwf (by omega) h2 (by omega) h3
    rw [hrt, hNl, hSl] at h
    exact h))
  have HSm := Lib.hid (fun (gN : Nat) (W : World) (h1 : Sl W (some ⟨gN, 0, none⟩) (ns.flatMap NodeD.cs)) (h2 : Sl W p (ns.flatMap NodeD.cs)) => (show Calls Tryd.prog 15 #[.slice (some ⟨gN, 0, none⟩) N N3, .slice p N c] W fun e w' => e = .returned (.bool true) ∧ Below W.heap.size W w' from by
    have h := rSame_any (some ⟨gN, 0, none⟩) p N3 c ns W h1 h2 (by omega)
    rw [hNl] at h
    exact h))
  obtain ⟨ts, hts⟩ : ∃ ts, fnTs (fnF s.toList) = ts := ⟨_, rfl⟩
  obtain ⟨⟨gk, gy⟩, hgk⟩ : ∃ t, fnTy (fnF s.toList) = t := ⟨_, rfl⟩
  obtain ⟨ge, hge⟩ : ∃ t, fnEr (fnF s.toList) = t := ⟨_, rfl⟩
  obtain ⟨n, hn⟩ : ∃ n, ts.length = n := ⟨_, rfl⟩
  obtain ⟨tv, htv⟩ : ∃ tv, ts.flatMap TyD.cs = tv := ⟨_, rfl⟩
  have hn4 : n ≤ 4 := by rw [← hn, ← hts]; exact fnTs_len _
  have HTv := Lib.hid (show tv.length = n * 2 by rw [← htv, flat_len TyD.cs 2 TyD.cs_len, hn])
  have HFn := Lib.hid (fun W => (show Calls Tryd.prog 9 #[.string s] W fun e w' => ∃ q, e = .returned (.tuple #[.slice q n n, .agg #[.int .i64 gk, .int .i64 gy], .int .i64 ge]) ∧ Mem W w' [.row q n 25 2 n tv] from
    (function_any s W).mono fun e w' h => by have h := fn_post h; rw [hts, hgk, hge, hn, htv] at h; exact h))
  have HDn := Lib.hid (fun W => (show Calls Tryd.prog 8 #[.string s] W fun e w' => ∃ q, e = .returned (.tuple #[.slice q n n, .agg #[.int .i64 gk, .int .i64 gy], .int .i64 ge]) ∧ Mem W w' [.row q n 25 2 n tv] from
    (docFn_any s W).mono fun e w' h => by have h := fn_post h; rw [hts, hgk, hge, hn, htv] at h; exact h))
  have HSt := Lib.hid (fun (B1 B2 : Nat) (q1 q2 : Option Addr) (W : World) (h1 : (Res.row q1 n 25 2 n tv).holds B1 W) (h2 : (Res.row q2 n 25 2 n tv).holds B2 W) => (show Calls Tryd.prog 10 #[.slice q1 n n, .slice q2 n n] W fun e w' => e = .returned (.bool true) ∧ Below W.heap.size W w' from by
    rw [← hn, ← htv] at h1 h2
    have h := same_any q1 q2 ts.length ts.length ts W (sl_row TyD.cs 2 TyD.cs_len h1) (sl_row TyD.cs 2 TyD.cs_len h2) (by omega)
    rw [hn] at h
    exact h))
  have HN3 := Lib.hid hN3
  have HS3 := Lib.hid hS3
  have hNb : N ≤ 1048576 := by omega
  have hN3b : N3 ≤ 1048580 := by omega
  have hS3b : S3 ≤ 1048580 := by omega
  have hSb : S ≤ 1048576 := by omega
  have HN4 := Lib.hid (show ((N : Int) + 3) = (N3 : Int) by omega)
  have HS4 := Lib.hid (show ((S : Int) + 3) = (S3 : Int) by omega)
  have HN5 := Lib.hid (show 72 * N3 ≤ 140737488355328 ∧ N3 ≤ 9223372036854775807 ∧ N ≤ N3 by omega)
  have HS5 := Lib.hid (show 32 * S3 ≤ 140737488355328 ∧ S3 ≤ 9223372036854775807 ∧ S ≤ S3 by omega)
  rw [hNl, hSl]
  clear hN hL hT hwf hre hrt hts hgk hge hn htv hav hbv zNc zSc hfa hfb hNl hSl hl hl2 hN3 hS3
  go_enter Tryd.func6, Tryd.ntmps6
  go_wp2_with (first | (go_at_call 7; (with_reducible refine (known_any _ (U8.below HT.out HM.out.below)).mono ?_); rintro e W1 ⟨rfl, hb⟩; replace HM := Lib.hid (HM.out.next hb); clear hb) | ((with_reducible refine iat 28 ?_); (refine mkcap (cs := [.int .i64 0, .int .i64 0, .string ⟨#[]⟩, .bool false, .int .u64 0, .int .u64 0, .int .i64 0, .int .i64 0]) (n := N3) rfl HM.out rfl rfl rfl HN4.out rfl HN5.out.1 HN5.out.2.1 ?_; intro gN W2 HM1; rw [HFa.out] at HM1; clear HM; (try clear W1); rename World => W1; have HM := Lib.hid HM1; clear HM1)) | ((with_reducible refine iat 34 ?_); (refine mkcap (cs := [.string ⟨#[]⟩, .int .i64 0, .int .i64 0]) (n := S3) rfl HM.out rfl rfl rfl HS4.out rfl HS5.out.1 HS5.out.2.1 ?_; intro gS W2 HM1; rw [HFb.out] at HM1; clear HM; (try clear W1); rename World => W1; have HM := Lib.hid HM1; clear HM1)) | ((with_reducible refine iat 30 ?_); (refine appin rfl HM.out 0 rfl rfl rfl (HM.out.sl HN.out) HAl.out HA1.out HN5.out.2.2 HA2.out ?_; intro W2 HM1; rw [HA.out] at HM1; clear HM; (try clear W1); rename World => W1; have HM := Lib.hid HM1; clear HM1; simp only [List.set] at HM)) | ((with_reducible refine iat 36 ?_); (refine appin rfl HM.out 0 rfl rfl rfl (HM.out.sl HL.out) HBl.out HB1.out HS5.out.2.2 HB2.out ?_; intro W2 HM1; rw [HB.out] at HM1; clear HM; (try clear W1); rename World => W1; have HM := Lib.hid HM1; clear HM1; simp only [List.set] at HM)) | (go_at_call 12; (with_reducible refine (HEx.out _ _ _ (sl_pre (HM.out.holds _ (List.mem_cons_of_mem _ (List.mem_cons_self ..))) HA.out.symm) (sl_pre (HM.out.holds _ (List.mem_cons_self ..)) HB.out.symm) (U8.below HT.out HM.out.below)).mono ?_); rintro e W1 ⟨rfl, hb⟩; replace HM := Lib.hid (HM.out.next hb); clear hb) | (go_at_call 13; (with_reducible refine (HTs.out _ _ _ (sl_pre (HM.out.holds _ (List.mem_cons_of_mem _ (List.mem_cons_self ..))) HA.out.symm) (sl_pre (HM.out.holds _ (List.mem_cons_self ..)) HB.out.symm) (U8.below HT.out HM.out.below)).mono ?_); rintro e W1 ⟨rfl, hb⟩; replace HM := Lib.hid (HM.out.next hb); clear hb))
  refine wp_region_mem (by kernel_rfl) (by kernel_rfl) HM.out ?_; intro hNE; (repeat (any_goals (first | ((with_reducible refine qgd ?_); (with_reducible refine skip_q ?_ ?_ ?_); (exact rfl); (rotate_left; (exact (hNE.elim fun p => ⟨p.W, p, rfl⟩)))) | ((with_reducible refine qnilCheck ?_); (refine qnil rfl ?_)) | ((with_reducible refine qat 47 ?_); (refine qslt rfl rfl rfl (Nat.le_refl _) ?_)) | ((with_reducible refine qat 51 ?_); (refine qslt rfl rfl rfl (Nat.le_refl _) ?_)) | go_big_quiet_step (fail) | quiet_step (fail)))); clear hNE; refine wpQuiet_nil ?_; intro W1 HM1; replace HM := Lib.hid HM1; clear HM1
  go_wp2_with fail
  go_loopw [11] (fun iv wr => ∃ i : Nat, iv = .int .i64 i ∧ N ≤ i ∧ i ≤ N3 ∧ Hid (Mem w wr [.box gS 46 bv, .box gN 44 av])) (fun iv _ => N3 - (intOf iv).toNat)
  case atStart => exact ⟨N, rfl, Nat.le_refl _, HN5.out.2.2, HM⟩
  case round =>
    clear HM
    obtain ⟨i, rfl, hi0, hi, HM⟩ := hrel
    by_cases hlt : i < N3
    · have E1 := Lib.hid (box_el NodeD.cs 8 NodeD.cs_len (HM.out.holds _ (List.mem_cons_of_mem _ (List.mem_cons_self ..))) HAv.out (HAz.out i hi0 hlt))
      have hlt3 := Lib.hid (show i + 1 ≤ N3 from hlt)
      have hi3 := Lib.hid (show N ≤ i + 1 from by omega)
      have d1 : decide ((i : Int) < N3) = true := decide_eq_true (by omega)
      go_wp2_with (first | ((with_reducible refine iat 62 ?_); (refine ixa rfl rfl rfl hlt ?_)) | ((with_reducible refine iat 63 ?_); (refine ldxW (vs := [.int .i64 0, .int .i64 0, .string ⟨#[]⟩, .bool false, .int .u64 0, .int .u64 0, .int .i64 0, .int .i64 0]) E1.out rfl rfl ?_)))
      go_roundw
      case rel => exact ⟨i + 1, by go_num, hi3.out, hlt3.out, HM⟩
      case measure => have := hlt3.out; simp [intOf]; omega
    · obtain rfl : i = N3 := by omega
      have d1 : decide ((i : Int) < i) = false := by simp
      go_wp2
      go_loopw [12] (fun iv wr => ∃ k : Nat, iv = .int .i64 k ∧ k ≤ S3 ∧ Hid (Mem w wr [.box gS 46 bv, .box gN 44 av])) (fun iv _ => S3 - (intOf iv).toNat)
      case atStart => exact ⟨0, rfl, Nat.zero_le _, HM⟩
      case round =>
        clear HM
        obtain ⟨k, rfl, hk, HM⟩ := hrel
        by_cases hkt : k < S3
        · have hlt3 := Lib.hid (show k + 1 ≤ S3 from hkt)
          have d2 : decide ((k : Int) < S3) = true := decide_eq_true (by omega)
          by_cases hks : k < S
          · obtain ⟨⟨x0, x1, x2⟩, hx⟩ := HSi.out k hks
            obtain ⟨b, rfl, hb⟩ := HSa.out k hks
            have E1 := Lib.hid (fun (W : World) (h : (Res.box gS 46 bv).holds w.heap.size W) => show Cells W ((⟨gS, 0, none⟩ : Addr).add (k * 3)) [.string x0, .int .i64 x1, .int .i64 x2] from box_el SymD.cs 3 SymD.cs_len h HBv.out (HBs.out k _ hx))
            have E2 := Lib.hid (show Cells w (b.add (k * 3)) [.string x0, .int .i64 x1, .int .i64 x2] from hb.elem SymD.cs 3 SymD.cs_len hx)
            have d3 : decide ((k : Int) < S) = true := decide_eq_true (by omega)
            have d4 : decide (S ≤ k) = false := decide_eq_false (by omega)
            clear hb hx
            go_wp2_with fail
            refine wp_region_mem (by kernel_rfl) (by kernel_rfl) HM.out ?_; intro hNE; (repeat (any_goals (first | ((with_reducible refine qgd ?_); (with_reducible refine skip_q ?_ ?_ ?_); (exact rfl); (rotate_left; (exact (hNE.elim fun p => ⟨p.W, p, rfl⟩)))) | ((with_reducible refine qnilCheck ?_); (refine qnil rfl ?_)) | ((with_reducible refine qat 79 ?_); (refine qixa rfl rfl rfl hkt ?_)) | ((with_reducible refine qat 83 ?_); (refine qixa rfl rfl rfl hks ?_)) | ((with_reducible refine qat 80 ?_); (refine qdA (vs := [.string x0, .int .i64 x1, .int .i64 x2]) rfl rfl (fun W ⟨q, hq⟩ => hq ▸ E1.out _ (q.mem.holds _ (List.mem_cons_self ..))) ?_)) | ((with_reducible refine qat 84 ?_); (refine qdA (vs := [.string x0, .int .i64 x1, .int .i64 x2]) rfl rfl (fun W ⟨q, hq⟩ => hq ▸ q.mem.olds E2.out) ?_)) | go_big_quiet_step (fail) | quiet_step (fail)))); clear hNE; refine wpQuiet_nil ?_; intro W1 HM1; replace HM := Lib.hid HM1; clear HM1
            go_wp2
            go_roundw
            case rel => exact ⟨k + 1, by go_num, hlt3.out, HM⟩
            case measure => have := hlt3.out; simp [intOf]; omega
          · have E1 := Lib.hid (fun (W : World) (h : (Res.box gS 46 bv).holds w.heap.size W) => show Cells W ((⟨gS, 0, none⟩ : Addr).add (k * 3)) [.string ⟨#[]⟩, .int .i64 0, .int .i64 0] from box_el SymD.cs 3 SymD.cs_len h HBv.out (HBz.out k (by omega) hkt))
            have d3 : decide ((k : Int) < S) = false := decide_eq_false (by omega)
            have d4 : decide (S ≤ k) = true := decide_eq_true (by omega)
            go_wp2_with fail
            refine wp_region_mem (by kernel_rfl) (by kernel_rfl) HM.out ?_; intro hNE; (repeat (any_goals (first | ((with_reducible refine qgd ?_); (with_reducible refine skip_q ?_ ?_ ?_); (exact rfl); (rotate_left; (exact (hNE.elim fun p => ⟨p.W, p, rfl⟩)))) | ((with_reducible refine qnilCheck ?_); (refine qnil rfl ?_)) | ((with_reducible refine qat 95 ?_); (refine qixa rfl rfl rfl hkt ?_)) | ((with_reducible refine qat 96 ?_); (refine qdA (vs := [.string ⟨#[]⟩, .int .i64 0, .int .i64 0]) rfl rfl (fun W ⟨q, hq⟩ => hq ▸ E1.out _ (q.mem.holds _ (List.mem_cons_self ..))) ?_)) | go_big_quiet_step (fail) | quiet_step (fail)))); clear hNE; refine wpQuiet_nil ?_; intro W1 HM1; replace HM := Lib.hid HM1; clear HM1
            go_wp2
            go_roundw
            case rel => exact ⟨k + 1, by go_num, hlt3.out, HM⟩
            case measure => have := hlt3.out; simp [intOf]; omega
        · obtain rfl : k = S3 := by omega
          have d2 : decide ((k : Int) < k) = false := by simp
          go_wp2_with (first | (go_at_call 9; (with_reducible refine (HFn.out _).mono ?_); rintro e W2 ⟨q1, rfl, hM2⟩; have HM1 := Lib.hid (HM.out.comp hM2); clear HM hM2; simp only [List.cons_append, List.nil_append] at HM1; (try clear W1); rename World => W1; have HM := HM1; clear HM1) | ((with_reducible refine igd ?_); (with_reducible refine skip_op ?_ ?_); (exact rfl)) | ((with_reducible refine iload ?_); first | refine ldbW HM.out 0 rfl rfl rfl ?_ | refine ldbW HM.out 1 rfl rfl rfl ?_ | refine ldbW HM.out 2 rfl rfl rfl ?_ | ((first | refine ldbS HM.out 0 rfl rfl rfl ?_ | refine ldbS HM.out 1 rfl rfl rfl ?_ | refine ldbS HM.out 2 rfl rfl rfl ?_); simp only [List.take, List.drop])) | ((with_reducible refine istore ?_); (first | ((first | refine stb1 (v := .int _ _) rfl HM.out 0 rfl rfl rfl rfl rfl ?_ | refine stb1 (v := .int _ _) rfl HM.out 1 rfl rfl rfl rfl rfl ?_ | refine stb1 (v := .int _ _) rfl HM.out 2 rfl rfl rfl rfl rfl ?_ | refine stbW rfl HM.out 0 rfl rfl rfl rfl rfl rfl ?_ | refine stbW rfl HM.out 1 rfl rfl rfl rfl rfl rfl ?_ | refine stbW rfl HM.out 2 rfl rfl rfl rfl rfl rfl ?_); intro W1 HM1; replace HM := Lib.hid HM1; clear HM1; simp only [List.set] at HM) | ((first | refine stbS rfl HM.out 0 rfl rfl rfl rfl rfl rfl ?_ | refine stbS rfl HM.out 1 rfl rfl rfl rfl rfl rfl ?_ | refine stbS rfl HM.out 2 rfl rfl rfl rfl rfl rfl ?_); intro W1 HM1; replace HM := Lib.hid HM1; clear HM1; simp only [lss, Nat.reduceAdd] at HM))) | ((with_reducible refine ialloc (d := some 14) ?_); refine alb rfl HM.out ?_; intro g14 W1 HM1; replace HM := Lib.hid HM1; clear HM1) | ((with_reducible refine ialloc ?_); refine alb rfl HM.out ?_; intro g1 W1 HM1; replace HM := Lib.hid HM1; clear HM1))
          go_loopw [16] (fun iv wr => ∃ (j : Nat) (cv : List Value), iv = .int .i64 j ∧ j ≤ n ∧ Hid (cv.length = n * 2) ∧ Hid (Mem w wr [.box g14 25 [.int .i64 gk, .int .i64 gy], .row q1 n 25 2 n cv, .box gS 46 bv, .box gN 44 av])) (fun iv _ => n - (intOf iv).toNat)
          case atStart => exact ⟨0, tv, rfl, Nat.zero_le _, HTv, HM⟩
          case round =>
            clear HM
            obtain ⟨j, cv, rfl, hj, HC, HM⟩ := hrel
            by_cases hjt : j < n
            · obtain ⟨b, rfl⟩ := row_some (HM.out.holds _ (List.mem_cons_of_mem _ (List.mem_cons_self ..))) (by omega)
              have hlt3 := Lib.hid (show j + 1 ≤ n from hjt)
              have hji := Lib.hid (show j * 2 < cv.length by rw [HC.out]; omega)
              have d5 : decide ((j : Int) < n) = true := decide_eq_true (by omega)
              go_wp2_with (first | ((with_reducible refine iat 115 ?_); (refine ixa rfl rfl rfl hjt ?_)) | ((with_reducible refine istore ?_); (refine strw (v := .int .i64 77) (i := j * 2) rfl HM.out 1 rfl (by first | rfl | (rw [add_none, Nat.zero_add]; rfl)) rfl rfl hji.out ?_; intro W1 HM1; replace HM := Lib.hid HM1; clear HM1; simp only [List.set] at HM)))
              go_roundw
              case rel => exact ⟨j + 1, cv.set (j * 2) (.int .i64 77), by go_num, hlt3.out, Lib.hid (by rw [List.length_set]; exact HC.out), HM⟩
              case measure => have := hlt3.out; simp [intOf]; omega
            · obtain rfl : j = n := by omega
              have d5 : decide ((j : Int) < j) = false := by simp
              go_wp2_with (first | (go_at_call 9; (with_reducible refine (HFn.out _).mono ?_); rintro e W2 ⟨q2, rfl, hM2⟩; have HM1 := Lib.hid (HM.out.comp hM2); clear HM hM2; simp only [List.cons_append, List.nil_append] at HM1; (try clear W1); rename World => W1; have HM := HM1; clear HM1) | (go_at_call 8; (with_reducible refine (HDn.out _).mono ?_); rintro e W2 ⟨q3, rfl, hM2⟩; have HM1 := Lib.hid (HM.out.comp hM2); clear HM hM2; simp only [List.cons_append, List.nil_append] at HM1; (try clear W1); rename World => W1; have HM := HM1; clear HM1) | (go_at_call 15; (with_reducible refine (HSm.out _ _ (sl_pre (HM.out.get (k := 7) rfl) HA.out.symm) (HM.out.sl HN.out)).mono ?_); rintro e W1 ⟨rfl, hb⟩; replace HM := Lib.hid (HM.out.next hb); clear hb) | (go_at_call 10; (with_reducible refine (HSt.out _ _ _ _ _ (HM.out.get (k := 3) rfl) (HM.out.get (k := 1) rfl)).mono ?_); rintro e W1 ⟨rfl, hb⟩; replace HM := Lib.hid (HM.out.next hb); clear hb) | ((with_reducible refine igd ?_); (with_reducible refine skip_op ?_ ?_); (exact rfl)) | ((with_reducible refine iload ?_); first | refine ldbW HM.out 0 rfl rfl rfl ?_ | refine ldbW HM.out 1 rfl rfl rfl ?_ | ((first | refine ldbS HM.out 0 rfl rfl rfl ?_ | refine ldbS HM.out 1 rfl rfl rfl ?_); simp only [List.take, List.drop])) | ((with_reducible refine istore ?_); (first | ((first | refine stb1 (v := .int _ _) rfl HM.out 0 rfl rfl rfl rfl rfl ?_ | refine stb1 (v := .int _ _) rfl HM.out 1 rfl rfl rfl rfl rfl ?_ | refine stbW rfl HM.out 0 rfl rfl rfl rfl rfl rfl ?_ | refine stbW rfl HM.out 1 rfl rfl rfl rfl rfl rfl ?_); intro W1 HM1; replace HM := Lib.hid HM1; clear HM1; simp only [List.set] at HM) | ((first | refine stbS rfl HM.out 0 rfl rfl rfl rfl rfl rfl ?_ | refine stbS rfl HM.out 1 rfl rfl rfl rfl rfl rfl ?_); intro W1 HM1; replace HM := Lib.hid HM1; clear HM1; simp only [lss, Nat.reduceAdd] at HM))) | ((with_reducible refine ialloc (d := some 18) ?_); refine alb rfl HM.out ?_; intro g18 W1 HM1; replace HM := Lib.hid HM1; clear HM1) | ((with_reducible refine ialloc (d := some 21) ?_); refine alb rfl HM.out ?_; intro g21 W1 HM1; replace HM := Lib.hid HM1; clear HM1) | ((with_reducible refine ialloc ?_); refine alb rfl HM.out ?_; intro g1 W1 HM1; replace HM := Lib.hid HM1; clear HM1))
              go_ret
              exact ⟨rfl, HM.out.below⟩
end Go.Proofs.YtpjcjgikfplgnaaDoor
