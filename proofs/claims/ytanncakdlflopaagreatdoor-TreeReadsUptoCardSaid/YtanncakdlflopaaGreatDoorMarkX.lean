/- The reference of mark: open. (short) -/
import Derived.Test.YtanncakdlflopaaGreatDoorMarkT
import Derived.Test.YtanncakdlflopaaGreatDoorMarkV
namespace Go.Proofs.YtanncakdlflopaaGreatDoor
open Go.RowKit
set_option linter.unusedVariables false
set_option linter.unusedSimpArgs false
set_option maxRecDepth 100000

/-- What the reference answers of a piece. -/
def EVPost (r : Option (List EvD × Nat)) (w0 : World) (e : Ending) (w' : World) : Prop :=
  match r with
  | none => e = .returned (.tuple #[.slice none 0 0, .int .i64 (-1)]) ∧ Below w0.heap.size w0 w'
  | some (l, j) => ∃ (ms : List EvM) (p : Option Addr) (c : Nat), outD ms = l ∧ ms.length ≤ 2 ∧ e = .returned (.tuple #[.slice p ms.length c, .int .i64 j]) ∧ Mem w0 w' (.row p c 57 4 ms.length (outC ms) :: outR ms)
theorem ev_none {r : Option (List EvD × Nat)} {w0 w' : World} (h : none = r) (hb : Below w0.heap.size w0 w') : EVPost r w0 (.returned (.tuple #[.slice none 0 0, .int .i64 (-1)])) w' := by
  subst h; exact ⟨rfl, hb⟩
theorem ev_some {r : Option (List EvD × Nat)} {w0 w' : World} {l : List EvD} {j : Nat} (h : some (l, j) = r) (ms : List EvM) {p : Option Addr} {c : Nat} {x : Int} (hx : x = (j : Int)) (hd : outD ms = l) (hl : ms.length ≤ 2) (hM : Mem w0 w' (.row p c 57 4 ms.length (outC ms) :: outR ms)) : EVPost r w0 (.returned (.tuple #[.slice p ms.length c, .int .i64 x])) w' := by
  subst h hx; exact ⟨ms, p, c, hd, hl, rfl, hM⟩
theorem op_row1 {w0 W : World} {g : Nat} {L : List Res} {b : Res} {N : ByteArray} {acc : List AtD} {pa : Option Addr} {ca : Nat} (h : Mem w0 W (.box g 57 [.int .i64 1, .string N, .slice pa acc.length ca, .string ⟨#[]⟩] :: b :: .row pa ca 44 2 acc.length (acc.flatMap AtD.cs) :: L)) :
    Mem w0 W (.row (some ⟨g, 0, none⟩) 1 57 4 [(⟨evOpen N acc, pa, ca⟩ : EvM)].length (outC [⟨evOpen N acc, pa, ca⟩]) :: outR [⟨evOpen N acc, pa, ca⟩]) :=
  (h.boxrow (k := 0) (j := 4) (n := 1) rfl rfl (by decide)).sub (.cons_cons _ (.cons _ (.cons_cons _ (List.nil_sublist _))))
theorem op_row2 {w0 W : World} {g : Nat} {L : List Res} {b : Res} {N : ByteArray} {acc : List AtD} {pa : Option Addr} {ca : Nat} (h : Mem w0 W (.box g 57 [.int .i64 1, .string N, .slice pa acc.length ca, .string ⟨#[]⟩, .int .i64 2, .string N, .slice none 0 0, .string ⟨#[]⟩] :: b :: .row pa ca 44 2 acc.length (acc.flatMap AtD.cs) :: L)) :
    Mem w0 W (.row (some ⟨g, 0, none⟩) 2 57 4 [(⟨evOpen N acc, pa, ca⟩ : EvM), evM (evClose N)].length (outC [⟨evOpen N acc, pa, ca⟩, evM (evClose N)]) :: outR [⟨evOpen N acc, pa, ca⟩, evM (evClose N)]) := by
  have h1 := ((h.boxrow (k := 0) (j := 4) (n := 2) rfl rfl (by decide)).sub (L' := [.row (some ⟨g, 0, none⟩) 2 57 4 2 [.int .i64 1, .string N, .slice pa acc.length ca, .string ⟨#[]⟩, .int .i64 2, .string N, .slice none 0 0, .string ⟨#[]⟩], .row pa ca 44 2 acc.length (acc.flatMap AtD.cs)]) (.cons_cons _ (.cons _ (.cons_cons _ (List.nil_sublist _))))).row0 44 2
  exact h1.perm ((List.Perm.swap _ _ _).trans (.cons _ (List.Perm.swap _ _ _)))

set_option maxHeartbeats 8000000 in
theorem ropen_any (S : ByteArray) (i : Nat) (W : World) (r : Option (List EvD × Nat)) (hr : openF S i = r) (hi : i ≤ S.size) (hs : S.size ≤ 1048576) :
    Calls Tryz.prog 57 #[.string S, .int .i64 i] W (EVPost r W) := by
  have HM := Lib.hid (Mem.start W)
  unfold openF at hr
  obtain ⟨k0, hk0⟩ : ∃ k, insE S i = k := ⟨_, rfl⟩
  have e1 := insE_le hi
  rw [hk0] at hr e1
  obtain ⟨l0, l1⟩ := e1
  obtain ⟨N, hN⟩ : ∃ N, S.extract i k0 = N := ⟨_, rfl⟩
  have hnr : nameR S i = if nameM N then (k0 : Int) else -1 := by unfold nameR; rw [hk0, hN]
  rw [hN] at hr
  have HN := Lib.hid hN
  clear hk0 hN
  cases hnm : nameM N with
  | false =>
    rw [if_pos hnm] at hr
    have HR := Lib.hid hr
    rw [hnm] at hnr
    have hnr2 : nameR S i = -1 := hnr
    have HNm := Lib.hid (fun W => rname_is hnr2 hi hs W)
    clear hnm hnr hnr2 hr
    go_enter Tryz.func57, Tryz.ntmps57
    go_wp2_with fail
    refine (HNm.out _).mono ?_
    rintro e W2 ⟨rfl, rfl⟩
    go_wp2_with fail
    go_ret2
    exact ev_none HR.out HM.out.below
  | true =>
    rw [if_neg (by rw [hnm]; decide)] at hr
    obtain ⟨q, hq⟩ : ∃ q, attrsF S (S.size + 1) k0 [] = q := ⟨_, rfl⟩
    rw [hq] at hr
    have HR := Lib.hid hr
    rw [hnm] at hnr
    have hnr2 : nameR S i = (k0 : Int) := hnr
    have HNm := Lib.hid (fun W => rname_is hnr2 hi hs W)
    have HA0 := Lib.hid hq
    have q1 : decide ((k0 : Int) < 0) = false := decide_eq_false (by omega)
    clear hnm hnr hnr2 hr hq
    go_enter Tryz.func57, Tryz.ntmps57
    go_wp2_with fail
    refine (HNm.out _).mono ?_
    rintro e W2 ⟨rfl, rfl⟩
    go_wp2_with (first | ((with_reducible refine iat 19 ?_); (refine ssls rfl rfl (i := i) rfl rfl (j := k0) rfl l0 l1 ?_; rw [HN.out])) | refine mP ?_ | (refine mS ?_; clear HM; intro W1 HM) | (refine mL ?_; clear HM; intro g1 W1 HM) | (refine hal (dst := some 7) HM rfl ?_; clear HM; intro g7 W1 HM) | (refine hal HM rfl ?_; clear HM; intro g1 W1 HM))
    have HM0 := Lib.hid ((HM.out.row0 44 2).perm (List.Perm.swap _ _ _))
    clear HM
    go_loopw [6] (fun kv wr => ∃ (k f : Nat) (acc : List AtD) (pa : Option Addr) (ca : Nat), kv = .int .i64 k ∧ k ≤ S.size ∧ S.size - k < f ∧ acc.length ≤ k ∧ Hid (attrsF S f k acc = q) ∧ Hid (Mem W wr [.box g7 57 [.int .i64 1, .string N, .slice pa acc.length ca, .string ⟨#[]⟩], .row pa ca 44 2 acc.length (acc.flatMap AtD.cs)])) (fun kv _ => S.size - (intOf kv).toNat)
    case atStart => exact ⟨k0, S.size + 1, [], none, 0, rfl, l1, by omega, by simp, HA0, HM0⟩
    case round =>
      clear HM0 HA0
      obtain ⟨k, f, acc, pa, ca, rfl, hk, hf, hacc, HA, HM⟩ := hrel
      obtain ⟨f, rfl⟩ : ∃ g, f = g + 1 := ⟨f - 1, by omega⟩
      obtain ⟨a, ha⟩ : ∃ a, blkE S k = a := ⟨_, rfl⟩
      obtain ⟨l2, l3⟩ := blkE_le hk
      rw [ha] at l2 l3
      have HB := Lib.hid (fun W => rblanks_at ha hk hs W)
      have HAa := Lib.hid ha
      clear ha
      go_wp2_with fail
      refine (HB.out _).mono ?_
      rintro e W2 ⟨rfl, rfl⟩
      go_wp2_with fail
      cases h62 : atP [62] S a with
      | true =>
        have HQ := Lib.hid ((attrs_gt HAa.out h62).symm.trans HA.out)
        refine (rbegins_at (t := ⟨#[62]⟩) h62 l3 hs (by decide) _).mono ?_
        rintro e W2 ⟨rfl, rfl⟩
        clear h62
        as_aux_lemma =>
        go_wp2_with (first | refine mP ?_ | (refine mS ?_; clear HM; intro W1 HM) | (refine mL ?_; clear HM; intro g1 W1 HM) | (refine hal HM rfl ?_; clear HM; intro g1 W1 HM))
        go_ret2
        have hr := HR.out
        rw [← HQ.out] at hr
        exact ev_some hr [⟨evOpen N acc, pa, ca⟩] rfl rfl (by simp) (op_row1 HM.out)
      | false =>
        refine (rbegins_at (t := ⟨#[62]⟩) h62 l3 hs (by decide) _).mono ?_
        rintro e W2 ⟨rfl, rfl⟩
        go_wp2_with fail
        cases h47 : atP [47, 62] S a with
        | true =>
          have HQ := Lib.hid ((attrs_end HAa.out h62 h47).symm.trans HA.out)
          refine (rbegins_at (t := ⟨#[47, 62]⟩) h47 l3 hs (by decide) _).mono ?_
          rintro e W2 ⟨rfl, rfl⟩
          clear h62 h47
          as_aux_lemma =>
          go_wp2_with (first | (refine bs2E rfl HM.out rfl rfl ?_; intro g1 W1 HM1; replace HM := Lib.hid HM1; clear HM1) | refine mP ?_ | (refine mS ?_; clear HM; intro W1 HM) | (refine mL ?_; clear HM; intro g1 W1 HM) | (refine hal HM rfl ?_; clear HM; intro g1 W1 HM))
          go_ret2
          have hr := HR.out
          rw [← HQ.out] at hr
          exact ev_some hr [⟨evOpen N acc, pa, ca⟩, evM (evClose N)] rfl rfl (by simp) (op_row2 HM.out)
        | false =>
          refine (rbegins_at (t := ⟨#[47, 62]⟩) h47 l3 hs (by decide) _).mono ?_
          rintro e W2 ⟨rfl, rfl⟩
          by_cases hak : a = k
          · have ha2 := HAa.out
            subst hak
            have HQ := Lib.hid ((attrs_stop ha2 h62 h47).symm.trans HA.out)
            have b1 : ((a : Int) == a) = true := by simp
            clear h62 h47 ha2
            as_aux_lemma =>
            go_wp2_with fail
            go_ret2
            have hr := HR.out
            rw [← HQ.out] at hr
            exact ev_none hr HM.out.below
          · have b1 : ((a : Int) == k) = false := by simpa using (by omega : ¬ (a : Int) = k)
            have hlt : k < a := by omega
            cases hx : attrF S a with
            | none =>
              have HQ := Lib.hid ((attrs_none HAa.out h62 h47 hx).symm.trans HA.out)
              have HAt := Lib.hid (fun W => rattr_any S a W none hx l3 hs)
              clear h62 h47 hx hak
              as_aux_lemma =>
              go_wp2_with fail
              refine (HAt.out _).mono ?_
              rintro e W2 ⟨rfl, hb⟩
              have HM1 := Lib.hid (HM.out.next hb)
              clear HM hb
              have HM := HM1
              clear HM1
              go_wp2_with (first | refine mP ?_ | (refine mS ?_; clear HM; intro W1 HM) | (refine mL ?_; clear HM; intro g1 W1 HM) | (refine hal (dst := some 9) HM rfl ?_; clear HM; intro g9 W1 HM) | (refine hal HM rfl ?_; clear HM; intro g1 W1 HM))
              go_ret2
              have hr := HR.out
              rw [← HQ.out] at hr
              exact ev_none hr HM.out.below
            | some xj =>
              obtain ⟨⟨x1, x2⟩, j⟩ := xj
              have HQ := Lib.hid ((attrs_more HAa.out hlt h62 h47 hx).symm.trans HA.out)
              have hj := attrF_le l3 hx
              have HAt := Lib.hid (fun W => rattr_any S a W (some ((x1, x2), j)) hx l3 hs)
              have q2 : decide ((j : Int) < 0) = false := decide_eq_false (by omega)
              have HS := Lib.hid (ats_snoc acc (x1, x2))
              clear h62 h47 hx hak HA
              as_aux_lemma =>
              go_wp2_with fail
              refine (HAt.out _).mono ?_
              rintro e W2 ⟨rfl, hb⟩
              have HM1 := Lib.hid (HM.out.next hb)
              clear HM hb
              have HM := HM1
              clear HM1
              go_wp2_with (first | (refine apb rfl HM.out 3 0 rfl rfl rfl rfl rfl rfl (by omega) (by omega) (by omega) ?_; intro p1 cap1 W1 HM1; replace HM := Lib.hid HM1; clear HM1; simp only [List.set] at HM) | refine mP ?_ | (refine mS ?_; clear HM; intro W1 HM) | (refine mL ?_; clear HM; intro g1 W1 HM) | (refine hal (dst := some 9) HM rfl ?_; clear HM; intro g9 W1 HM) | (refine hal HM rfl ?_; clear HM; intro g1 W1 HM))
              go_roundw
              case rel => exact ⟨j, f, acc ++ [(x1, x2)], p1, cap1, rfl, hj.2, by omega, by rw [List.length_append]; simp; omega, HQ, Lib.hid (by rw [List.length_append, ← HS.out]; exact HM.out.sub (.cons _ (.cons _ (.refl _))))⟩
              case measure => simp [intOf]; omega
end Go.Proofs.YtanncakdlflopaaGreatDoor
