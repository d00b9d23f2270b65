/- WriteString of the generic Replacer of "\r\n" and "\r". (short) -/
import Derived.Test.YtfnodoepeiknhaaGreatDoorTriePlain
namespace Go.Proofs.YtfnodoepeiknhaaGreatDoor
open Go.RowKit
set_option linter.unusedVariables false
set_option linter.unusedSimpArgs false
set_option maxRecDepth 100000

theorem TrieAt.mem {w W : World} {L : List Res} {R T n m : Nat} (h : TrieAt w R T n m) (hm : Mem w W L) : TrieAt W R T n m :=
  ⟨hm.olds h.root, hm.olds h.tab, hm.olds h.one, hm.olds h.two⟩
theorem asw_method (d b : Nat) (w : World) : (method (d + 2) 230 (.pointer (some ⟨b, 0, none⟩)) "WriteString").run Tryz.prog w = .ok (201, .pointer (some ⟨b, 0, none⟩)) w := by kernel_rfl

section
variable {P : Program} {ops : Array Oper} {a : Act} {rest : List Oper} {K : Act → Prop} {C : World → Prop} {dst : Option Tmp} {ty0 : TypeId} {pos : String} {after : Array Edge} {gd : Option (Nat × Bool)}
theorem run_nilm {t : TypeId} {v : Value} {name : String} {x : Operand} (hx : a.eval x = .func (.method name) #[.iface t v] #[]) (hn : ∀ W, (nilAhead (P.types.size + Made.depth) t v name).run P W = .ok (some false) W) (W : World) : (execOp a.eval (⟨dst, .nilCheck x, ty0, pos, after, gd⟩ : Oper)).run P W = .ok (.value (.func (.method name) #[.iface t v] #[])) W := by
  have hp : ∀ W, (program : Sem Program).run P W = .ok P W := fun _ => rfl
  simp [execOp, hx, Sem.run_bind, hp, hn]
theorem qnf {x : Operand} {t : TypeId} {v : Value} {name : String} (hx : a.eval x = .func (.method name) #[.iface t v] #[]) (hn : ∀ W, (nilAhead (P.types.size + Made.depth) t v name).run P W = .ok (some false) W) (h : wpQuiet P ops C K (⟨dst, .move (.const (.func (.method name) #[.iface t v] #[])), ty0, pos, after, gd⟩ :: rest) a) : wpQuiet P ops C K (⟨dst, .nilCheck x, ty0, pos, after, gd⟩ :: rest) a :=
  as_moveQ (o := ⟨dst, .nilCheck x, ty0, pos, after, gd⟩) (v := .func (.method name) #[.iface t v] #[]) (fun V _ => quiet_value (run_nilm hx hn V)) h
end
theorem asw_nil (b : Nat) (W : World) : (nilAhead (Tryz.prog.types.size + Made.depth) 230 (.pointer (some ⟨b, 0, none⟩)) "WriteString").run Tryz.prog W = .ok (some false) W := by kernel_rfl
theorem ext_none (s : ByteArray) : s.extract s.size s.size = ⟨#[]⟩ := by
  apply Go.WideShapes.bytes_inj
  rw [Lib.extract_data]
  simp

set_option maxHeartbeats 16000000 in
theorem gwrite_any (R T n m b cap : Nat) (p : Option Addr) (s : ByteArray) (w W : World) (h : TrieAt w R T n m) (hM : Mem w W [.box b 229 [.slice p 0 cap], .row p cap 5 1 0 []]) (hs : s.size ≤ 1099511627776) :
    Calls Tryz.prog 186 #[.pointer (some ⟨R, 0, none⟩), .iface 230 (.pointer (some ⟨b, 0, none⟩)), .string s] W fun e W' => ∃ (v : Value) (p' : Option Addr) (cap' : Nat), e = .returned (.tuple #[v, .nilIface]) ∧ Mem w W' [.box b 229 [.slice p' (nlL s.data.toList).length cap'], .row p' cap' 5 1 (nlL s.data.toList).length (bC (nlL s.data.toList))] := by
  have HM := Lib.hid hM
  have HT := Lib.hid h
  have HG := Lib.hid (fun W => gsw_any b W)
  clear h hM
  go_enter Tryz.func186, Tryz.ntmps186
  go_wp2_with (first | (go_at_call 187; (refine (HG.out _).mono ?_); rintro e w2 ⟨rfl, rfl⟩))
  go_loopw [12, 9, 11, 6, 10, 7] (fun iv lv pm nv wv ev wr => ∃ (i last : Nat) (B : List UInt8) (k kw : Int) (p : Option Addr) (cap : Nat), iv = .int .i64 i ∧ lv = .int .i64 last ∧ pm = .bool false ∧ nv = .int .i64 k ∧ wv = .int .i64 kw ∧ ev = .nilIface ∧ last ≤ i ∧ last ≤ s.size ∧ i ≤ s.size + 1 ∧ B.length ≤ last ∧ Hid (nlL s.data.toList = B ++ (s.data.toList.take i).drop last ++ nlL (s.data.toList.drop i)) ∧ Hid (Mem w wr [.box b 229 [.slice p B.length cap], .row p cap 5 1 B.length (bC B)])) (fun iv _ _ _ _ _ _ => s.size + 1 - (intOf iv).toNat)
  case atStart => exact ⟨0, 0, [], 0, 0, p, cap, rfl, rfl, rfl, rfl, rfl, rfl, by omega, by omega, by omega, by simp, Lib.hid (by simp), HM⟩
  case round =>
    clear HM
    obtain ⟨i, last, B, k, kw, p, cap, rfl, rfl, rfl, rfl, rfl, rfl, hli, hls, hi, hBl, HI, HM⟩ := hrel
    by_cases hlt : i < s.size
    · obtain ⟨c, hc⟩ : ∃ c, s.data.toList[i]? = some c := ⟨_, List.getElem?_eq_getElem (by simpa using hlt)⟩
      have HC := Lib.hid hc
      have hc256 : c.toNat < 256 := c.toNat_lt
      have q1 : decide ((i : Int) ≤ s.size) = true := decide_eq_true (by omega)
      have q2 : ((i : Int) != s.size) = true := by simp; omega
      by_cases h13 : c = 13
      · subst h13
        obtain ⟨r, hr⟩ : ∃ r, ((s.data.toList.drop i)[1]? == some 10) = r := ⟨_, rfl⟩
        have hN := nl_hit hli hc hr HI.out
        obtain ⟨d, hd⟩ : ∃ d : Nat, (if r then 2 else 1) = d := ⟨_, rfl⟩
        have hdI : (if r then (2 : Int) else 1) = (d : Int) := by rw [← hd]; cases r <;> rfl
        have hd1 : 1 ≤ d := by rw [← hd]; cases r <;> decide
        have hd2 : i + d ≤ s.size := by
          rw [← hd]
          cases r with
          | false => show i + 1 ≤ s.size; omega
          | true =>
            have h1 : (s.data.toList.drop i)[1]? = some 10 := by simpa using hr
            rw [List.getElem?_drop] at h1
            have := (List.getElem?_eq_some_iff.1 h1).1
            simp at this ⊢
            omega
        rw [hd] at hN
        have HN := Lib.hid hN
        obtain ⟨S, hS⟩ : ∃ S, s.extract i s.size = S := ⟨_, rfl⟩
        obtain ⟨A, hA⟩ : ∃ A, s.extract last i = A := ⟨_, rfl⟩
        have hSd : S.data.toList = s.data.toList.drop i := by
          rw [← hS, Lib.extract_data]
          apply List.take_of_length_le
          simp
        have hAd : A.data.toList = (s.data.toList.take i).drop last := by
          rw [← hA, Lib.extract_data, List.drop_take]
        have hAs : A.size = i - last := by
          have := congrArg List.length hAd
          simp at this
          omega
        have HL := Lib.hid (fun W (hT : TrieAt W R T n m) => look_cr R T n m S r W hT (by rw [hSd, List.getElem?_drop]; simpa using hc) (by rw [hSd]; exact hr))
        rw [hdI] at HL
        have HS := Lib.hid hS
        have HA := Lib.hid hA
        have HAd := Lib.hid hAd
        have HMp := Lib.hid (show w.cell? ⟨R, 6 + (13 : UInt8).toNat, none⟩ = some (.int .u8 1) from by
          rw [HT.out.map hc256]; rfl)
        have hne := fun W => flt_true ⟨n, 0, none⟩ W
        have hmeth := asw_method
        clear hc hr hS hA hSd hAd hN hd hdI
        go_wp2_with (first | (refine ldx1 (HM.out.old (cells_i HT.out.root 1 rfl)) rfl ?_))
        refine wp_region_mem (by kernel_rfl) (by kernel_rfl) HM.out ?_; intro hNE; (repeat (any_goals (first | ((with_reducible refine qgd ?_); (with_reducible refine skip_q ?_ ?_ ?_); (exact rfl); (rotate_left; (exact (hNE.elim fun p => ⟨p.W, p, rfl⟩)))) | refine mQ ?_ | ((with_reducible refine qat 38 ?_); (refine qsix rfl rfl rfl HC.out ?_)) | ((with_reducible refine qat 41 ?_); (refine qiaa (i := (13 : UInt8).toNat) rfl rfl rfl hc256 ?_)) | ((with_reducible refine qat 42 ?_); (refine qd1 (v := .int .u8 1) rfl (fun W ⟨q, hq⟩ => hq ▸ q.mem.old HMp.out) ?_)) | go_big_quiet_step (fail) | quiet_step (fail)))); clear hNE; refine wpQuiet_nil ?_; intro W1 HM1; replace HM := Lib.hid HM1; clear HM1
        go_wp2_with (first | (refine ldx1 (HM.out.old (cells_i HT.out.root 5 rfl)) rfl ?_) | (refine ldx1 (HM.out.old (cells_i HT.out.root 4 rfl)) rfl ?_) | ((with_reducible refine iat 57 ?_); (refine ixk (i := 1) rfl rfl rfl (by decide) ?_)) | (refine ldx1 (HM.out.old (cells_i HT.out.tab 1 rfl)) rfl ?_) | ((with_reducible refine iat 67 ?_); (refine sslf rfl rfl (i := i) rfl (by omega) ?_; rw [HS.out])) | (go_at_call 188; (with_reducible refine cB HM (HL.out _ (HT.out.mem HM.out)) ?_); clear HM; intro W1 HM))
        refine wp_region_steps2 [(true, 0), (true, 1), (true, 2), (true, 3), (true, 4), (false, 5), (true, 6), (true, 7), (false, 8), (true, 9), (true, 10), (true, 11), (true, 12), (true, 13)] (by kernel_rfl) (by kernel_rfl) rfl (by kernel_rfl) (fun _ _ _ _ _ h => h) HM.out _ (.cons _ (.cons _ .slnil)) ?_
        intro hNE W1 HM1; replace HM := Lib.hid HM1; clear HM1
        have HS0 := Lib.hid (HM.out.sub (.cons _ (.cons _ .slnil)))
        simp only [wpSteps, List.getElem?_cons_succ, List.getElem?_cons_zero]
        (repeat (first | ((with_reducible refine wpQuiet_nil ?_); (try dsimp only)) | refine mQ ?_ | ((with_reducible refine qat 84 ?_); (refine qssls rfl rfl (i := last) rfl rfl (j := i) rfl hli (by omega) ?_; rw [HA.out])) | go_big_quiet_step (fail) | quiet_step (fail)))
        go_wp2_with (first | fail)
        refine ⟨⟨⟨_, HM.out.sub (by repeat (first | exact List.nil_sublist _ | with_reducible refine List.Sublist.cons_cons _ ?_ | refine List.Sublist.cons _ ?_))⟩, rfl⟩, ?_⟩
        (try dsimp only)
        (repeat (first | ((with_reducible refine wpQuiet_nil ?_); (try dsimp only)) | refine mQ ?_ | ((with_reducible refine qat 86 ?_); (refine qnf rfl (asw_nil b) ?_)) | go_big_quiet_step (fail) | quiet_step (fail)))
        go_wp2_with (first | (go_at_call 201; (refine (asw_any b _ _ _ _ _ w _ [] HM.out (by omega)).mono ?_); rintro e W2 ⟨rfl, p1, cap1, hM2⟩; clear HM; (try clear W1); rename World => W1; have HM := Lib.hid hM2; clear hM2))
        refine ⟨⟨⟨_, HM.out.sub (by repeat (first | exact List.nil_sublist _ | with_reducible refine List.Sublist.cons_cons _ ?_ | refine List.Sublist.cons _ ?_))⟩, rfl⟩, ?_⟩
        (try dsimp only)
        (repeat (first | ((with_reducible refine wpQuiet_nil ?_); (try dsimp only)) | refine mQ ?_ | go_big_quiet_step (fail) | quiet_step (fail)))
        clear HS0 hNE
        go_wp2_with (first | (go_at_call 201; (refine (asw_any b _ _ _ _ ⟨#[10]⟩ w _ [] HM.out (by show _ + 1 ≤ _; omega)).mono ?_); rintro e W2 ⟨rfl, p2, cap2, hM2⟩; clear HM; (try clear W1); rename World => W1; have HM := Lib.hid hM2; clear hM2))
        have HE2 := Lib.hid (show bC B ++ Lib.strCells A ++ Lib.strCells ⟨#[10]⟩ = bC (B ++ (s.data.toList.take i).drop last ++ [10]) by rw [bC_append, bC_append, bC_str, HAd.out]; rfl)
        have HE3 := Lib.hid (show B.length + A.size + 1 = (B ++ (s.data.toList.take i).drop last ++ [10]).length by rw [List.length_append, List.length_append, ← HAd.out]; simp)
        go_roundw
        case rel => exact ⟨i + d, i + d, B ++ (s.data.toList.take i).drop last ++ [10], _, _, p2, cap2, by go_num, by go_num, by simp; omega, rfl, rfl, rfl, by omega, by omega, by omega, by rw [← HE3.out]; omega, HN, Lib.hid (by rw [← HE2.out, ← HE3.out]; exact HM.out)⟩
        case measure => simp [intOf]; omega
      · have HN := Lib.hid (nl_skip hli hc h13 HI.out)
        by_cases h10 : c = 10
        · as_aux_lemma =>
          have HMp := Lib.hid (show w.cell? ⟨R, 6 + c.toNat, none⟩ = some (.int .u8 0) from by
            rw [HT.out.map hc256, h10]; rfl)
          clear h13 h10 hc
          go_wp2_with (first | (refine ldx1 (HM.out.old (cells_i HT.out.root 1 rfl)) rfl ?_))
          refine wp_region_mem (by kernel_rfl) (by kernel_rfl) HM.out ?_; intro hNE; (repeat (any_goals (first | ((with_reducible refine qgd ?_); (with_reducible refine skip_q ?_ ?_ ?_); (exact rfl); (rotate_left; (exact (hNE.elim fun p => ⟨p.W, p, rfl⟩)))) | refine mQ ?_ | ((with_reducible refine qat 38 ?_); (refine qsix rfl rfl rfl HC.out ?_)) | ((with_reducible refine qat 41 ?_); (refine qiaa (i := c.toNat) rfl rfl rfl hc256 ?_)) | ((with_reducible refine qat 42 ?_); (refine qd1 (v := .int .u8 0) rfl (fun W ⟨q, hq⟩ => hq ▸ q.mem.old HMp.out) ?_)) | go_big_quiet_step (fail) | quiet_step (fail)))); clear hNE; refine wpQuiet_nil ?_; intro W1 HM1; replace HM := Lib.hid HM1; clear HM1
          go_wp2_with (first | (refine ldx1 (HM.out.old (cells_i HT.out.root 5 rfl)) rfl ?_) | (refine ldx1 (HM.out.old (cells_i HT.out.root 4 rfl)) rfl ?_) | ((with_reducible refine iat 57 ?_); (refine ixk (i := 0) rfl rfl rfl (by decide) ?_)) | (refine ldx1 (HM.out.old (cells_i HT.out.tab 0 rfl)) rfl ?_))
          go_roundw
          case rel => exact ⟨i + 1, last, B, k, kw, p, cap, by go_num, rfl, rfl, rfl, rfl, rfl, by omega, hls, by omega, hBl, HN, HM⟩
          case measure => simp [intOf]; omega
        · as_aux_lemma =>
          have HMp := Lib.hid (show w.cell? ⟨R, 6 + c.toNat, none⟩ = some (.int .u8 2) from by
            have h1 : c.toNat ≠ 10 := fun e => h10 (UInt8.toNat_inj.1 e)
            have h2 : c.toNat ≠ 13 := fun e => h13 (UInt8.toNat_inj.1 e)
            rw [HT.out.map hc256]
            simp [gv, h1, h2])
          clear h13 h10 hc
          go_wp2_with (first | (refine ldx1 (HM.out.old (cells_i HT.out.root 1 rfl)) rfl ?_))
          refine wp_region_mem (by kernel_rfl) (by kernel_rfl) HM.out ?_; intro hNE; (repeat (any_goals (first | ((with_reducible refine qgd ?_); (with_reducible refine skip_q ?_ ?_ ?_); (exact rfl); (rotate_left; (exact (hNE.elim fun p => ⟨p.W, p, rfl⟩)))) | refine mQ ?_ | ((with_reducible refine qat 38 ?_); (refine qsix rfl rfl rfl HC.out ?_)) | ((with_reducible refine qat 41 ?_); (refine qiaa (i := c.toNat) rfl rfl rfl hc256 ?_)) | ((with_reducible refine qat 42 ?_); (refine qd1 (v := .int .u8 2) rfl (fun W ⟨q, hq⟩ => hq ▸ q.mem.old HMp.out) ?_)) | go_big_quiet_step (fail) | quiet_step (fail)))); clear hNE; refine wpQuiet_nil ?_; intro W1 HM1; replace HM := Lib.hid HM1; clear HM1
          go_wp2_with (first | (refine ldx1 (HM.out.old (cells_i HT.out.root 5 rfl)) rfl ?_))
          go_roundw
          case rel => exact ⟨i + 1, last, B, k, kw, p, cap, by go_num, rfl, rfl, rfl, rfl, rfl, by omega, hls, by omega, hBl, HN, HM⟩
          case measure => simp [intOf]; omega
    · by_cases hend : i = s.size
      · as_aux_lemma =>
        subst hend
        have q1 : decide ((s.size : Int) ≤ s.size) = true := decide_eq_true (by omega)
        have q2 : ((s.size : Int) != s.size) = false := by simp
        have HN := Lib.hid (show nlL s.data.toList = B ++ (s.data.toList.take (s.size + 1)).drop last ++ nlL (s.data.toList.drop (s.size + 1)) from by
          have h := HI.out
          have e : s.size = s.data.toList.length := by simp
          generalize s.size = N at h e
          subst e
          exact nl_end h)
        have hem : s.extract s.size s.size = ⟨#[]⟩ := ext_none s
        have HE := Lib.hid hem
        have HL := Lib.hid (fun W (hT : TrieAt W R T n m) => look_nil R T n m W hT)
        clear hem hlt
        go_wp2_with (first | ((with_reducible refine iat 67 ?_); (refine sslf rfl rfl (i := s.size) rfl (Nat.le_refl _) ?_; rw [HE.out])) | (go_at_call 188; (with_reducible refine (HL.out _ (HT.out.mem HM.out)).mono ?_); rintro e w2 ⟨rfl, rfl⟩))
        go_roundw
        case rel => exact ⟨s.size + 1, last, B, k, kw, p, cap, by go_num, rfl, rfl, rfl, rfl, rfl, by omega, hls, by omega, hBl, HN, HM⟩
        case measure => simp [intOf]
      · obtain rfl : i = s.size + 1 := by omega
        as_aux_lemma =>
        have q1 : decide (((s.size + 1 : Nat) : Int) ≤ s.size) = false := decide_eq_false (by omega)
        have hI : nlL s.data.toList = B ++ s.data.toList.drop last := by
          have h := HI.out
          have e2 : s.data.toList.drop (s.size + 1) = [] := List.drop_of_length_le (by simp)
          rw [e2, List.take_of_length_le (show s.data.toList.length ≤ s.size + 1 by simp)] at h
          simpa [nlL] using h
        by_cases hl : last = s.size
        · have hE : B = nlL s.data.toList := by
            rw [hI, List.drop_of_length_le (by simp; omega), List.append_nil]
          have HE := Lib.hid hE
          have q2 : ((last : Int) != s.size) = false := by simp; omega
          clear hI hE hl hlt hend HI
          go_wp2_with fail
          go_ret2
          exact ⟨_, p, cap, rfl, by rw [← HE.out]; exact HM.out⟩
        · have q2 : ((last : Int) != s.size) = true := by simp; omega
          obtain ⟨A, hA⟩ : ∃ A, s.extract last s.size = A := ⟨_, rfl⟩
          have hAd : A.data.toList = s.data.toList.drop last := by
            rw [← hA, Lib.extract_data]
            apply List.take_of_length_le
            simp
          have hAs : A.size = s.size - last := by
            have := congrArg List.length hAd
            simp at this
            omega
          have HA := Lib.hid hA
          have HE2 := Lib.hid (show bC B ++ Lib.strCells A = bC (nlL s.data.toList) by rw [hI, bC_append, bC_str, hAd])
          have HE3 := Lib.hid (show B.length + A.size = (nlL s.data.toList).length by rw [hI, List.length_append, ← hAd]; simp)
          have hmeth := asw_method
          clear hI hA hAd hl hlt hend HI
          go_wp2_with fail
          refine wp_region_steps2 [(true, 0), (true, 1), (true, 2), (true, 3), (false, 4), (true, 5), (true, 6), (false, 7), (true, 8), (true, 9), (true, 10), (true, 11), (true, 12)] (by kernel_rfl) (by kernel_rfl) rfl (by kernel_rfl) (fun _ _ _ _ _ h => h) HM.out _ (.cons _ (.cons _ .slnil)) ?_
          intro hNE W1 HM1; replace HM := Lib.hid HM1; clear HM1
          have HS0 := Lib.hid (HM.out.sub (.cons _ (.cons _ .slnil)))
          simp only [wpSteps, List.getElem?_cons_succ, List.getElem?_cons_zero]
          (repeat (first | ((with_reducible refine wpQuiet_nil ?_); (try dsimp only)) | refine mQ ?_ | ((with_reducible refine qat 121 ?_); (refine qsslf rfl rfl (i := last) rfl hls ?_; rw [HA.out])) | go_big_quiet_step (fail) | quiet_step (fail)))
          go_wp2_with (first | fail)
          refine ⟨⟨⟨_, HM.out.sub (by repeat (first | exact List.nil_sublist _ | with_reducible refine List.Sublist.cons_cons _ ?_ | refine List.Sublist.cons _ ?_))⟩, rfl⟩, ?_⟩
          (try dsimp only)
          (repeat (first | ((with_reducible refine wpQuiet_nil ?_); (try dsimp only)) | refine mQ ?_ | ((with_reducible refine qat 123 ?_); (refine qnf rfl (asw_nil b) ?_)) | go_big_quiet_step (fail) | quiet_step (fail)))
          go_wp2_with (first | (go_at_call 201; (refine (asw_any b _ _ _ _ _ w _ [] HM.out (by omega)).mono ?_); rintro e W2 ⟨rfl, p1, cap1, hM2⟩; clear HM; (try clear W1); rename World => W1; have HM := Lib.hid hM2; clear hM2))
          refine ⟨⟨⟨_, HM.out.sub (by repeat (first | exact List.nil_sublist _ | with_reducible refine List.Sublist.cons_cons _ ?_ | refine List.Sublist.cons _ ?_))⟩, rfl⟩, ?_⟩
          (try dsimp only)
          (repeat (first | ((with_reducible refine wpQuiet_nil ?_); (try dsimp only)) | refine mQ ?_ | go_big_quiet_step (fail) | quiet_step (fail)))
          clear HS0 hNE
          go_wp2_with fail
          go_ret2
          exact ⟨_, p1, cap1, rfl, by rw [← HE2.out, ← HE3.out]; exact HM.out⟩
end Go.Proofs.YtfnodoepeiknhaaGreatDoor
