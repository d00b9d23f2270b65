/- The reference's named. (short) -/
import Derived.Test.YtfnodoepeiknhaaGreatDoorEscRefC
import Derived.Test.YtfnodoepeiknhaaGreatDoorMeantA
import Derived.Lib.SlBytesConst
namespace Go.Proofs.YtfnodoepeiknhaaGreatDoor
open Go.RowKit
set_option linter.unusedVariables false
set_option linter.unusedSimpArgs false
set_option maxRecDepth 100000

/-- What named answers. -/
def RNamed (s : ByteArray) (w : World) (e : Ending) (w' : World) : Prop :=
  (∃ l v, meanL s.data.toList = some l ∧ e = .returned (.tuple #[v, .bool true]) ∧ RRow l w v w') ∨ (meanL s.data.toList = none ∧ e = .returned (.tuple #[.slice none 0 0, .bool false]) ∧ Below w.heap.size w w')
theorem rrow_mark (w : World) (c : UInt8) (z : Nat × Nat) : RRow [c] w (.slice (some ⟨w.heap.size, 0, none⟩) 1 1) (w.alloc (.cells #[.int .u8 c.toNat] 5 z)) := by
  refine ⟨_, rfl, fun j u hj => ?_, (Below.refl _ w).alloc (Nat.le_refl _) _⟩
  rw [add_none, Nat.zero_add]
  simp only [World.cell?, World.alloc]
  simpa [bC] using hj
theorem rn16 (s : ByteArray) (w : World) (hs : s.size ≤ 1099511627776) : Calls Tryz.prog 58 #[.string s, .int .i64 16] w fun e w' => RNum 16 s e ∧ w' = w := rnum16 s w hs

set_option maxHeartbeats 16000000 in
theorem rnamed_any (s : ByteArray) (w : World) (hs : s.size ≤ 1099511627776) :
    Calls Tryz.prog 34 #[.string s] w fun e w' => RNamed s w e w' := by
  by_cases h1 : s.data.toList = [108, 116]
  · obtain rfl : s = ⟨#[108, 116]⟩ := ba_eq h1
    as_aux_lemma =>
    have hcv := fun (w : World) (C : Array Value) (n c : Nat) => Lib.run_convert_bytes_const (P := Tryz.prog) w 47 5 C n c Tryz.underlying47 Tryz.underlying5
    have HR := Lib.hid (rrow_mark w 60 (1, 2))
    go_enter Tryz.func34, Tryz.ntmps34
    go_wp2
    go_ret2
    exact .inl ⟨[60], _, by decide, rfl, HR.out⟩
  by_cases h2 : s.data.toList = [103, 116]
  · obtain rfl : s = ⟨#[103, 116]⟩ := ba_eq h2
    as_aux_lemma =>
    have hcv := fun (w : World) (C : Array Value) (n c : Nat) => Lib.run_convert_bytes_const (P := Tryz.prog) w 47 5 C n c Tryz.underlying47 Tryz.underlying5
    have HR := Lib.hid (rrow_mark w 62 (1, 2))
    go_enter Tryz.func34, Tryz.ntmps34
    go_wp2
    go_ret2
    exact .inl ⟨[62], _, by decide, rfl, HR.out⟩
  by_cases h3 : s.data.toList = [97, 109, 112]
  · obtain rfl : s = ⟨#[97, 109, 112]⟩ := ba_eq h3
    as_aux_lemma =>
    have hcv := fun (w : World) (C : Array Value) (n c : Nat) => Lib.run_convert_bytes_const (P := Tryz.prog) w 47 5 C n c Tryz.underlying47 Tryz.underlying5
    have HR := Lib.hid (rrow_mark w 38 (1, 2))
    go_enter Tryz.func34, Tryz.ntmps34
    go_wp2
    go_ret2
    exact .inl ⟨[38], _, by decide, rfl, HR.out⟩
  by_cases h4 : s.data.toList = [113, 117, 111, 116]
  · obtain rfl : s = ⟨#[113, 117, 111, 116]⟩ := ba_eq h4
    as_aux_lemma =>
    have hcv := fun (w : World) (C : Array Value) (n c : Nat) => Lib.run_convert_bytes_const (P := Tryz.prog) w 47 5 C n c Tryz.underlying47 Tryz.underlying5
    have HR := Lib.hid (rrow_mark w 34 (1, 2))
    go_enter Tryz.func34, Tryz.ntmps34
    go_wp2
    go_ret2
    exact .inl ⟨[34], _, by decide, rfl, HR.out⟩
  by_cases h5 : s.data.toList = [97, 112, 111, 115]
  · obtain rfl : s = ⟨#[97, 112, 111, 115]⟩ := ba_eq h5
    as_aux_lemma =>
    have hcv := fun (w : World) (C : Array Value) (n c : Nat) => Lib.run_convert_bytes_const (P := Tryz.prog) w 47 5 C n c Tryz.underlying47 Tryz.underlying5
    have HR := Lib.hid (rrow_mark w 39 (1, 2))
    go_enter Tryz.func34, Tryz.ntmps34
    go_wp2
    go_ret2
    exact .inl ⟨[39], _, by decide, rfl, HR.out⟩
  have q1 := eq_false_of h1
  have q2 := eq_false_of h2
  have q3 := eq_false_of h3
  have q4 := eq_false_of h4
  have q5 := eq_false_of h5
  have hbase : meanL s.data.toList = if s.data.toList.head? = some 35 then (if s.data.toList[1]? = some 120 then numL 16 (s.data.toList.drop 2) else numL 10 (s.data.toList.drop 1)) else none := by
    unfold meanL
    rw [if_neg h1, if_neg h2, if_neg h3, if_neg h4, if_neg h5]
  have hhd : s.data.toList.head? = s.data.toList[0]? := by rw [List.head?_eq_getElem?]
  rw [hhd] at hbase
  clear h1 h2 h3 h4 h5 hhd
  by_cases hz : s.size = 0
  · have hM : meanL s.data.toList = none := by
      rw [hbase, List.getElem?_eq_none (by rw [size_list]; omega)]; rfl
    have d1 : decide ((s.size : Int) > 1) = false := decide_eq_false (by omega)
    have d0 : decide ((s.size : Int) > 0) = false := decide_eq_false (by omega)
    have hz' : ¬ 0 < s.size := by omega
    clear hbase hz
    as_aux_lemma =>
    have HN := Lib.hid hM
    clear hM
    go_enter Tryz.func34, Tryz.ntmps34
    go_wp2_with fail
    go_ret2
    exact .inr ⟨HN.out, rfl, Below.refl _ _⟩
  · have HA0 := Lib.hid (at_byte3 (s := s) (k := 0) (by omega))
    have d0 : decide ((s.size : Int) > 0) = true := decide_eq_true (by omega)
    generalize s[0] = a at *
    by_cases ha : a = 35
    · subst ha
      by_cases hz1 : s.size = 1
      · have hM : meanL s.data.toList = numL 10 (s.data.toList.drop 1) := by
          rw [hbase, HA0.out, if_pos rfl, List.getElem?_eq_none (by rw [size_list]; omega), if_neg (by simp)]
        have d1 : decide ((s.size : Int) > 1) = false := decide_eq_false (by omega)
        clear hbase
        have hD : (s.extract 1 s.size).data.toList = s.data.toList.drop 1 := by
          rw [Lib.extract_data]
          exact List.take_of_length_le (by simp)
        obtain ⟨D, hDe⟩ : ∃ D, s.extract 1 s.size = D := ⟨_, rfl⟩
        rw [hDe] at hD
        rw [← hD] at hM
        have hds : D.size ≤ s.size := by rw [← size_list, hD, List.length_drop, size_list]; omega
        have HDe := Lib.hid hDe
        have HNu := Lib.hid (fun W => rnum10 D W (by omega))
        have HM := Lib.hid hM
        clear hD hDe hM
        as_aux_lemma =>
        go_enter Tryz.func34, Tryz.ntmps34
        go_wp2_with (first | ((with_reducible refine iat 32 ?_); (refine six rfl rfl (i := 0) rfl HA0.out ?_)) | ((with_reducible refine iat 51 ?_); (refine six rfl rfl (i := 0) rfl HA0.out ?_)) | ((with_reducible refine iat 56 ?_); (refine sslf rfl rfl (i := 1) rfl (by omega) ?_; rw [HDe.out])))
        refine (HNu.out _).mono ?_
        rintro e w2 ⟨⟨n, hch, hv, rfl⟩ | ⟨hv, x, rfl⟩, rfl⟩
        · have HV := Lib.hid (HM.out.trans hv)
          have HBy := Lib.hid (fun W => rbytes_any n hch W)
          clear hv hch
          go_wp2_with fail
          refine (HBy.out _).mono ?_
          rintro e w3 ⟨v, rfl, hr⟩
          have HR := Lib.hid hr
          obtain ⟨g, rfl, -⟩ := hr
          go_wp2_with fail
          go_ret2
          exact .inl ⟨_, _, HV.out, rfl, HR.out⟩
        · have HV := Lib.hid (HM.out.trans hv)
          clear hv
          go_wp2_with fail
          go_ret2
          exact .inr ⟨HV.out, rfl, Below.refl _ _⟩
      · have HA1 := Lib.hid (at_byte3 (s := s) (k := 1) (by omega))
        have d1 : decide ((s.size : Int) > 1) = true := decide_eq_true (by omega)
        generalize s[1] = b at *
        by_cases hb : b = 120
        · subst hb
          have hM : meanL s.data.toList = numL 16 (s.data.toList.drop 2) := by
            rw [hbase, HA0.out, if_pos rfl, HA1.out, if_pos rfl]
          clear hbase
          have hD : (s.extract 2 s.size).data.toList = s.data.toList.drop 2 := by
            rw [Lib.extract_data]
            exact List.take_of_length_le (by simp)
          obtain ⟨D, hDe⟩ : ∃ D, s.extract 2 s.size = D := ⟨_, rfl⟩
          rw [hDe] at hD
          rw [← hD] at hM
          have hds : D.size ≤ s.size := by rw [← size_list, hD, List.length_drop, size_list]; omega
          have HDe := Lib.hid hDe
          have HNu := Lib.hid (fun W => rnum16 D W (by omega))
          have HM := Lib.hid hM
          clear hD hDe hM
          as_aux_lemma =>
          go_enter Tryz.func34, Tryz.ntmps34
          go_wp2_with (first | ((with_reducible refine iat 32 ?_); (refine six rfl rfl (i := 0) rfl HA0.out ?_)) | ((with_reducible refine iat 37 ?_); (refine six rfl rfl (i := 1) rfl HA1.out ?_)) | ((with_reducible refine iat 42 ?_); (refine sslf rfl rfl (i := 2) rfl (by omega) ?_; rw [HDe.out])))
          refine (HNu.out _).mono ?_
          rintro e w2 ⟨⟨n, hch, hv, rfl⟩ | ⟨hv, x, rfl⟩, rfl⟩
          · have HV := Lib.hid (HM.out.trans hv)
            have HBy := Lib.hid (fun W => rbytes_any n hch W)
            clear hv hch
            go_wp2_with fail
            refine (HBy.out _).mono ?_
            rintro e w3 ⟨v, rfl, hr⟩
            have HR := Lib.hid hr
            obtain ⟨g, rfl, -⟩ := hr
            go_wp2_with fail
            go_ret2
            exact .inl ⟨_, _, HV.out, rfl, HR.out⟩
          · have HV := Lib.hid (HM.out.trans hv)
            clear hv
            go_wp2_with fail
            go_ret2
            exact .inr ⟨HV.out, rfl, Below.refl _ _⟩
        · have hM : meanL s.data.toList = numL 10 (s.data.toList.drop 1) := by
            rw [hbase, HA0.out, if_pos rfl, HA1.out, if_neg (by simpa using hb)]
          have qb : ((b.toNat : Int) == 120) = false := ne13 hb
          clear hbase hb
          have hD : (s.extract 1 s.size).data.toList = s.data.toList.drop 1 := by
            rw [Lib.extract_data]
            exact List.take_of_length_le (by simp)
          obtain ⟨D, hDe⟩ : ∃ D, s.extract 1 s.size = D := ⟨_, rfl⟩
          rw [hDe] at hD
          rw [← hD] at hM
          have hds : D.size ≤ s.size := by rw [← size_list, hD, List.length_drop, size_list]; omega
          have HDe := Lib.hid hDe
          have HNu := Lib.hid (fun W => rnum10 D W (by omega))
          have HM := Lib.hid hM
          clear hD hDe hM
          as_aux_lemma =>
          go_enter Tryz.func34, Tryz.ntmps34
          go_wp2_with (first | ((with_reducible refine iat 32 ?_); (refine six rfl rfl (i := 0) rfl HA0.out ?_)) | ((with_reducible refine iat 37 ?_); (refine six rfl rfl (i := 1) rfl HA1.out ?_)) | ((with_reducible refine iat 51 ?_); (refine six rfl rfl (i := 0) rfl HA0.out ?_)) | ((with_reducible refine iat 56 ?_); (refine sslf rfl rfl (i := 1) rfl (by omega) ?_; rw [HDe.out])))
          refine (HNu.out _).mono ?_
          rintro e w2 ⟨⟨n, hch, hv, rfl⟩ | ⟨hv, x, rfl⟩, rfl⟩
          · have HV := Lib.hid (HM.out.trans hv)
            have HBy := Lib.hid (fun W => rbytes_any n hch W)
            clear hv hch
            go_wp2_with fail
            refine (HBy.out _).mono ?_
            rintro e w3 ⟨v, rfl, hr⟩
            have HR := Lib.hid hr
            obtain ⟨g, rfl, -⟩ := hr
            go_wp2_with fail
            go_ret2
            exact .inl ⟨_, _, HV.out, rfl, HR.out⟩
          · have HV := Lib.hid (HM.out.trans hv)
            clear hv
            go_wp2_with fail
            go_ret2
            exact .inr ⟨HV.out, rfl, Below.refl _ _⟩
    · have hM : meanL s.data.toList = none := by
        rw [hbase, HA0.out, if_neg (by simpa using ha)]
      have qa : ((a.toNat : Int) == 35) = false := ne13 ha
      clear hbase ha
      by_cases hz1 : s.size = 1
      · have d1 : decide ((s.size : Int) > 1) = false := decide_eq_false (by omega)
        as_aux_lemma =>
        have HN := Lib.hid hM
        clear hM
        go_enter Tryz.func34, Tryz.ntmps34
        go_wp2_with (first | ((with_reducible refine iat 32 ?_); (refine six rfl rfl (i := 0) rfl HA0.out ?_)) | ((with_reducible refine iat 51 ?_); (refine six rfl rfl (i := 0) rfl HA0.out ?_)))
        go_ret2
        exact .inr ⟨HN.out, rfl, Below.refl _ _⟩
      · have d1 : decide ((s.size : Int) > 1) = true := decide_eq_true (by omega)
        as_aux_lemma =>
        have HN := Lib.hid hM
        clear hM
        go_enter Tryz.func34, Tryz.ntmps34
        go_wp2_with (first | ((with_reducible refine iat 32 ?_); (refine six rfl rfl (i := 0) rfl HA0.out ?_)) | ((with_reducible refine iat 51 ?_); (refine six rfl rfl (i := 0) rfl HA0.out ?_)))
        go_ret2
        exact .inr ⟨HN.out, rfl, Below.refl _ _⟩
end Go.Proofs.YtfnodoepeiknhaaGreatDoor
