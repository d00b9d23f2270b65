/- The byteReplacer: Replace puts a byte in the place of each. (short) -/
import Derived.Test.YtanncakdlflopaaGreatDoorTrieB
namespace Go.Proofs.YtanncakdlflopaaGreatDoor
open Go.RowKit
set_option linter.unusedVariables false
set_option linter.unusedSimpArgs false
set_option maxRecDepth 100000

instance : ArrT Tryz.prog 186 5 256 := ⟨by kernel_rfl, by kernel_rfl⟩
theorem at_byte2 {s : ByteArray} {k : Nat} (h : k < s.size) : s.data.toList[k]? = some s[k] := by
  rw [List.getElem?_eq_getElem (by simpa using h)]; rfl
theorem neq_u8 {a b : UInt8} (h : a ≠ b) : ((a.toNat : Int) != (b.toNat : Int)) = true := by
  rw [bne_iff_ne]
  intro e
  exact h (UInt8.toNat_inj.1 (by omega))

set_option maxHeartbeats 8000000 in
theorem brep_any (R : Nat) (f : UInt8 → UInt8) (s : ByteArray) (w : World) (hR : ∀ c : UInt8, w.cell? ⟨R, 0 + c.toNat, none⟩ = some (.int .u8 (f c).toNat)) (hs : s.size ≤ 1099511627776) :
    Calls Tryz.prog 211 #[.pointer (some ⟨R, 0, none⟩), .string s] w fun e w' => e = .returned (.string ⟨(s.data.toList.map f).toArray⟩) ∧ Below w.heap.size w w' := by
  have HR := Lib.hid hR
  have hRl : R < w.heap.size := by have := block_lt_of_cell (hR 0); exact this
  clear hR
  have heq := fun W p n c => Go.run_eql_slice_nil (P := Tryz.prog) W 62 5 p n c Tryz.underlying62
  go_enter Tryz.func211, Tryz.ntmps211
  go_wp2_with fail
  go_loopw [5, 6, 7] (fun bv iv _ wr => ∃ k : Nat, k ≤ s.size ∧ iv = .int .i64 k ∧ Hid (Below w.heap.size w wr) ∧ ((bv = .slice none 0 0 ∧ Hid (mapK f s.data.toList k = s.data.toList)) ∨ (∃ g cap, bv = .slice (some ⟨g, 0, none⟩) s.size cap ∧ w.heap.size ≤ g ∧ Hid (BytesAt wr g 5 (mapK f s.data.toList k) (cap - s.size))))) (fun _ iv _ _ => s.size - (intOf iv).toNat)
  case atStart => exact ⟨0, by omega, rfl, Lib.hid (Below.refl _ _), .inl ⟨rfl, Lib.hid (mapK_zero _ _)⟩⟩
  case round =>
    obtain ⟨k, hk, rfl, HB, hc⟩ := hrel
    by_cases hlt : k < s.size
    · have hcR := Lib.hid ((HB.out.cell (p := ⟨R, 0 + (s[k]).toNat, none⟩) hRl).trans (HR.out s[k]))
      have hbyte := (s[k]).toNat_lt
      have HSet := Lib.hid (mapK_set f (at_byte2 hlt))
      have HKeep := Lib.hid (fun h => mapK_keep f (at_byte2 hlt) h)
      have HCell := Lib.hid (mapK_at f (at_byte2 hlt))
      have HAt := Lib.hid (at_byte2 hlt)
      generalize hcc : s[k] = c at *
      by_cases hf : f c = c
      · have q1 : (((f c).toNat : Int) != (c.toNat : Int)) = false := by rw [hf]; simp
        rcases hc with ⟨rfl, HK⟩ | ⟨g, cap, rfl, hg, HA⟩
        · as_aux_lemma =>
          replace hf := Lib.hid hf
          go_wp2_with (first | ((with_reducible refine iat 16 ?_); (refine six rfl rfl rfl HAt.out ?_)) | ((with_reducible refine iat 20 ?_); (refine iaa (i := c.toNat) rfl rfl rfl rfl hbyte ?_)) | (refine ldx1 hcR.out rfl ?_))
          go_roundw
          case rel => exact ⟨k + 1, by omega, by go_num, HB, .inl ⟨rfl, Lib.hid (by rw [HKeep.out hf.out]; exact HK.out)⟩⟩
          case measure => simp [intOf]; omega
        · as_aux_lemma =>
          go_wp2_with (first | ((with_reducible refine iat 16 ?_); (refine six rfl rfl rfl HAt.out ?_)) | ((with_reducible refine iat 20 ?_); (refine iaa (i := c.toNat) rfl rfl rfl rfl hbyte ?_)) | (refine ldx1 hcR.out rfl ?_))
          go_roundw
          case rel => exact ⟨k + 1, by omega, by go_num, HB, .inr ⟨g, cap, rfl, hg, Lib.hid (by rw [HKeep.out hf]; exact HA.out)⟩⟩
          case measure => simp [intOf]; omega
      · have q1 := neq_u8 hf
        rcases hc with ⟨rfl, HK⟩ | ⟨g, cap, rfl, hg, HA⟩
        · as_aux_lemma =>
          clear hf
          have hrun := run_bytes_of_string (P := Tryz.prog) wr 9 62 5 s Tryz.underlying9 Tryz.underlying62 Tryz.underlying5
          have hge := grownCap_ge wr s.size 0 5
          generalize grownCap wr s.size 0 5 = cap at *
          have hMade := BytesAt.made wr 5 s cap hge
          have hb2 : Below w.heap.size w (wr.drew.alloc (.cells (bytesRow s cap) 5 ((bytesRow s cap).size, (bytesRow s cap).size + 1))) := HB.out.drew.alloc HB.out.size _
          obtain ⟨g1, hg1⟩ : ∃ g1, wr.heap.size = g1 := ⟨_, rfl⟩
          have hgw : w.heap.size ≤ g1 := by have := HB.out.size; omega
          rw [hg1] at hrun hMade
          rw [← HK.out] at hMade
          generalize wr.drew.alloc (.cells (bytesRow s cap) 5 ((bytesRow s cap).size, (bytesRow s cap).size + 1)) = w2 at *
          have hcR2 := Lib.hid ((hb2.cell (p := ⟨R, 0 + c.toNat, none⟩) hRl).trans (HR.out c))
          have hcell := hMade.cell HCell.out
          have hfree := hMade.free (j := k) (by rw [mapK_len, size_list]; exact hlt)
          have HPut := Lib.hid (hMade.put (j := k) (by rw [mapK_len, size_list]; exact hlt) (f c))
          have HB2 := Lib.hid hb2
          clear hMade hb2 hg1 HCell HB
          go_wp2_with (first | ((with_reducible refine iat 16 ?_); (refine six rfl rfl rfl HAt.out ?_)) | ((with_reducible refine iat 20 ?_); (refine iaa (i := c.toNat) rfl rfl rfl rfl hbyte ?_)) | ((with_reducible refine iat 21 ?_); (refine ldx1 hcR.out rfl ?_)) | ((with_reducible refine iat 33 ?_); (refine iaa (i := c.toNat) rfl rfl rfl rfl hbyte ?_)) | ((with_reducible refine iat 34 ?_); (refine ldx1 hcR2.out rfl ?_)))
          go_roundw
          case rel => exact ⟨k + 1, by omega, by go_num, Lib.hid (Below.setCell (p := ⟨g1, k, none⟩) HB2.out hgw _), .inr ⟨g1, cap, rfl, hgw, Lib.hid (by rw [← HSet.out]; exact HPut.out)⟩⟩
          case measure => simp [intOf]; omega
        · as_aux_lemma =>
          clear hf
          have hcell := HA.out.cell HCell.out
          have hfree := HA.out.free (j := k) (by rw [mapK_len, size_list]; exact hlt)
          have HPut := Lib.hid (HA.out.put (j := k) (by rw [mapK_len, size_list]; exact hlt) (f c))
          clear HCell
          go_wp2_with (first | ((with_reducible refine iat 16 ?_); (refine six rfl rfl rfl HAt.out ?_)) | ((with_reducible refine iat 20 ?_); (refine iaa (i := c.toNat) rfl rfl rfl rfl hbyte ?_)) | (refine ldx1 hcR.out rfl ?_) | ((with_reducible refine iat 33 ?_); (refine iaa (i := c.toNat) rfl rfl rfl rfl hbyte ?_)))
          go_roundw
          case rel => exact ⟨k + 1, by omega, by go_num, Lib.hid (Below.setCell (p := ⟨g, k, none⟩) HB.out hg _), .inr ⟨g, cap, rfl, hg, Lib.hid (by rw [← HSet.out]; exact HPut.out)⟩⟩
          case measure => simp [intOf]; omega
    · have HMap := Lib.hid (mapK_all f s.data.toList (k := k) (by rw [size_list]; omega))
      rcases hc with ⟨rfl, HK⟩ | ⟨g, cap, rfl, hg, HA⟩
      · as_aux_lemma =>
        have HE := Lib.hid (show s = ⟨(s.data.toList.map f).toArray⟩ from ba_eq (by rw [← HMap.out]; exact HK.out.symm))
        go_wp2_with fail
        go_ret
        exact ⟨congrArg (fun x => Ending.returned (.string x)) HE.out, HB.out⟩
      · as_aux_lemma =>
        have hR2 := HA.out
        rw [HMap.out] at hR2
        have hsz : (s.data.toList.map f).length = s.size := by rw [List.length_map, size_list]
        have hback := run_convert_bytes_back (P := Tryz.prog) wr 62 9 5 ⟨g, 0, none⟩ cap (s.data.toList.map f) Tryz.underlying62 Tryz.underlying5 Tryz.underlying9 (fun j hj => by
          rw [add_none, Nat.zero_add, hR2.cell (List.getElem?_eq_getElem hj)])
        rw [hsz] at hback
        clear hsz hR2
        go_wp2_with fail
        go_ret
        exact ⟨rfl, HB.out⟩
end Go.Proofs.YtanncakdlflopaaGreatDoor
