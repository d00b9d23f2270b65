/- The walks over package date's texts: padded numbers, Print; and the reference's Told. -/
import Derived.Test.YteigpfdnecfejaaDoorDateWalks6
import Derived.Test.YteigpfdnecfejaaDoorShelf
import Derived.WalkSmall
import Derived.Lib.QuietBelow
import Derived.ShutString
namespace Go.Proofs.YteigpfdnecfejaaDoor
open Go.RowKit Go.Sort
set_option linter.unusedVariables false

theorem ret_str2 {l : IntKind} {a b : ByteArray} {c d : Int} (h : a = b) (h' : c = d) : Ending.returned (.tuple #[.string a, .int l c]) = .returned (.tuple #[.string b, .int l d]) := by rw [h, h']

theorem below_grow (w : World) (k : Nat) (os : Array Obj) : Below w.heap.size w (grow (w.drewN k) os) := below_regrown w (w.drawn + k) os

theorem itoa_any (n : Int) (w : World) (h0 : -9223372036854775808 ≤ n) (h1 : n ≤ 9223372036854775807) (htab : Lib.TabIs Tryd.prog w "internal/strconv.uint64pow10" .u64 Lib.pow10Tab) :
    Calls Tryd.prog 41 #[.int .i64 n] w fun e w' => e = .returned (.string ⟨(Lib.itoa n).toArray⟩) ∧ Below w.heap.size w w' :=
  (Tryd.strconv_Itoa n h0 h1 w htab).mono fun _ _ ⟨he, k, os, hw⟩ => ⟨he, hw ▸ below_grow w k os⟩

theorem tab_below {P : Program} {w w' : World} {name : String} {k : IntKind} {zs : List Int} (hb : Below w.heap.size w w') (h : Lib.TabIs P w name k zs) : Lib.TabIs P w' name k zs := by
  unfold Lib.TabIs at h ⊢
  cases hg : P.globalNamed name with
  | none => simp [World.var?, hg] at h
  | some g =>
    by_cases hlt : g < w.heap.size
    · exact var?_below hb hg hlt h
    · have e : w.heap[g]? = none := by simp; omega
      simp [World.var?, hg, e] at h

/-- A number in at least so many digits. -/
def padB (n k : Int) : ByteArray := ⟨(Lib.repeatL [48] (k.toNat - (Lib.itoa n).length) ++ Lib.itoa n).toArray⟩
def dashB : ByteArray := ⟨#[45]⟩
def dateB (y m d : Int) : ByteArray := padB y 4 ++ dashB ++ padB m 2 ++ dashB ++ padB d 2
noncomputable def dayB (n : Int) : ByteArray := if Cal.isB n = true then dateB (Cal.splY n) (Cal.splM n) (Cal.splD n) else ⟨#[]⟩

theorem itoa_len {n : Int} (h0 : 0 ≤ n) (k : Nat) (h : n < (10 ^ k : Nat)) (hk : 1 ≤ k) : (Lib.itoa n).length ≤ k := by
  have e : Lib.itoa n = Lib.decDigits n.toNat := by unfold Lib.itoa; rw [if_neg (by omega)]
  rw [e]
  have key : ∀ (k : Nat) (u : Nat), 1 ≤ k → u < 10 ^ k → (Lib.decDigits u).length ≤ k := by
    intro k
    induction k with
    | zero => intro u h1 _; omega
    | succ k ih =>
      intro u _ h2
      unfold Lib.decDigits
      split
      · simp
      · rename_i h10
        by_cases hk : k = 0
        · subst hk; omega
        · have := ih (u / 10) (by omega) (by rw [Nat.pow_succ] at h2; omega)
          simp; omega
  exact key k n.toNat hk (by omega)

theorem padB_size {n k : Int} (h : (Lib.itoa n).length ≤ k.toNat) : (padB n k).size = k.toNat := by
  show (List.toArray _).size = _
  simp only [List.size_toArray, List.length_append, Lib.repeatL_length]
  simp
  omega

set_option maxHeartbeats 400000 in
theorem padded_any (n k : Int) (w : World) (h0 : 0 ≤ n) (h1 : n ≤ 9999) (hk0 : 0 ≤ k) (hk : (Lib.itoa n).length ≤ k.toNat) (hk4 : k ≤ 4) (htab : Lib.TabIs Tryd.prog w "internal/strconv.uint64pow10" .u64 Lib.pow10Tab) :
    Calls Tryd.prog 37 #[.int .i64 n, .int .i64 k] w fun e w' => e = .returned (.string (padB n k)) ∧ Below w.heap.size w w' := by
  have HT := Lib.hid htab
  clear htab
  have hcat := fun w => run_string_add_lists (P := Tryd.prog) w (Lib.repeatL [48] (k.toNat - (Lib.itoa n).length)) (Lib.itoa n) (by rw [Lib.repeatL_length]; simp; omega) (by omega)
  go_enter Tryd.func37, Tryd.ntmps37
  go_wp2_with fail
  refine (itoa_any _ _ (by omega) (by omega) HT.out).mono ?_
  rintro e w1 ⟨rfl, hb1⟩
  go_wp2_with fail
  rw [show k - ((Lib.itoa n).length : Int) = ((k.toNat - (Lib.itoa n).length : Nat) : Int) by omega]
  refine (Tryd.strings_Repeat _ _ _ (by omega) (by show 1 * _ ≤ _; omega)).mono ?_
  rintro e w2 ⟨rfl, hb2⟩
  go_wp2_with fail
  go_ret
  exact ⟨rfl, hb1.trans (hb2.mono hb1.size)⟩

set_option maxHeartbeats 1000000 in
theorem print_any (n : Int) (w : World) (htab : Lib.TabIs Tryd.prog w "internal/strconv.uint64pow10" .u64 Lib.pow10Tab) :
    Calls Tryd.prog 26 #[.int .i64 n] w fun e w' => e = .returned (.tuple #[.string (dayB n), .int .i64 (Cal.splE n)]) ∧ Below w.heap.size w w' := by
  have HT := Lib.hid htab
  clear htab
  cases hb : Cal.isB n
  · have HS := Lib.hid (show dayB n = ⟨#[]⟩ by unfold dayB; rw [hb]; rfl)
    have HE := Lib.hid (show Cal.splE n = 1 by unfold Cal.splE; rw [hb]; rfl)
    have HB := Lib.hid hb
    clear hb
    go_enter Tryd.func26, Tryd.ntmps26
    go_wp2_with (go_at_call 32; refine (is_any _ _).mono ?_; rintro e w' ⟨rfl, rfl⟩; rw [HB.out])
    go_ret2
    exact ⟨ret_str2 HS.out.symm HE.out.symm, Below.refl _ _⟩
  · have HS := Lib.hid (show dayB n = dateB (Cal.splY n) (Cal.splM n) (Cal.splD n) by unfold dayB; rw [hb]; rfl)
    have HE := Lib.hid (show Cal.splE n = 0 by unfold Cal.splE; rw [hb]; rfl)
    obtain ⟨h1, h2⟩ := (Cal.isB_iff n).1 hb
    obtain ⟨y1, y2, m1, m2, d1, d2⟩ := spl_bd hb
    have HB := Lib.hid hb
    clear hb
    have ly := itoa_len (n := Cal.splY n) (by omega) 4 (by simp; omega) (by omega)
    have lm := itoa_len (n := Cal.splM n) (by omega) 2 (by simp; omega) (by omega)
    have ld := itoa_len (n := Cal.splD n) (by omega) 2 (by simp; omega) (by omega)
    have sy := padB_size (n := Cal.splY n) (k := 4) ly
    have sm := padB_size (n := Cal.splM n) (k := 2) lm
    have sd := padB_size (n := Cal.splD n) (k := 2) ld
    have s1 : (padB (Cal.splY n) 4 ++ dashB).size = 5 := by rw [ByteArray.size_append, sy]; rfl
    have s2 : (padB (Cal.splY n) 4 ++ dashB ++ padB (Cal.splM n) 2).size = 7 := by rw [ByteArray.size_append, s1, sm]; rfl
    have s3 : (padB (Cal.splY n) 4 ++ dashB ++ padB (Cal.splM n) 2 ++ dashB).size = 8 := by rw [ByteArray.size_append, s2]; rfl
    have c1 := fun w => run_string_add_sum (P := Tryd.prog) w (padB (Cal.splY n) 4) dashB (by rw [sy]; decide)
    have c2 := fun w => run_string_add_sum (P := Tryd.prog) w (padB (Cal.splY n) 4 ++ dashB) (padB (Cal.splM n) 2) (by rw [s1, sm]; decide)
    have c3 := fun w => run_string_add_sum (P := Tryd.prog) w (padB (Cal.splY n) 4 ++ dashB ++ padB (Cal.splM n) 2) dashB (by rw [s2]; decide)
    have c4 := fun w => run_string_add_sum (P := Tryd.prog) w (padB (Cal.splY n) 4 ++ dashB ++ padB (Cal.splM n) 2 ++ dashB) (padB (Cal.splD n) 2) (by rw [s3, sd]; decide)
    clear sy sm sd s1 s2 s3
    unfold dashB at c1 c2 c3 c4
    go_enter Tryd.func26, Tryd.ntmps26
    go_wp2_with (first | (go_at_call 32; refine (is_any _ _).mono ?_; rintro e w' ⟨rfl, rfl⟩; rw [HB.out]) | (go_at_call 33; refine (split_in _ _ (by omega) (by omega)).mono ?_; rintro e w' ⟨rfl, rfl⟩))
    refine (padded_any _ _ _ (by omega) (by omega) (by omega) ly (by omega) HT.out).mono ?_
    rintro e w1 ⟨rfl, hb1⟩
    have HT1 := Lib.hid (tab_below hb1 HT.out)
    go_wp2_with fail
    refine (padded_any _ _ _ (by omega) (by omega) (by omega) lm (by omega) HT1.out).mono ?_
    rintro e w2 ⟨rfl, hb2⟩
    have HT2 := Lib.hid (tab_below hb2 HT1.out)
    go_wp2_with fail
    refine (padded_any _ _ _ (by omega) (by omega) (by omega) ld (by omega) HT2.out).mono ?_
    rintro e w3 ⟨rfl, hb3⟩
    go_wp2_with fail
    go_ret2
    exact ⟨ret_str2 HS.out.symm HE.out.symm, (hb1.trans (hb2.mono hb1.size)).trans (hb3.mono (Nat.le_trans hb1.size hb2.size))⟩

end Go.Proofs.YteigpfdnecfejaaDoor
