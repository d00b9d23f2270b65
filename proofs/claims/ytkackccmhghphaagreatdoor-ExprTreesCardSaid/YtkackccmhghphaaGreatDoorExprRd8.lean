/- What begins with a sign or a keyword: the reader of expressions. (fast) -/
import Derived.Test.YtkackccmhghphaaGreatDoorExprRd7
namespace Go.Proofs.YtkackccmhghphaaGreatDoor
open Go.RowKit
set_option linter.unusedVariables false
set_option linter.unusedSimpArgs false
set_option maxRecDepth 100000

/-- What the contract of a list of expressions says. -/
def XL (T : List TokD) (ch : UInt8) (fuel : Nat) : Prop :=
 ∀ (x : ByteArray), x.data.toList = [ch] → ∀ (w0 W : World) (R : Nat) (tp : Option Addr) (tc i : Nat) (op : Option Addr) (oc : Nat) (acc : List NodeD) (rest : List Res), Sl w0 tp (T.flatMap TokD.cs) → Mem w0 W (.box R 94 [.slice tp T.length tc, .int .i64 i, .slice op acc.length oc] :: .row op oc 36 8 acc.length (acc.flatMap NodeD.cs) :: rest) →
  i ≤ T.length → acc.length ≤ i + 2 → G T fuel (.list ch) i ≠ .out → Calls Tryz.prog 219 #[.pointer (some ⟨R, 0, none⟩), .string x, .func (.func 49) #[.pointer (some ⟨R, 0, none⟩)] #[]] W (XPost (G T fuel (.list ch) i) cntV w0 R tp T.length tc acc rest)
theorem xList_at {T : List TokD} (hT : TksOk T) (fuel : Nat) (ihE : ∀ g, g ≤ fuel → XC T 49 .expr g) (ch : UInt8) : XL T ch fuel := by
 intro x hx w0 W R tp tc i op oc acc rest HTk HM hi ha hne
 cases fuel with
 | zero => exact absurd rfl hne
 | succ f => exact xListE hT f (fun g hg => ihE g (by omega)) ch x hx w0 W R tp tc i op oc acc rest HTk HM hi ha hne
theorem xCtx_at {T : List TokD} (hT : TksOk T) (fuel : Nat) (ihE : ∀ g, g ≤ fuel → XC T 49 .expr g) (w0 W : World) (R g2 g4 : Nat) (tp np : Option Addr) (tc nc i : Nat) (op : Option Addr) (oc : Nat) (acc : List NodeD) (rest : List Res) (HTk : Sl w0 tp (T.flatMap TokD.cs)) (HM0 : Mem w0 W (.box R 94 [.slice tp T.length tc, .int .i64 i, .slice op acc.length oc] :: .row op oc 36 8 acc.length (acc.flatMap NodeD.cs) :: .box g2 92 [.pointer (some ⟨R, 0, none⟩)] :: .box g4 172 [.slice np 0 nc] :: .row np nc 9 1 0 [] :: rest))
  (hi : i ≤ T.length) (ha : acc.length ≤ i + 2) (hne : G T fuel .ctx i ≠ .out) :
  Calls Tryz.prog 219 #[.pointer (some ⟨R, 0, none⟩), .string ⟨#[125]⟩, .func (.func 226) #[] #[.pointer (some ⟨g2, 0, none⟩), .pointer (some ⟨g4, 0, none⟩)]] W fun e w' => ∃ np nc m, XPost (G T fuel .ctx i) cntV w0 R tp T.length tc acc (.box g2 92 [.pointer (some ⟨R, 0, none⟩)] :: .box g4 172 [.slice np m nc] :: rest) e w' := by
 cases fuel with
 | zero => exact absurd rfl hne
 | succ f => exact xListC hT f (fun g hg => ihE g (by omega)) w0 W R g2 g4 tp np tc nc i op oc acc rest HTk HM0 hi ha hne
section
variable {T : List TokD} {w0 W : World} {R : Nat} {tp : Option Addr} {tc i oc : Nat} {op : Option Addr} {acc : List NodeD} {rest : List Res} {fuel : Nat} {r : PR} {K : Ending → World → Prop}
theorem XL.use {ch : UInt8} {d : Int} {x : ByteArray} (h : XL T ch fuel) {k : List NodeD → Nat → Nat → PR} (HR : (G T fuel (.list ch) i).bind k = r) (hr : r ≠ .out) (HT : Sl w0 tp (T.flatMap TokD.cs)) (HM : Mem w0 W (.box R 94 [.slice tp T.length tc, .int .i64 d, .slice op acc.length oc] :: .row op oc 36 8 acc.length (acc.flatMap NodeD.cs) :: rest)) (hd : d = (i : Int))
  (hi : i ≤ T.length) (ha : acc.length ≤ i + 2) (hx : x.data.toList = [ch]) (hno : r = .no → ∀ W', Below w0.heap.size w0 W' → K faultE W')
  (hok : ∀ (l : List NodeD) (m j : Nat), k l m j = r → (l.length ≤ j - i ∧ i + 1 ≤ j ∧ j ≤ T.length ∧ m ≤ j - i) → ∀ (op : Option Addr) (oc : Nat) (W' : World), Mem w0 W' (.box R 94 [.slice tp T.length tc, .int .i64 j, .slice op (acc ++ l).length oc] :: .row op oc 36 8 (acc ++ l).length ((acc ++ l).flatMap NodeD.cs) :: rest) → K (.returned (.int .i64 m)) W') :
  Calls Tryz.prog 219 #[.pointer (some ⟨R, 0, none⟩), .string x, .func (.func 49) #[.pointer (some ⟨R, 0, none⟩)] #[]] W K := by
 subst hd
 have hne : G T fuel (.list ch) i ≠ .out := fun e => by rw [e] at HR; exact hr HR.symm
 refine (h x hx w0 W R tp tc i op oc acc rest HT HM hi ha hne).mono fun e W' hp => ?_
 cases hg : G T fuel (.list ch) i with
 | out => exact absurd hg hne
 | no =>
  rw [hg] at hp HR
  obtain ⟨rfl, hb⟩ := hp
  exact hno HR.symm W' hb
 | ok l m j =>
  have hG := G_ok hg hi (fun e => by cases e)
  obtain ⟨h1, h2, h3⟩ := hG.lenc 0 rfl rfl rfl
  have h4 := hG.cnt
  simp only [NT.cnt] at h4
  rw [hg] at hp HR
  obtain ⟨op', oc', rfl, hM⟩ := hp
  exact hok l m j HR ⟨h1, h2, h3, by omega⟩ op' oc' W' hM
theorem ctxl_use {g2 g4 : Nat} {np : Option Addr} {nc : Nat} {d : Int} (hT : TksOk T) (ihE : ∀ g, g ≤ fuel → XC T 49 .expr g) {k : List NodeD → Nat → Nat → PR} (HR : (G T fuel .ctx i).bind k = r) (hr : r ≠ .out) (HT : Sl w0 tp (T.flatMap TokD.cs)) (HM : Mem w0 W (.box R 94 [.slice tp T.length tc, .int .i64 d, .slice op acc.length oc] :: .row op oc 36 8 acc.length (acc.flatMap NodeD.cs) :: .box g2 92 [.pointer (some ⟨R, 0, none⟩)] :: .box g4 172 [.slice np 0 nc] :: .row np nc 9 1 0 [] :: rest)) (hd : d = (i : Int))
  (hi : i ≤ T.length) (ha : acc.length ≤ i + 2) (hno : r = .no → ∀ W', Below w0.heap.size w0 W' → K faultE W')
  (hok : ∀ (l : List NodeD) (m j : Nat), k l m j = r → (l.length ≤ j - i ∧ i + 1 ≤ j ∧ j ≤ T.length ∧ m ≤ j - i) → ∀ (op np : Option Addr) (oc nc n : Nat) (W' : World), Mem w0 W' (.box R 94 [.slice tp T.length tc, .int .i64 j, .slice op (acc ++ l).length oc] :: .row op oc 36 8 (acc ++ l).length ((acc ++ l).flatMap NodeD.cs) :: .box g2 92 [.pointer (some ⟨R, 0, none⟩)] :: .box g4 172 [.slice np n nc] :: rest) → K (.returned (.int .i64 m)) W') :
  Calls Tryz.prog 219 #[.pointer (some ⟨R, 0, none⟩), .string ⟨#[125]⟩, .func (.func 226) #[] #[.pointer (some ⟨g2, 0, none⟩), .pointer (some ⟨g4, 0, none⟩)]] W K := by
 subst hd
 have hne : G T fuel .ctx i ≠ .out := fun e => by rw [e] at HR; exact hr HR.symm
 refine (xCtx_at hT fuel ihE w0 W R g2 g4 tp np tc nc i op oc acc rest HT HM hi ha hne).mono fun e W' hp => ?_
 obtain ⟨np', nc', n', hp⟩ := hp
 cases hg : G T fuel .ctx i with
 | out => exact absurd hg hne
 | no =>
  rw [hg] at hp HR
  obtain ⟨rfl, hb⟩ := hp
  exact hno HR.symm W' hb
 | ok l m j =>
  have hG := G_ok hg hi (fun e => by cases e)
  obtain ⟨h1, h2, h3⟩ := hG.lenc 0 rfl rfl rfl
  have h4 := hG.cnt
  simp only [NT.cnt] at h4
  rw [hg] at hp HR
  obtain ⟨op', oc', rfl, hM⟩ := hp
  exact hok l m j HR ⟨h1, h2, h3, by omega⟩ op' np' oc' nc' n' W' hM
theorem Mem.five {w0 W : World} {a b c d e : Res} {L : List Res} (h : Mem w0 W (e :: d :: a :: b :: c :: L)) : Mem w0 W (a :: b :: c :: d :: e :: L) :=
 h.perm ((((List.perm_append_comm : ([e, d] ++ [a, b, c]).Perm ([a, b, c] ++ [e, d])).trans (List.Perm.append_left [a, b, c] (List.Perm.swap _ _ _)))).append_right L)
end

set_option maxHeartbeats 16000000 in
theorem xMarked {T : List TokD} (hT : TksOk T) (fuel : Nat) (ihE : ∀ g, g ≤ fuel → XC T 49 .expr g) (w0 W : World) (R : Nat) (tp : Option Addr) (tc i : Nat) (op : Option Addr) (oc : Nat) (acc : List NodeD) (rest : List Res) {t : TokD} (ht : T[i]? = some t) (h5 : 5 ≤ t.kind) (HTk : Sl w0 tp (T.flatMap TokD.cs)) (HM0 : Mem w0 W (.box R 94 [.slice tp T.length tc, .int .i64 (i + 1 : Nat), .slice op acc.length oc] :: .row op oc 36 8 acc.length (acc.flatMap NodeD.cs) :: rest))
  (ha : acc.length ≤ i + 2) (hne : G T (fuel + 1) .sing i ≠ .out) :
  Calls Tryz.prog 220 #[.pointer (some ⟨R, 0, none⟩), .string t.text] W (XPost (G T (fuel + 1) .sing i) unitV w0 R tp T.length tc acc rest) := by
 obtain ⟨r, hr⟩ : ∃ r, G T (fuel + 1) .sing i = r := ⟨_, rfl⟩
 rw [hr] at hne ⊢
 have hR2 := hr
 clear hr
 have hr : r ≠ .out := hne
 have HM := Lib.hid HM0
 have HTk := Lib.hid HTk
 have hT1 := hT.len
 have hi1 := some_lt ht
 clear HM0 hne
 have hs : ∀ s, isT T i s = (t.text.toList == s) := fun s => by unfold isT sgT; rw [ht]; simp only; rw [if_pos h5]
 simp only [G, ht, hs] at hR2
 rw [if_neg (by omega), if_neg (by omega), if_neg (by omega), if_neg (by omega)] at hR2
 have hmf : ∀ (fn : Fn) (first cap : Array Value) (w : World), (Instr.makeFunc fn first cap).run Tryz.prog w = .ok (.func fn first cap) w := fun _ _ _ _ => rfl
 obtain ⟨tx, htx⟩ : ∃ x, t.text = x := ⟨_, rfl⟩
 rw [htx] at hR2 ⊢
 clear hs htx ht h5
 by_cases g0 : (tx.toList == [110, 117, 108, 108]) = true
 ·rw [if_pos g0] at hR2
  have HR := Lib.hid hR2
  clear hR2
  go_enter Tryz.func220, Tryz.ntmps220
  go_wp2_with (first | ((with_reducible refine iat 2 ?_); (refine bx1 (v := .pointer _) rfl HM.out rfl rfl ?_; intro g2 W2 HM1; clear HM; (try clear W1); rename World => W1; have HM := Lib.hid (HM1.perm ((List.Perm.swap _ _ _).trans (List.Perm.cons _ (List.Perm.swap _ _ _)))); clear HM1)) | (go_at_call 73; refine put_use _ _ HM.out (by (first | omega | (simp only [List.length_append, List.length_cons, List.length_nil]; omega))) ?_; intro op1 oc1 W2 hM2; have HM1 := Lib.hid hM2; clear HM hM2; (try clear W1); rename World => W1; have HM := HM1; clear HM1) | ((with_reducible refine iload ?_); first | refine ldb1 HM.out 0 rfl rfl rfl ?_ | refine ldb1 HM.out 1 rfl rfl rfl ?_ | refine ldb1 HM.out 2 rfl rfl rfl ?_) | ((with_reducible refine ialloc ?_); refine alb rfl HM.out ?_; intro g1 W1 HM1; replace HM := Lib.hid HM1; clear HM1) | ((with_reducible refine ibox ?_); refine bx1 (v := .pointer _) rfl HM.out rfl rfl ?_; intro g1 W1 HM1; replace HM := Lib.hid HM1; clear HM1))
  first | go_end0 | go_ret | go_ret2
  exact XPost.ok_ HR.out (by simp only [List.append_assoc]) (HM.out.sub (.cons_cons _ (.cons_cons _ (.cons _ (.refl _)))))
 rw [if_neg g0] at hR2
 rw [Bool.not_eq_true] at g0
 by_cases g1 : (tx.toList == [116, 114, 117, 101]) = true
 ·rw [if_pos g1] at hR2
  have HR := Lib.hid hR2
  clear hR2
  go_enter Tryz.func220, Tryz.ntmps220
  go_wp2_with (first | ((with_reducible refine iat 2 ?_); (refine bx1 (v := .pointer _) rfl HM.out rfl rfl ?_; intro g2 W2 HM1; clear HM; (try clear W1); rename World => W1; have HM := Lib.hid (HM1.perm ((List.Perm.swap _ _ _).trans (List.Perm.cons _ (List.Perm.swap _ _ _)))); clear HM1)) | (go_at_call 73; refine put_use _ _ HM.out (by (first | omega | (simp only [List.length_append, List.length_cons, List.length_nil]; omega))) ?_; intro op1 oc1 W2 hM2; have HM1 := Lib.hid hM2; clear HM hM2; (try clear W1); rename World => W1; have HM := HM1; clear HM1) | ((with_reducible refine iload ?_); first | refine ldb1 HM.out 0 rfl rfl rfl ?_ | refine ldb1 HM.out 1 rfl rfl rfl ?_ | refine ldb1 HM.out 2 rfl rfl rfl ?_) | ((with_reducible refine ialloc ?_); refine alb rfl HM.out ?_; intro g1 W1 HM1; replace HM := Lib.hid HM1; clear HM1) | ((with_reducible refine ibox ?_); refine bx1 (v := .pointer _) rfl HM.out rfl rfl ?_; intro g1 W1 HM1; replace HM := Lib.hid HM1; clear HM1))
  first | go_end0 | go_ret | go_ret2
  exact XPost.ok_ HR.out (by simp only [List.append_assoc]) (HM.out.sub (.cons_cons _ (.cons_cons _ (.cons _ (.refl _)))))
 rw [if_neg g1] at hR2
 rw [Bool.not_eq_true] at g1
 by_cases g2 : (tx.toList == [102, 97, 108, 115, 101]) = true
 ·rw [if_pos g2] at hR2
  have HR := Lib.hid hR2
  clear hR2
  go_enter Tryz.func220, Tryz.ntmps220
  go_wp2_with (first | ((with_reducible refine iat 2 ?_); (refine bx1 (v := .pointer _) rfl HM.out rfl rfl ?_; intro g2 W2 HM1; clear HM; (try clear W1); rename World => W1; have HM := Lib.hid (HM1.perm ((List.Perm.swap _ _ _).trans (List.Perm.cons _ (List.Perm.swap _ _ _)))); clear HM1)) | (go_at_call 73; refine put_use _ _ HM.out (by (first | omega | (simp only [List.length_append, List.length_cons, List.length_nil]; omega))) ?_; intro op1 oc1 W2 hM2; have HM1 := Lib.hid hM2; clear HM hM2; (try clear W1); rename World => W1; have HM := HM1; clear HM1) | ((with_reducible refine iload ?_); first | refine ldb1 HM.out 0 rfl rfl rfl ?_ | refine ldb1 HM.out 1 rfl rfl rfl ?_ | refine ldb1 HM.out 2 rfl rfl rfl ?_) | ((with_reducible refine ialloc ?_); refine alb rfl HM.out ?_; intro g1 W1 HM1; replace HM := Lib.hid HM1; clear HM1) | ((with_reducible refine ibox ?_); refine bx1 (v := .pointer _) rfl HM.out rfl rfl ?_; intro g1 W1 HM1; replace HM := Lib.hid HM1; clear HM1))
  first | go_end0 | go_ret | go_ret2
  exact XPost.ok_ HR.out (by simp only [List.append_assoc]) (HM.out.sub (.cons_cons _ (.cons_cons _ (.cons _ (.refl _)))))
 rw [if_neg g2] at hR2
 rw [Bool.not_eq_true] at g2
 by_cases g3 : (tx.toList == [40]) = true
 ·rw [if_pos g3] at hR2
  have HR := Lib.hid hR2
  clear hR2
  go_enter Tryz.func220, Tryz.ntmps220
  go_wp2_with (first | ((with_reducible refine iat 2 ?_); (refine bx1 (v := .pointer _) rfl HM.out rfl rfl ?_; intro g2 W2 HM1; clear HM; (try clear W1); rename World => W1; have HM := Lib.hid (HM1.perm ((List.Perm.swap _ _ _).trans (List.Perm.cons _ (List.Perm.swap _ _ _)))); clear HM1)) | (go_at_call 49; refine XC.use (ihE fuel (Nat.le_refl _)) HR.out hr HTk.out HM.out (by omega) (by omega) (by (first | omega | (simp only [List.length_append, List.length_cons, List.length_nil]; omega))) (fun hno W2 hb => (show _ ∧ _ from ⟨rfl, XPost.no_ hno hb⟩)) ?_; intro l m j hR2 hG op1 oc1 W2 hM2; have hg := (hG (by simp)).lenc 0 rfl rfl rfl; clear hG; obtain ⟨hL, hF, hJ⟩ := hg; have HR1 := Lib.hid hR2; clear HR hR2; have HR := HR1; clear HR1; have HM1 := Lib.hid hM2; clear HM hM2; (try clear W1); rename World => W1; have HM := HM1; clear HM1) | (go_at_call 76; refine must_use HR.out HTk.out HM.out (by omega) hT1 (by omega) rfl (fun hno W2 hb => (show _ ∧ _ from ⟨rfl, XPost.no_ hno hb⟩)) ?_; intro hb hR2 W2 hM2; have hlt := isT_lt hb; clear hb; have HR1 := Lib.hid hR2; clear HR hR2; have HR := HR1; clear HR1; have HM1 := Lib.hid hM2; clear HM hM2; (try clear W1); rename World => W1; have HM := HM1; clear HM1) | ((with_reducible refine iload ?_); first | refine ldb1 HM.out 0 rfl rfl rfl ?_ | refine ldb1 HM.out 1 rfl rfl rfl ?_ | refine ldb1 HM.out 2 rfl rfl rfl ?_) | ((with_reducible refine ialloc ?_); refine alb rfl HM.out ?_; intro g1 W1 HM1; replace HM := Lib.hid HM1; clear HM1) | ((with_reducible refine ibox ?_); refine bx1 (v := .pointer _) rfl HM.out rfl rfl ?_; intro g1 W1 HM1; replace HM := Lib.hid HM1; clear HM1))
  first | go_end0 | go_ret | go_ret2
  exact XPost.ok_ HR.out (by simp only [List.append_assoc]) (HM.out.sub (.cons_cons _ (.cons_cons _ (.cons _ (.refl _)))))
 rw [if_neg g3] at hR2
 rw [Bool.not_eq_true] at g3
 by_cases g4 : (tx.toList == [91]) = true
 ·rw [if_pos g4] at hR2
  have HR := Lib.hid hR2
  clear hR2
  go_enter Tryz.func220, Tryz.ntmps220
  go_wp2_with (first | ((with_reducible refine iat 2 ?_); (refine bx1 (v := .pointer _) rfl HM.out rfl rfl ?_; intro g2 W2 HM1; clear HM; (try clear W1); rename World => W1; have HM := Lib.hid (HM1.perm ((List.Perm.swap _ _ _).trans (List.Perm.cons _ (List.Perm.swap _ _ _)))); clear HM1)) | ((with_reducible refine iload ?_); first | refine ldb1 HM.out 0 rfl rfl rfl ?_ | refine ldb1 HM.out 1 rfl rfl rfl ?_ | refine ldb1 HM.out 2 rfl rfl rfl ?_) | ((with_reducible refine ialloc ?_); refine alb rfl HM.out ?_; intro g1 W1 HM1; replace HM := Lib.hid HM1; clear HM1) | ((with_reducible refine ibox ?_); refine bx1 (v := .pointer _) rfl HM.out rfl rfl ?_; intro g1 W1 HM1; replace HM := Lib.hid HM1; clear HM1))
  refine wp_region_steps2 [(true, 0), (true, 1), (true, 2), (false, 3), (false, 4), (false, 5)] (by kernel_rfl) (by kernel_rfl) rfl (by kernel_rfl) (fun _ _ _ _ _ h => h) HM.out _ (.cons _ (.cons _ (.cons_cons _ (List.nil_sublist _)))) ?_
  intro hNE W1 HM1; replace HM := Lib.hid HM1; clear HM1
  have HS0 := Lib.hid (HM.out.sub (.cons _ (.cons _ (.cons_cons _ (List.nil_sublist _)))))
  simp only [wpSteps, List.getElem?_cons_succ, List.getElem?_cons_zero]
  (repeat (first | ((with_reducible refine wpQuiet_nil ?_); (try dsimp only)) | ((with_reducible refine qload ?_); first | (refine qdb1 HS0.out 0 rfl rfl rfl ?_)) | go_big_quiet_step (fail) | quiet_step (fail)))
  go_wp2_with (first | fail)
  refine ⟨⟨⟨_, HM.out.sub (by repeat (first | exact List.nil_sublist _ | with_reducible refine List.Sublist.cons_cons _ ?_ | refine List.Sublist.cons _ ?_))⟩, rfl⟩, ?_⟩
  (try dsimp only)
  go_wp2_with (first | (go_at_call 219; refine XL.use (xList_at hT fuel ihE 93) HR.out hr HTk.out HM.out (by omega) (by omega) (by (first | omega | (simp only [List.length_append, List.length_cons, List.length_nil]; omega))) rfl (fun hno W2 hb => (show _ ∧ _ from ⟨rfl, XPost.no_ hno hb⟩)) ?_; intro l m j hR2 hg op1 oc1 W2 hM2; obtain ⟨hL, hF, hJ, hm⟩ := hg; have HR1 := Lib.hid hR2; clear HR hR2; have HR := HR1; clear HR1; have HM1 := Lib.hid hM2; clear HM hM2; (try clear W1); rename World => W1; have HM := HM1; clear HM1) | (go_at_call 73; refine put_use _ _ HM.out (by (first | omega | (simp only [List.length_append, List.length_cons, List.length_nil]; omega))) ?_; intro op1 oc1 W2 hM2; have HM1 := Lib.hid hM2; clear HM hM2; (try clear W1); rename World => W1; have HM := HM1; clear HM1))
  refine ⟨⟨⟨_, HM.out.sub (by repeat (first | exact List.nil_sublist _ | with_reducible refine List.Sublist.cons_cons _ ?_ | refine List.Sublist.cons _ ?_))⟩, rfl⟩, ?_⟩
  (try dsimp only)
  go_wp2_with (first | (go_at_call 73; refine put_use _ _ HM.out (by (first | omega | (simp only [List.length_append, List.length_cons, List.length_nil]; omega))) ?_; intro op1 oc1 W2 hM2; have HM1 := Lib.hid hM2; clear HM hM2; (try clear W1); rename World => W1; have HM := HM1; clear HM1))
  refine ⟨⟨⟨_, HM.out.sub (by repeat (first | exact List.nil_sublist _ | with_reducible refine List.Sublist.cons_cons _ ?_ | refine List.Sublist.cons _ ?_))⟩, rfl⟩, ?_⟩
  (try dsimp only)
  clear HS0 hNE
  go_wp2_with fail
  first | go_end0 | go_ret | go_ret2
  exact XPost.ok_ HR.out (by simp only [List.append_assoc]) (HM.out.sub (.cons_cons _ (.cons_cons _ (.cons _ (.refl _)))))
 rw [if_neg g4] at hR2
 rw [Bool.not_eq_true] at g4
 by_cases g5 : (tx.toList == [123]) = true
 ·rw [if_pos g5] at hR2
  have HR := Lib.hid hR2
  clear hR2
  go_enter Tryz.func220, Tryz.ntmps220
  go_wp2_with (first | ((with_reducible refine iat 2 ?_); (refine bx1 (v := .pointer _) rfl HM.out rfl rfl ?_; intro g2 W2 HM1; clear HM; (try clear W1); rename World => W1; have HM := Lib.hid (HM1.perm ((List.Perm.swap _ _ _).trans (List.Perm.cons _ (List.Perm.swap _ _ _)))); clear HM1)) | ((with_reducible refine iat 4 ?_); (refine alb rfl HM.out ?_; intro g4 W2 HM1; clear HM; (try clear W1); rename World => W1; have HM := Lib.hid ((HM1.row0 9 1).five); clear HM1)) | (go_at_call 219; refine ctxl_use hT ihE HR.out hr HTk.out HM.out (by omega) (by omega) (by (first | omega | (simp only [List.length_append, List.length_cons, List.length_nil]; omega))) (fun hno W2 hb => (show _ ∧ _ from ⟨rfl, XPost.no_ hno hb⟩)) ?_; intro l m j hR2 hg op1 np1 oc1 nc1 n1 W2 hM2; obtain ⟨hL, hF, hJ, hm⟩ := hg; have HR1 := Lib.hid hR2; clear HR hR2; have HR := HR1; clear HR1; have HM1 := Lib.hid hM2; clear HM hM2; (try clear W1); rename World => W1; have HM := HM1; clear HM1) | (go_at_call 73; refine put_use _ _ HM.out (by (first | omega | (simp only [List.length_append, List.length_cons, List.length_nil]; omega))) ?_; intro op1 oc1 W2 hM2; have HM1 := Lib.hid hM2; clear HM hM2; (try clear W1); rename World => W1; have HM := HM1; clear HM1) | ((with_reducible refine iload ?_); first | refine ldb1 HM.out 0 rfl rfl rfl ?_ | refine ldb1 HM.out 1 rfl rfl rfl ?_ | refine ldb1 HM.out 2 rfl rfl rfl ?_ | refine ldb1 HM.out 3 rfl rfl rfl ?_) | ((with_reducible refine ialloc ?_); refine alb rfl HM.out ?_; intro g1 W1 HM1; replace HM := Lib.hid HM1; clear HM1) | ((with_reducible refine ibox ?_); refine bx1 (v := .pointer _) rfl HM.out rfl rfl ?_; intro g1 W1 HM1; replace HM := Lib.hid HM1; clear HM1))
  first | go_end0 | go_ret | go_ret2
  exact XPost.ok_ HR.out (by simp only [List.append_assoc]) (HM.out.sub (.cons_cons _ (.cons_cons _ (.cons _ (.cons _ (.refl _))))))
 rw [if_neg g5] at hR2
 rw [Bool.not_eq_true] at g5
 have hno : r = .no := hR2.symm
 clear hR2
 go_enter Tryz.func220, Tryz.ntmps220
 go_wp2_with (first | ((with_reducible refine iat 2 ?_); (refine bx1 (v := .pointer _) rfl HM.out rfl rfl ?_; intro g2 W2 HM1; clear HM; (try clear W1); rename World => W1; have HM := Lib.hid (HM1.perm ((List.Perm.swap _ _ _).trans (List.Perm.cons _ (List.Perm.swap _ _ _)))); clear HM1)) | (go_at_call 50; (with_reducible refine (xFail _).mono ?_); rintro e W2 ⟨rfl, rfl⟩; unfold faultE) | ((with_reducible refine iload ?_); first | refine ldb1 HM.out 0 rfl rfl rfl ?_ | refine ldb1 HM.out 1 rfl rfl rfl ?_ | refine ldb1 HM.out 2 rfl rfl rfl ?_) | ((with_reducible refine ialloc ?_); refine alb rfl HM.out ?_; intro g1 W1 HM1; replace HM := Lib.hid HM1; clear HM1) | ((with_reducible refine ibox ?_); refine bx1 (v := .pointer _) rfl HM.out rfl rfl ?_; intro g1 W1 HM1; replace HM := Lib.hid HM1; clear HM1))
 exact ⟨rfl, XPost.no_ (by first | exact hno | rfl) HM.out.below⟩
end Go.Proofs.YtkackccmhghphaaGreatDoor
