/- mark's reader on the document that the laws' fixed fact asks for: its parts. (short) mark's reader puts a first attribute to an open. (short) A scope with labels, run jump by jump: so many jumps at most, each walked on from its label. No program in sight. More laws: a region that draws, whose first operations come up one by one (a call that turns what is looked at behind it); then an order. No program in sight. -/
import Derived.Test.YtanncakdlflopaaGreatDoorMarkBF
import Derived.Test.YtanncakdlflopaaGreatDoorUnesc
import Derived.ScopeJumps
import Derived.WalkMore
import Derived.Test.YtanncakdlflopaaGreatDoorSepA
namespace Go.Proofs.YtanncakdlflopaaGreatDoor
open Go.RowKit
set_option linter.unusedVariables false
set_option linter.unusedSimpArgs false
set_option maxRecDepth 100000

def kS : ByteArray := ⟨#[60, 97, 32, 120, 61, 39, 49, 39, 47, 62]⟩
section
variable {w0 W : World} {R : Nat} {T : List Res} {ov : Value} {lg dp : Bool}
theorem kword (i j : Nat) (a b : Int) (N : ByteArray) (nb : Bool) (ha : a = (i : Int)) (hb : b = (j : Int)) (hi : i ≤ kS.size) (h1 : spE insU kS.data.toList i = j) (h2 : kS.extract i j = N) (h3 : nameM N = nb) (h : Mem w0 W (.box R 85 [.string kS, .int .i64 a, ov, .bool lg, .bool dp] :: T)) :
    Calls Tryz.prog 68 #[.pointer (some ⟨R, 0, none⟩)] W fun e w' => e = .returned (.tuple #[.string N, .bool nb]) ∧ Mem w0 w' (.box R 85 [.string kS, .int .i64 b, ov, .bool lg, .bool dp] :: T) := by
  subst ha hb
  have := mword_any w0 W R T kS i ov lg dp h hi (by decide)
  rw [h1, h2, h3] at this
  exact this
theorem kblanks (i j : Nat) (a b : Int) (v : Bool) (ha : a = (i : Int)) (hb : b = (j : Int)) (hi : i ≤ kS.size) (h1 : spE blkB kS.data.toList i = j) (h2 : decide (j > i) = v) (h : Mem w0 W (.box R 85 [.string kS, .int .i64 a, ov, .bool lg, .bool dp] :: T)) :
    Calls Tryz.prog 64 #[.pointer (some ⟨R, 0, none⟩)] W fun e w' => e = .returned (.bool v) ∧ Mem w0 w' (.box R 85 [.string kS, .int .i64 b, ov, .bool lg, .bool dp] :: T) := by
  subst ha hb
  have := mblanks_any w0 W R T kS i ov lg dp h hi (by decide)
  rw [h1, h2] at this
  exact this
theorem ktake (t : ByteArray) (i j : Nat) (a b : Int) (ha : a = (i : Int)) (hb : b = (j : Int)) (hi : i ≤ kS.size) (h1 : Lib.hasPrefix (kS.data.toList.drop i) t.data.toList = true) (h2 : i + t.size = j) (h : Mem w0 W (.box R 85 [.string kS, .int .i64 a, ov, .bool lg, .bool dp] :: T)) :
    Calls Tryz.prog 63 #[.pointer (some ⟨R, 0, none⟩), .string t] W fun e w' => e = .returned (.bool true) ∧ Mem w0 w' (.box R 85 [.string kS, .int .i64 b, ov, .bool lg, .bool dp] :: T) := by
  subst ha hb
  have := mtake_yes w0 W R T kS t i ov lg dp h hi (by decide) h1
  rw [h2] at this
  exact this
theorem knot (t : ByteArray) (i : Nat) (a : Int) (ha : a = (i : Int)) (hi : i ≤ kS.size) (h1 : Lib.hasPrefix (kS.data.toList.drop i) t.data.toList = false) (h : Mem w0 W (.box R 85 [.string kS, .int .i64 a, ov, .bool lg, .bool dp] :: T)) :
    Calls Tryz.prog 63 #[.pointer (some ⟨R, 0, none⟩), .string t] W fun e w' => e = .returned (.bool false) ∧ Mem w0 w' (.box R 85 [.string kS, .int .i64 a, ov, .bool lg, .bool dp] :: T) := by
  subst ha
  exact mtake_no w0 W R T kS t i ov lg dp h hi (by decide) h1
theorem kuntil (c : UInt8) (i j : Nat) (a b : Int) (m t : List UInt8) (X : ByteArray) (ha : a = (i : Int)) (hb : b = (j : Int)) (hi : i ≤ kS.size) (h1 : cutL c (kS.data.toList.drop i) = some (m, t)) (h2 : i + (m.length + 1) = j) (h3 : kS.extract i (i + m.length) = X) (h : Mem w0 W (.box R 85 [.string kS, .int .i64 a, ov, .bool lg, .bool dp] :: T)) :
    Calls Tryz.prog 65 #[.pointer (some ⟨R, 0, none⟩), .string ⟨#[c]⟩] W fun e w' => e = .returned (.tuple #[.string X, .bool true]) ∧ Mem w0 w' (.box R 85 [.string kS, .int .i64 b, ov, .bool lg, .bool dp] :: T) := by
  subst ha hb
  have := muntil_at w0 W R T kS c i ov lg dp m t h hi (by decide) h1
  rw [h2, h3] at this
  exact this
end
theorem kunesc (W : World) (hT : U8 W) (hE : ErrsAt W) : Calls Tryz.prog 98 #[.string ⟨#[49]⟩, .bool true] W fun e w' => e = .returned (.tuple #[.string ⟨#[49]⟩, .int .i64 0]) ∧ Below W.heap.size W w' := by
  have := unescape_any ⟨#[49]⟩ true W hT hE (by decide)
  rw [show unescV true ⟨#[49]⟩ = .tuple #[.string ⟨#[49]⟩, .int .i64 0] from unescV_ok (cs := [49]) (by decide +kernel) (by decide +kernel)] at this
  exact this

set_option maxHeartbeats 4000000 in
theorem kattr (w0 W : World) (R : Nat) (T : List Res) (ov : Value) (lg dp : Bool) (hT : U8 w0) (hE : ErrsAt w0) (h : Mem w0 W (.box R 85 [.string kS, .int .i64 3, ov, .bool lg, .bool dp] :: T)) :
    Calls Tryz.prog 70 #[.pointer (some ⟨R, 0, none⟩)] W fun e w' => e = .returned (.tuple #[.agg #[.string ⟨#[120]⟩, .string ⟨#[49]⟩], .bool true]) ∧ Mem w0 w' (.box R 85 [.string kS, .int .i64 8, ov, .bool lg, .bool dp] :: T) := by
  have HM := Lib.hid h
  have HT := Lib.hid hT
  have HE := Lib.hid hE
  clear h hT hE
  go_enter Tryz.func70, Tryz.ntmps70
  go_wp2_with (first | (refine mS ?_; clear HM; intro W1 HM) | (refine hal (dst := some 2) HM rfl ?_; clear HM; intro g2 W1 HM))
  have HM1 := Lib.hid (HM.out.perm (List.Perm.swap _ _ _))
  clear HM
  have HM := HM1
  clear HM1
  refine (kword 3 4 3 4 ⟨#[120]⟩ true rfl rfl (by decide) (by decide +kernel) (by decide +kernel) (by decide +kernel) HM.out).mono ?_
  rintro e W2 ⟨rfl, hM⟩
  clear HM
  (try clear W1)
  have HM := Lib.hid hM
  clear hM
  go_wp2_with fail
  refine (kblanks 4 4 4 4 false rfl rfl (by decide) (by decide +kernel) (by decide) HM.out).mono ?_
  rintro e W2 ⟨rfl, hM⟩
  clear HM
  (try clear W1)
  have HM := Lib.hid hM
  clear hM
  go_wp2_with fail
  refine (ktake ⟨#[61]⟩ 4 5 4 5 rfl rfl (by decide) (by decide +kernel) (by decide) HM.out).mono ?_
  rintro e W2 ⟨rfl, hM⟩
  clear HM
  (try clear W1)
  have HM := Lib.hid hM
  clear hM
  go_wp2_with fail
  refine (kblanks 5 5 5 5 false rfl rfl (by decide) (by decide +kernel) (by decide) HM.out).mono ?_
  rintro e W2 ⟨rfl, hM⟩
  clear HM
  (try clear W1)
  have HM := Lib.hid hM
  clear hM
  go_wp2_with fail
  refine (knot ⟨#[34]⟩ 5 5 rfl (by decide) (by decide +kernel) HM.out).mono ?_
  rintro e W2 ⟨rfl, hM⟩
  clear HM
  (try clear W1)
  have HM := Lib.hid hM
  clear hM
  go_wp2_with fail
  refine (ktake ⟨#[39]⟩ 5 6 5 6 rfl rfl (by decide) (by decide +kernel) (by decide) HM.out).mono ?_
  rintro e W2 ⟨rfl, hM⟩
  clear HM
  (try clear W1)
  have HM := Lib.hid hM
  clear hM
  go_wp2_with fail
  refine (kuntil 39 6 8 6 8 [49] [47, 62] ⟨#[49]⟩ rfl rfl (by decide) (by decide +kernel) (by decide) (by decide +kernel) HM.out).mono ?_
  rintro e W2 ⟨rfl, hM⟩
  clear HM
  (try clear W1)
  have HM := Lib.hid hM
  clear hM
  go_wp2_with fail
  refine (kunesc _ (HT.out.below HM.out.below) (HE.out.below HM.out.below)).mono ?_
  rintro e W2 ⟨rfl, hb⟩
  have HM1 := Lib.hid (HM.out.next hb)
  clear HM hb
  have HM := HM1
  clear HM1
  go_wp2_with (first | (refine mS ?_; clear HM; intro W1 HM) | (refine hal HM rfl ?_; clear HM; intro g1 W1 HM))
  exact bodyPost_ret (res_box_tmp rfl HM.out 1 rfl rfl rfl rfl) rfl ⟨rfl, HM.out.sub (.cons_cons _ (.cons _ (.refl _)))⟩
end Go.Proofs.YtanncakdlflopaaGreatDoor

namespace Go.Proofs.YtanncakdlflopaaGreatDoor
open Go.RowKit
set_option linter.unusedVariables false
set_option linter.unusedSimpArgs false
set_option maxRecDepth 100000

set_option maxHeartbeats 4000000 in
theorem madd_first (w0 W : World) (R O : Nat) (T : List Res) (S an av nm : ByteArray) (i : Int) (ov : Value) (h : Mem w0 W (.box R 85 [.string S, .int .i64 i, ov, .bool false, .bool false] :: .box O 57 [.int .i64 1, .string nm, .slice none 0 0, .string ⟨#[]⟩] :: T)) :
    Calls Tryz.prog 71 #[.pointer (some ⟨R, 0, none⟩), .pointer (some ⟨O, 0, none⟩), .agg #[.string an, .string av]] W fun e w' => e = .returned (.tuple #[]) ∧ ∃ p cap, Mem w0 w' (.box R 85 [.string S, .int .i64 i, ov, .bool false, .bool false] :: .box O 57 [.int .i64 1, .string nm, .slice p 1 cap, .string ⟨#[]⟩] :: .row p cap 44 2 1 [.string an, .string av] :: T) := by
  have HM := Lib.hid (h.row0 44 2)
  clear h
  go_enter Tryz.func71, Tryz.ntmps71
  go_wp2_with (first | ((with_reducible refine skip_op ?_ ?_); exact rfl) | refine mP ?_ | (refine mS ?_; clear HM; intro W1 HM) | (refine mL ?_; clear HM; intro g1 W1 HM) | ((with_reducible refine iat 5 ?_); refine mB ?_; clear HM; intro g5 W1 HM) | (refine hal HM rfl ?_; clear HM; intro g1 W1 HM))
  go_loopw [13] (fun iv wr => iv = .int .i64 0 ∧ Hid (Mem w0 wr (.box g5 44 [.string an, .string av] :: .row none 0 44 2 0 [] :: .box R 85 [.string S, .int .i64 i, ov, .bool false, .bool false] :: .box O 57 [.int .i64 1, .string nm, .slice none 0 0, .string ⟨#[]⟩] :: T))) (fun _ _ => 0)
  case atStart => exact ⟨rfl, HM⟩
  case round =>
    clear HM
    obtain ⟨rfl, HM⟩ := hrel
    go_wp2_with fail
    refine wp_region_mem3 10 [(0, 0), (0, 1), (0, 2), (0, 3), (0, 4), (0, 5), (2, 6), (2, 7), (1, 8), (1, 9), (3, 10)] (by kernel_rfl) (by kernel_rfl) rfl (by kernel_rfl) (fun _ _ _ _ _ h => h) HM.out _ (.cons_cons _ (.cons _ (.cons_cons _ (.cons_cons _ (List.nil_sublist _))))) ?_
    intro hNE W1 HM1; replace HM := Lib.hid HM1; clear HM1
    have HS0 := Lib.hid (HM.out.sub (.cons_cons _ (.cons _ (.cons_cons _ (.cons_cons _ (List.nil_sublist _))))))
    simp only [wpSteps3, List.getElem?_cons_succ, List.getElem?_cons_zero]
    (repeat (first | ((with_reducible refine wpQuiet_nil ?_); (try dsimp only)) | refine mQ ?_ | go_big_quiet_step (fail) | quiet_step (fail)))
    go_wp2_with (first | (refine mL ?_; clear HM; intro g1 W1 HM))
    refine ⟨⟨⟨_, HM.out.sub (by repeat (first | exact List.nil_sublist _ | with_reducible refine List.Sublist.cons_cons _ ?_ | refine List.Sublist.cons _ ?_))⟩, rfl⟩, ?_⟩
    (try dsimp only)
    go_wp2_with (first | (refine apb rfl HM.out 2 0 rfl rfl rfl rfl rfl rfl (by omega) (by omega) (by omega) ?_; intro p1 cap1 W1 HM1; replace HM := Lib.hid HM1; clear HM1; simp only [List.set] at HM))
    refine ⟨⟨⟨_, HM.out.sub (by repeat (first | exact List.nil_sublist _ | with_reducible refine List.Sublist.cons_cons _ ?_ | refine List.Sublist.cons _ ?_))⟩, rfl⟩, ?_⟩
    (try dsimp only)
    (repeat (first | ((with_reducible refine wpQuiet_nil ?_); (try dsimp only)) | refine mQ ?_ | go_big_quiet_step (fail) | quiet_step (fail)))
    go_wp2_with (first | (refine mS ?_; clear HM; intro W1 HM))
    refine ⟨trivial, ?_⟩
    (try dsimp only)
    clear HS0 hNE
    go_wp2_with (first | ((with_reducible refine skip_op ?_ ?_); exact rfl) | refine mP ?_ | (refine mS ?_; clear HM; intro W1 HM) | (refine mL ?_; clear HM; intro g1 W1 HM) | (refine hal HM rfl ?_; clear HM; intro g1 W1 HM) | (refine mB ?_; clear HM; intro g1 W1 HM))
    go_end0
    exact ⟨rfl, p1, cap1, (HM.out.sub (.cons _ (.cons _ (.refl _)))).perm ((List.Perm.swap _ _ _).trans (List.Perm.cons _ (List.Perm.swap _ _ _)))⟩
end Go.Proofs.YtanncakdlflopaaGreatDoor

namespace Go.Proofs.YtanncakdlflopaaGreatDoor
set_option linter.unusedVariables false

/-- As Q; a goto: the code behind its label, so many jumps more. -/
def jumpQ (P : Program) (c : Code) (Q : Exit → Act → World → Prop) : Nat → Exit → Act → World → Prop
  | 0, .goto _, _, _ => False
  | n + 1, .goto l, a, w => ∃ x, findLabel c l = some (Code.seq .skip x) ∧ x.wp P (jumpQ P c Q n) a w
  | _, e, a, w => Q e a w
theorem wp_behind_skip2 {P : Program} {x : Code} {Q : Exit → Act → World → Prop} {a : Act} {w : World} (h : x.wp P Q a w) : (Code.seq .skip x).wp P Q a w := wp_seq (wp_skip h)
theorem wp_jumps {P : Program} {a : Act} {w : World} {Q : Exit → Act → World → Prop} {c : Code} (n : Nat) (h : c.wp P (jumpQ P c Q n) a w) : (Code.scope c).wp P Q a w := by
  intro b k cs
  have all : ∀ (n : Nat) (r : Code) (a : Act) (w : World), r.wp P (jumpQ P c Q n) a w → ∃ e x y, Q e x y ∧ Arrives P (lone (b.at a (.code r :: .inScope c :: k)) cs w) b k cs e x y := by
    intro n
    induction n with
    | zero =>
      intro r a w hw
      obtain ⟨e, a₁, w₁, hq, harr⟩ := hw b (.inScope c :: k) cs
      cases e with
      | normal => exact ⟨.normal, a₁, w₁, hq, Steps.trans harr (.one step_inScope)⟩
      | exit id => exact ⟨.exit id, a₁, w₁, hq, fun k' hk => harr k' (by simp [exitTo, hk])⟩
      | goto l => exact absurd hq (by simp [jumpQ])
      | ret => exact ⟨_, a₁, w₁, hq, harr⟩
      | panic ch => exact ⟨_, a₁, w₁, hq, harr⟩
      | outgrown => exact ⟨_, a₁, w₁, hq, harr⟩
    | succ n ih =>
      intro r a w hw
      obtain ⟨e, a₁, w₁, hq, harr⟩ := hw b (.inScope c :: k) cs
      cases e with
      | normal => exact ⟨.normal, a₁, w₁, hq, Steps.trans harr (.one step_inScope)⟩
      | exit id => exact ⟨.exit id, a₁, w₁, hq, fun k' hk => harr k' (by simp [exitTo, hk])⟩
      | goto l =>
        obtain ⟨x, hf, hx⟩ := hq
        obtain ⟨e₂, a₂, w₂, hq₂, harr₂⟩ := ih _ a₁ w₁ (wp_behind_skip2 hx)
        exact ⟨e₂, a₂, w₂, hq₂, .of_steps (harr _ (show gotoIn l (.inScope c :: k) = some (.code (Code.seq .skip x) :: .inScope c :: k) by simp [gotoIn, hf])) harr₂⟩
      | ret => exact ⟨_, a₁, w₁, hq, harr⟩
      | panic ch => exact ⟨_, a₁, w₁, hq, harr⟩
      | outgrown => exact ⟨_, a₁, w₁, hq, harr⟩
  obtain ⟨e, a₁, w₁, hq, harr⟩ := all n c a w h
  exact ⟨e, a₁, w₁, hq, .of_steps (.one step_scope) harr⟩
end Go.Proofs.YtanncakdlflopaaGreatDoor

namespace Go.Proofs.YtanncakdlflopaaGreatDoor
open Go.RowKit
set_option linter.unusedVariables false
section
variable {P : Program} {ops : Array Oper} {Q : Exit → Act → World → Prop} {md : Region.Mode} {S : World → Prop}
def wpPre (P : Program) (ops : Array Oper) (Q : Exit → Act → World → Prop) (N : Act → World → Prop) : List Nat → Act → World → Prop
  | [], a, w => N a w
  | i :: r, a, w => match ops.toList[i]? with
    | none => False
    | some o => wpList P ops (thenQ (fun _ => True) (wpPre P ops Q N r) Q) [o] a w
def preB (md : Region.Mode) (ops : Array Oper) (steps : List (Bool × Nat)) : List Nat → Array Bool → Bool
  | [], listed => stepsB2 md ops steps listed
  | i :: r, listed => (ops.toList[i]?).isSome && Region.ready md ops listed == [i] && preB md ops steps r (listed.setIfInBounds i true)
theorem pre_ok (hsel : Region.noSelect ops = true) (hQ : ∀ c a (t : Tmp) v w, Q (.panic c) (Act.put a (some t) v) w → Q (.panic c) a w) (steps : List (Bool × Nat)) : ∀ (pre : List Nat) (listed : Array Bool) (a : Act) (w : World), preB md ops steps pre listed = true →
    wpPre P ops Q (fun a w => ∃ S : World → Prop, S w ∧ wpSteps P ops S Q steps a w) pre a w → wpAny P md ops Q (steps.length + pre.length) listed a w
  | [], listed, a, w, hB, h => by
    obtain ⟨S, hS, h⟩ := h
    exact wpAny_of_held _ _ _ _ (steps_ok2 hsel hQ steps listed a w hB hS h)
  | i :: r, listed, a, w, hB, h => by
    unfold preB at hB
    unfold wpPre at h
    simp only [Bool.and_eq_true, beq_iff_eq] at hB
    obtain ⟨⟨ho, hr⟩, hB2⟩ := hB
    cases hoi : ops.toList[i]? with
    | none => rw [hoi] at h; exact h.elim
    | some o =>
      rw [hoi] at h
      have ho' : ops[i]? = some o := by rw [← hoi]; simp
      refine ⟨(fun h0 => by rw [hr] at h0; cases h0), fun j hj => ?_⟩
      rw [hr, List.mem_singleton] at hj
      subst hj
      exact alone3 ho' (fun a' w' hh => pre_ok hsel hQ steps r _ a' w' hB2 hh.2) h
theorem wp_region_pre {id : Nat} {l : List Oper} {a : Act} {w0 W : World} {L : List Res} (pre : List Nat) (steps : List (Bool × Nat)) (hm : P.follows .mixedOrders = true) (hsel : Region.noSelect l.toArray = true) (hn : steps.length + pre.length = l.length) (hB : preB .any l.toArray steps pre (Array.replicate l.length false) = true)
    (hQ : ∀ c a (t : Tmp) v w, Q (.panic c) (Act.put a (some t) v) w → Q (.panic c) a w) (HM : Mem w0 W L)
    (h : ∀ W', Mem w0 W' L → wpPre P l.toArray Q (fun a w => ∃ S : World → Prop, S w ∧ wpSteps P l.toArray S Q steps a w) pre a W') : (Code.region id l.toArray true).wp P Q a W := by
  have hM := HM.next (W' := { W with drawn := W.drawn + 1 }) (RowKit.Below.refl _ W).drew
  refine wp_region_any hm ?_
  have hs : (l.toArray).size = steps.length + pre.length := by rw [hn]; simp
  rw [hs]
  have := pre_ok (md := .any) hsel hQ steps pre (Array.replicate l.length false) a _ hB (h _ hM)
  rw [hn] at this ⊢
  exact this
theorem pre_end {a : Act} {w0 W : World} {L0 : List Res} {steps : List (Bool × Nat)} (HM : Mem w0 W L0) (h : Nonempty (MemW w0 L0) → wpSteps P ops (fun V => ∃ p : MemW w0 L0, V = p.W) Q steps a W) : ∃ S : World → Prop, S W ∧ wpSteps P ops S Q steps a W :=
  ⟨_, ⟨⟨_, HM⟩, rfl⟩, h ⟨⟨_, HM⟩⟩⟩
end
end Go.Proofs.YtanncakdlflopaaGreatDoor
