/- How the grammar of expressions reads what is put together: brackets, sums, comparisons, choices; in plain Lean. -/
import Derived.Test.YtkackccmhghphaaGreatDoorExprEmb
namespace Go.Proofs.YtkackccmhghphaaGreatDoor
open Go.RowKit
set_option linter.unusedVariables false
set_option linter.unusedSimpArgs false

section
variable {T:List TokD}
end
/-- With so much fuel or more the grammar reads that. -/
def Ev (L:List TokD) (N:NT) (i:Nat) (l:List NodeD) (n j f:Nat):Prop:=∀ g,f≤g→G L g N i = .ok l n j
/-- What may stand behind a whole expression: nothing, a closing bracket, then, else. -/
def FinT (L:List TokD) (j:Nat):Prop:=(sgT L j).toList=[]∨(sgT L j).toList=[41]∨(sgT L j).toList=[116,104,101,110]∨(sgT L j).toList=[101,108,115,101]
section
variable {L:List TokD} {N:NT} {i j k q f f' f'' n m:Nat} {l a b c r:List NodeD}
theorem Ev.mono (h:Ev L N i l n j f) (hf:f≤f'):Ev L N i l n j f':=fun g hg=>h g (Nat.le_trans hf hg)
theorem FinT.no (h:FinT L j) {s:List UInt8} (hs:s≠[]∧s≠[41]∧s≠[116,104,101,110]∧s≠[101,108,115,101]):isT L j s=false:=by
 cases hb:isT L j s with
 | false=>rfl
 | true=>
  unfold isT at hb
  have e:=beq_iff_eq.1 hb
  rcases h with h|h|h|h <;> (rw [h] at e;first|exact absurd e.symm hs.1|exact absurd e.symm hs.2.1|exact absurd e.symm hs.2.2.1|exact absurd e.symm hs.2.2.2)
theorem FinT.rel (h:FinT L j):relT L j=0:=by
 unfold relT
 rcases h with h|h|h|h <;> (rw [h];rfl)
theorem FinT.of (h:isT L j [41]=true):FinT L j:=.inr (.inl (beq_iff_eq.1 h))
end
/-- What a text that is right comes to. -/
theorem parse_ok {s:ByteArray} {tests:Bool} {a:List NodeD} (h:parseF s tests=(a,0)):∃ n,lexF s=((lexF s).1,0)∧topG (lexF s).1 tests = .ok a n (lexF s).1.length∧checkC a tests=0:=by
 unfold parseF at h
 split at h
 ·rename_i h0
  unfold topF at h
  cases hg:topG (lexF s).1 tests with
  | out=>rw [hg] at h;cases h
  | no=>rw [hg] at h;cases h
  | ok l n j=>
   rw [hg] at h
   simp only at h
   split at h
   ·rename_i hj
    split at h
    ·rename_i hc
     cases h
     exact ⟨n,by rw [← h0],by rw [hj],hc⟩
    ·rename_i hc
     exact absurd (congrArg Prod.snd h) hc
   ·cases h
 ·rename_i h0
  exact absurd (congrArg Prod.snd h) h0
end Go.Proofs.YtkackccmhghphaaGreatDoor
