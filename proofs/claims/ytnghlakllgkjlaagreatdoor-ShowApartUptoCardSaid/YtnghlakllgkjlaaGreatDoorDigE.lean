/- Lists of digits, the least first: what they come to; in plain Lean. The reference's numbers: Cut, Shift, Plus. (short) The reference's numbers: Less. (short) The reference's numbers: Of, Cmp, a sum of signed sizes. (short) -/
import Derived.Test.YtnghlakllgkjlaaGreatDoorDecA
import Derived.Test.YtnghlakllgkjlaaGreatDoorWideA
import Derived.Test.YtnghlakllgkjlaaGreatDoorSepA
namespace Go.Proofs.YtnghlakllgkjlaaGreatDoor
open Go.RowKit
set_option linter.unusedVariables false
set_option maxRecDepth 100000
def dgC (x:Nat):List Value:=[.int .i64 x]
theorem dgC_len (x:Nat):(dgC x).length=1:=rfl
theorem dig_len_pos {n:Nat} (hn:n≠0):0 < (dig n).length:=by rw [dig_pos hn];simp
set_option linter.unusedSimpArgs false
theorem iV_flat (l:List Nat):l.map iV=l.flatMap dgC:=by
 induction l with
 | nil=>rfl
 | cons a r ih=>rw [List.map_cons,List.flatMap_cons,ih];rfl
theorem ofd_any (n hi lo:Nat) (w:World) (h:W2 n hi lo) :
  Calls Tryz.prog 97 #[.agg #[.int .u64 hi,.int .u64 lo]] w fun e w'=>∃ p c,e = .returned (.slice p (dig n).length c)∧Mem w w' [.row p c 3 1 (dig n).length ((dig n).flatMap dgC)]:=by
 refine (of_any n hi lo w h).mono ?_
 rintro e w' ⟨v',rfl,hd,hb⟩
 obtain ⟨p,c,rfl,-⟩:=hd.shape
 exact ⟨p,c,rfl,hb,(fun r hr=>by
  rw [List.mem_singleton.1 hr,← iV_flat]
  exact hd),List.pairwise_singleton _ _⟩
end Go.Proofs.YtnghlakllgkjlaaGreatDoor
