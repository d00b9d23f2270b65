/- The reference's Function: what it answers. (fast) -/
import Derived.Test.YtpjcjgikfplgnaaDoorCheckThing
namespace Go.Proofs.YtpjcjgikfplgnaaDoor
open Go.RowKit
set_option linter.unusedVariables false
set_option linter.unusedSimpArgs false
set_option maxRecDepth 100000

/-- What the reference's Function answers: a slice of its own. -/
def RFnPost (r : Option (List TyD × TyD)) (w : World) (e : Ending) (w' : World) : Prop :=
  match r with
  | none => e = .returned (.tuple #[.slice none 0 0, .agg #[.int .i64 0, .int .i64 0], .bool false]) ∧ Below w.heap.size w w'
  | some (ts, g) => ∃ q, e = .returned (.tuple #[.slice (some ⟨q, 0, none⟩) ts.length ts.length, .agg g.cs.toArray, .bool true]) ∧ Mem w w' [.row (some ⟨q, 0, none⟩) ts.length 25 2 ts.length (ts.flatMap TyD.cs)]
end Go.Proofs.YtpjcjgikfplgnaaDoor
