/- Two arrays of four words: are they the same? -/
import Derived.Test.YtgobdcmoelcckaaGreatDoorTypes
import Derived.Test.YtgobdcmoelcckaaGreatDoorSepA
import Derived.ChangeKeysEq
namespace Go.Proofs.YtgobdcmoelcckaaGreatDoor
open Go.RowKit
set_option linter.unusedVariables false
set_option maxRecDepth 100000

theorem eq_long (a b c d : Int) (w : World) : (Op.equalIn 10000 80 (.agg #[.int .u64 a, .int .u64 b, .int .u64 c, .int .u64 d]) (.agg #[.int .u64 0, .int .u64 0, .int .u64 0, .int .u64 0])).run Tryz.prog w = .ok (a == 0 && (b == 0 && (c == 0 && d == 0))) w := by
  obtain ⟨i, hi⟩ : ∃ i, Tryz.prog.info? 22 = some i := Option.isSome_iff_exists.1 (by kernel_rfl)
  have hu : Tryz.prog.underlying 80 = some (.array 4 22) := by kernel_rfl
  have hc : Tryz.prog.cellsOf 22 = 1 := by kernel_rfl
  have hv : Tryz.prog.underlying 22 = some (.int .u64) := by kernel_rfl
  have he : Tryz.prog.plainKey 22 = true := by kernel_rfl
  have h := Go.run_equalIn_array (P := Tryz.prog) w 9999 (t := 80) #[.int .u64 a, .int .u64 b, .int .u64 c, .int .u64 d] #[.int .u64 0, .int .u64 0, .int .u64 0, .int .u64 0] hu hi
  refine h.trans ?_
  rw [hc]
  have hl : List.range 4 = [0, 1, 2, 3] := rfl
  rw [hl]
  have p0 : ∀ (x0 x1 x2 x3 : Value), (part 22 #[x0, x1, x2, x3] 0).run Tryz.prog w = .ok x0 w := fun x0 x1 x2 x3 => run_part_plain w he rfl
  have p1 : ∀ (x0 x1 x2 x3 : Value), (part 22 #[x0, x1, x2, x3] 1).run Tryz.prog w = .ok x1 w := fun x0 x1 x2 x3 => run_part_plain w he rfl
  have p2 : ∀ (x0 x1 x2 x3 : Value), (part 22 #[x0, x1, x2, x3] 2).run Tryz.prog w = .ok x2 w := fun x0 x1 x2 x3 => run_part_plain w he rfl
  have p3 : ∀ (x0 x1 x2 x3 : Value), (part 22 #[x0, x1, x2, x3] 3).run Tryz.prog w = .ok x3 w := fun x0 x1 x2 x3 => run_part_plain w he rfl
  have pe : ∀ (x : Int), (Op.equalIn 9999 22 (.int .u64 x) (.int .u64 0)).run Tryz.prog w = .ok (x == 0) w := fun x => run_equalIn_int w 9998 _ _ _ _ _ hv
  cases h0 : (a == 0) <;> cases h1 : (b == 0) <;> cases h2 : (c == 0) <;> cases h3 : (d == 0) <;> simp [Op.eqItems, p0, p1, p2, p3, pe, h0, h1, h2, h3]
theorem eql_long (a b c d : Int) (w : World) : (binOp .eql 80 (.agg #[.int .u64 a, .int .u64 b, .int .u64 c, .int .u64 d]) (.agg #[.int .u64 0, .int .u64 0, .int .u64 0, .int .u64 0])).run Tryz.prog w = .ok (.bool (a == 0 && (b == 0 && (c == 0 && d == 0)))) w := by
  rw [run_eql_struct, eq_long]
  rfl
end Go.Proofs.YtgobdcmoelcckaaGreatDoor
