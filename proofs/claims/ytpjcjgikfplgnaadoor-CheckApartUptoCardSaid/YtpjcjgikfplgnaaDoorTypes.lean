/- The types of this program: cells, zeros, rows (printed by gen_types.py). -/
import Derived.Test.YtpjcjgikfplgnaaDoorSepA
import Derived.Test.YtpjcjgikfplgnaaDoorProg
namespace Go.Proofs.YtpjcjgikfplgnaaDoor
open Go.RowKit
set_option linter.unusedVariables false

-- int64
instance : CellT Tryd.prog 2 := ⟨fun w => by kernel_rfl, fun w => by kernel_rfl⟩
instance : ZeroA Tryd.prog 2 [.int .i64 0] := ⟨fun w => ⟨.int .i64 0, by kernel_rfl, rfl⟩⟩
-- int
instance : CellT Tryd.prog 3 := ⟨fun w => by kernel_rfl, fun w => by kernel_rfl⟩
instance : ZeroA Tryd.prog 3 [.int .i64 0] := ⟨fun w => ⟨.int .i64 0, by kernel_rfl, rfl⟩⟩
-- bool
instance : CellT Tryd.prog 4 := ⟨fun w => by kernel_rfl, fun w => by kernel_rfl⟩
instance : ZeroA Tryd.prog 4 [.bool false] := ⟨fun w => ⟨.bool false, by kernel_rfl, rfl⟩⟩
-- uint8
instance : CellT Tryd.prog 5 := ⟨fun w => by kernel_rfl, fun w => by kernel_rfl⟩
instance : ZeroA Tryd.prog 5 [.int .u8 0] := ⟨fun w => ⟨.int .u8 0, by kernel_rfl, rfl⟩⟩
-- string
instance : CellT Tryd.prog 9 := ⟨fun w => by kernel_rfl, fun w => by kernel_rfl⟩
instance : ZeroA Tryd.prog 9 [.string ⟨#[]⟩] := ⟨fun w => ⟨.string ⟨#[]⟩, by kernel_rfl, rfl⟩⟩
-- uintptr
instance : CellT Tryd.prog 12 := ⟨fun w => by kernel_rfl, fun w => by kernel_rfl⟩
instance : ZeroA Tryd.prog 12 [.int .u64 0] := ⟨fun w => ⟨.int .u64 0, by kernel_rfl, rfl⟩⟩
-- *runtime.TypeAssertionError
instance : CellT Tryd.prog 15 := ⟨fun w => by kernel_rfl, fun w => by kernel_rfl⟩
instance : ZeroA Tryd.prog 15 [.pointer none] := ⟨fun w => ⟨.pointer none, by kernel_rfl, rfl⟩⟩
-- *runtime.PanicNilError
instance : CellT Tryd.prog 16 := ⟨fun w => by kernel_rfl, fun w => by kernel_rfl⟩
instance : ZeroA Tryd.prog 16 [.pointer none] := ⟨fun w => ⟨.pointer none, by kernel_rfl, rfl⟩⟩
-- *abi.Type
instance : CellT Tryd.prog 17 := ⟨fun w => by kernel_rfl, fun w => by kernel_rfl⟩
instance : ZeroA Tryd.prog 17 [.pointer none] := ⟨fun w => ⟨.pointer none, by kernel_rfl, rfl⟩⟩
-- int32
instance : CellT Tryd.prog 21 := ⟨fun w => by kernel_rfl, fun w => by kernel_rfl⟩
instance : ZeroA Tryd.prog 21 [.int .i32 0] := ⟨fun w => ⟨.int .i32 0, by kernel_rfl, rfl⟩⟩
-- []api.Type
instance : CellT Tryd.prog 23 := ⟨fun w => by kernel_rfl, fun w => by kernel_rfl⟩
instance : ZeroA Tryd.prog 23 [.slice none 0 0] := ⟨fun w => ⟨.slice none 0 0, by kernel_rfl, rfl⟩⟩
instance : RowT Tryd.prog 23 25 2 16 (.agg #[.int .i64 0, .int .i64 0]) := ⟨by kernel_rfl, by kernel_rfl, rfl, by decide⟩
-- api.Type
instance : AggT Tryd.prog 25 2 := ⟨fun w => by kernel_rfl, fun w => by kernel_rfl⟩
instance : ZeroA Tryd.prog 25 [.int .i64 0, .int .i64 0] := ⟨fun w => ⟨.agg #[.int .i64 0, .int .i64 0], by kernel_rfl, rfl⟩⟩
-- api.Errno
instance : CellT Tryd.prog 26 := ⟨fun w => by kernel_rfl, fun w => by kernel_rfl⟩
instance : ZeroA Tryd.prog 26 [.int .i64 0] := ⟨fun w => ⟨.int .i64 0, by kernel_rfl, rfl⟩⟩
-- []api.Node
instance : CellT Tryd.prog 31 := ⟨fun w => by kernel_rfl, fun w => by kernel_rfl⟩
instance : ZeroA Tryd.prog 31 [.slice none 0 0] := ⟨fun w => ⟨.slice none 0 0, by kernel_rfl, rfl⟩⟩
instance : RowT Tryd.prog 31 44 8 72 (.agg #[.int .i64 0, .int .i64 0, .string ⟨#[]⟩, .bool false, .int .u64 0, .int .u64 0, .int .i64 0, .int .i64 0]) := ⟨by kernel_rfl, by kernel_rfl, rfl, by decide⟩
-- []api.Sym
instance : CellT Tryd.prog 32 := ⟨fun w => by kernel_rfl, fun w => by kernel_rfl⟩
instance : ZeroA Tryd.prog 32 [.slice none 0 0] := ⟨fun w => ⟨.slice none 0 0, by kernel_rfl, rfl⟩⟩
instance : RowT Tryd.prog 32 46 3 32 (.agg #[.string ⟨#[]⟩, .int .i64 0, .int .i64 0]) := ⟨by kernel_rfl, by kernel_rfl, rfl, by decide⟩
-- uint64
instance : CellT Tryd.prog 38 := ⟨fun w => by kernel_rfl, fun w => by kernel_rfl⟩
instance : ZeroA Tryd.prog 38 [.int .u64 0] := ⟨fun w => ⟨.int .u64 0, by kernel_rfl, rfl⟩⟩
-- api.Wide
instance : AggT Tryd.prog 40 2 := ⟨fun w => by kernel_rfl, fun w => by kernel_rfl⟩
instance : ZeroA Tryd.prog 40 [.int .u64 0, .int .u64 0] := ⟨fun w => ⟨.agg #[.int .u64 0, .int .u64 0], by kernel_rfl, rfl⟩⟩
-- api.Dec
instance : AggT Tryd.prog 42 4 := ⟨fun w => by kernel_rfl, fun w => by kernel_rfl⟩
instance : ZeroA Tryd.prog 42 [.bool false, .int .u64 0, .int .u64 0, .int .i64 0] := ⟨fun w => ⟨.agg #[.bool false, .int .u64 0, .int .u64 0, .int .i64 0], by kernel_rfl, rfl⟩⟩
-- api.Node
instance : AggT Tryd.prog 44 8 := ⟨fun w => by kernel_rfl, fun w => by kernel_rfl⟩
instance : ZeroA Tryd.prog 44 [.int .i64 0, .int .i64 0, .string ⟨#[]⟩, .bool false, .int .u64 0, .int .u64 0, .int .i64 0, .int .i64 0] := ⟨fun w => ⟨.agg #[.int .i64 0, .int .i64 0, .string ⟨#[]⟩, .bool false, .int .u64 0, .int .u64 0, .int .i64 0, .int .i64 0], by kernel_rfl, rfl⟩⟩
-- api.Sym
instance : AggT Tryd.prog 46 3 := ⟨fun w => by kernel_rfl, fun w => by kernel_rfl⟩
instance : ZeroA Tryd.prog 46 [.string ⟨#[]⟩, .int .i64 0, .int .i64 0] := ⟨fun w => ⟨.agg #[.string ⟨#[]⟩, .int .i64 0, .int .i64 0], by kernel_rfl, rfl⟩⟩
-- map[string]api.Type
instance : CellT Tryd.prog 54 := ⟨fun w => by kernel_rfl, fun w => by kernel_rfl⟩
instance : ZeroA Tryd.prog 54 [.map none] := ⟨fun w => ⟨.map none, by kernel_rfl, rfl⟩⟩
-- *check.checker
instance : CellT Tryd.prog 57 := ⟨fun w => by kernel_rfl, fun w => by kernel_rfl⟩
instance : ZeroA Tryd.prog 57 [.pointer none] := ⟨fun w => ⟨.pointer none, by kernel_rfl, rfl⟩⟩
-- []check.thing
instance : CellT Tryd.prog 58 := ⟨fun w => by kernel_rfl, fun w => by kernel_rfl⟩
instance : ZeroA Tryd.prog 58 [.slice none 0 0] := ⟨fun w => ⟨.slice none 0 0, by kernel_rfl, rfl⟩⟩
instance : RowT Tryd.prog 58 63 3 40 (.agg #[.int .i64 0, .int .i64 0, .slice none 0 0]) := ⟨by kernel_rfl, by kernel_rfl, rfl, by decide⟩
-- check.checker
instance : AggT Tryd.prog 60 2 := ⟨fun w => by kernel_rfl, fun w => by kernel_rfl⟩
instance : ZeroA Tryd.prog 60 [.map none, .slice none 0 0] := ⟨fun w => ⟨.agg #[.map none, .slice none 0 0], by kernel_rfl, rfl⟩⟩
-- []check.asked
instance : CellT Tryd.prog 61 := ⟨fun w => by kernel_rfl, fun w => by kernel_rfl⟩
instance : ZeroA Tryd.prog 61 [.slice none 0 0] := ⟨fun w => ⟨.slice none 0 0, by kernel_rfl, rfl⟩⟩
instance : RowT Tryd.prog 61 89 3 24 (.agg #[.bool false, .int .i64 0, .int .i64 0]) := ⟨by kernel_rfl, by kernel_rfl, rfl, by decide⟩
-- check.thing
instance : AggT Tryd.prog 63 3 := ⟨fun w => by kernel_rfl, fun w => by kernel_rfl⟩
instance : ZeroA Tryd.prog 63 [.int .i64 0, .int .i64 0, .slice none 0 0] := ⟨fun w => ⟨.agg #[.int .i64 0, .int .i64 0, .slice none 0 0], by kernel_rfl, rfl⟩⟩
-- [][]int
instance : CellT Tryd.prog 67 := ⟨fun w => by kernel_rfl, fun w => by kernel_rfl⟩
instance : ZeroA Tryd.prog 67 [.slice none 0 0] := ⟨fun w => ⟨.slice none 0 0, by kernel_rfl, rfl⟩⟩
instance : RowT Tryd.prog 67 68 1 24 (.slice none 0 0) := ⟨by kernel_rfl, by kernel_rfl, rfl, by decide⟩
-- []int
instance : CellT Tryd.prog 68 := ⟨fun w => by kernel_rfl, fun w => by kernel_rfl⟩
instance : ZeroA Tryd.prog 68 [.slice none 0 0] := ⟨fun w => ⟨.slice none 0 0, by kernel_rfl, rfl⟩⟩
instance : RowT Tryd.prog 68 3 1 8 (.int .i64 0) := ⟨by kernel_rfl, by kernel_rfl, rfl, by decide⟩
-- []expr.thing
instance : CellT Tryd.prog 77 := ⟨fun w => by kernel_rfl, fun w => by kernel_rfl⟩
instance : ZeroA Tryd.prog 77 [.slice none 0 0] := ⟨fun w => ⟨.slice none 0 0, by kernel_rfl, rfl⟩⟩
instance : RowT Tryd.prog 77 82 3 24 (.agg #[.int .i64 0, .int .i64 0, .int .i64 0]) := ⟨by kernel_rfl, by kernel_rfl, rfl, by decide⟩
-- expr.sort
instance : CellT Tryd.prog 80 := ⟨fun w => by kernel_rfl, fun w => by kernel_rfl⟩
instance : ZeroA Tryd.prog 80 [.int .i64 0] := ⟨fun w => ⟨.int .i64 0, by kernel_rfl, rfl⟩⟩
-- expr.thing
instance : AggT Tryd.prog 82 3 := ⟨fun w => by kernel_rfl, fun w => by kernel_rfl⟩
instance : ZeroA Tryd.prog 82 [.int .i64 0, .int .i64 0, .int .i64 0] := ⟨fun w => ⟨.agg #[.int .i64 0, .int .i64 0, .int .i64 0], by kernel_rfl, rfl⟩⟩
-- check.asked
instance : AggT Tryd.prog 89 3 := ⟨fun w => by kernel_rfl, fun w => by kernel_rfl⟩
instance : ZeroA Tryd.prog 89 [.bool false, .int .i64 0, .int .i64 0] := ⟨fun w => ⟨.agg #[.bool false, .int .i64 0, .int .i64 0], by kernel_rfl, rfl⟩⟩
-- [3]int
instance : AggT Tryd.prog 103 3 := ⟨fun w => by kernel_rfl, fun w => by kernel_rfl⟩
instance : ZeroA Tryd.prog 103 [.int .i64 0, .int .i64 0, .int .i64 0] := ⟨fun w => ⟨.agg #[.int .i64 0, .int .i64 0, .int .i64 0], by kernel_rfl, rfl⟩⟩
-- []uint64
instance : CellT Tryd.prog 127 := ⟨fun w => by kernel_rfl, fun w => by kernel_rfl⟩
instance : ZeroA Tryd.prog 127 [.slice none 0 0] := ⟨fun w => ⟨.slice none 0 0, by kernel_rfl, rfl⟩⟩
instance : RowT Tryd.prog 127 38 1 8 (.int .u64 0) := ⟨by kernel_rfl, by kernel_rfl, rfl, by decide⟩
-- [4]uint64
instance : AggT Tryd.prog 131 4 := ⟨fun w => by kernel_rfl, fun w => by kernel_rfl⟩
instance : ZeroA Tryd.prog 131 [.int .u64 0, .int .u64 0, .int .u64 0, .int .u64 0] := ⟨fun w => ⟨.agg #[.int .u64 0, .int .u64 0, .int .u64 0, .int .u64 0], by kernel_rfl, rfl⟩⟩
-- api.Long
instance : AggT Tryd.prog 132 4 := ⟨fun w => by kernel_rfl, fun w => by kernel_rfl⟩
instance : ZeroA Tryd.prog 132 [.int .u64 0, .int .u64 0, .int .u64 0, .int .u64 0] := ⟨fun w => ⟨.agg #[.int .u64 0, .int .u64 0, .int .u64 0, .int .u64 0], by kernel_rfl, rfl⟩⟩
-- utf8.acceptRange
instance : AggT Tryd.prog 138 2 := ⟨fun w => by kernel_rfl, fun w => by kernel_rfl⟩
instance : ZeroA Tryd.prog 138 [.int .u8 0, .int .u8 0] := ⟨fun w => ⟨.agg #[.int .u8 0, .int .u8 0], by kernel_rfl, rfl⟩⟩
-- [16]utf8.acceptRange
instance : AggT Tryd.prog 139 32 := ⟨fun w => by kernel_rfl, fun w => by kernel_rfl⟩
instance : ZeroA Tryd.prog 139 [.int .u8 0, .int .u8 0, .int .u8 0, .int .u8 0, .int .u8 0, .int .u8 0, .int .u8 0, .int .u8 0, .int .u8 0, .int .u8 0, .int .u8 0, .int .u8 0, .int .u8 0, .int .u8 0, .int .u8 0, .int .u8 0, .int .u8 0, .int .u8 0, .int .u8 0, .int .u8 0, .int .u8 0, .int .u8 0, .int .u8 0, .int .u8 0, .int .u8 0, .int .u8 0, .int .u8 0, .int .u8 0, .int .u8 0, .int .u8 0, .int .u8 0, .int .u8 0] := ⟨fun w => ⟨.agg #[.int .u8 0, .int .u8 0, .int .u8 0, .int .u8 0, .int .u8 0, .int .u8 0, .int .u8 0, .int .u8 0, .int .u8 0, .int .u8 0, .int .u8 0, .int .u8 0, .int .u8 0, .int .u8 0, .int .u8 0, .int .u8 0, .int .u8 0, .int .u8 0, .int .u8 0, .int .u8 0, .int .u8 0, .int .u8 0, .int .u8 0, .int .u8 0, .int .u8 0, .int .u8 0, .int .u8 0, .int .u8 0, .int .u8 0, .int .u8 0, .int .u8 0, .int .u8 0], by kernel_rfl, rfl⟩⟩
-- uint
instance : CellT Tryd.prog 140 := ⟨fun w => by kernel_rfl, fun w => by kernel_rfl⟩
instance : ZeroA Tryd.prog 140 [.int .u64 0] := ⟨fun w => ⟨.int .u64 0, by kernel_rfl, rfl⟩⟩
-- []api.Value
instance : CellT Tryd.prog 143 := ⟨fun w => by kernel_rfl, fun w => by kernel_rfl⟩
instance : ZeroA Tryd.prog 143 [.slice none 0 0] := ⟨fun w => ⟨.slice none 0 0, by kernel_rfl, rfl⟩⟩
instance : RowT Tryd.prog 143 146 10 120 (.agg #[.int .i64 0, .bool false, .bool false, .int .u64 0, .int .u64 0, .int .i64 0, .string ⟨#[]⟩, .int .i64 0, .slice none 0 0, .slice none 0 0]) := ⟨by kernel_rfl, by kernel_rfl, rfl, by decide⟩
-- []string
instance : CellT Tryd.prog 144 := ⟨fun w => by kernel_rfl, fun w => by kernel_rfl⟩
instance : ZeroA Tryd.prog 144 [.slice none 0 0] := ⟨fun w => ⟨.slice none 0 0, by kernel_rfl, rfl⟩⟩
instance : RowT Tryd.prog 144 9 1 16 (.string ⟨#[]⟩) := ⟨by kernel_rfl, by kernel_rfl, rfl, by decide⟩
-- api.Value
instance : AggT Tryd.prog 146 10 := ⟨fun w => by kernel_rfl, fun w => by kernel_rfl⟩
instance : ZeroA Tryd.prog 146 [.int .i64 0, .bool false, .bool false, .int .u64 0, .int .u64 0, .int .i64 0, .string ⟨#[]⟩, .int .i64 0, .slice none 0 0, .slice none 0 0] := ⟨fun w => ⟨.agg #[.int .i64 0, .bool false, .bool false, .int .u64 0, .int .u64 0, .int .i64 0, .string ⟨#[]⟩, .int .i64 0, .slice none 0 0, .slice none 0 0], by kernel_rfl, rfl⟩⟩
-- [2]uint64
instance : AggT Tryd.prog 160 2 := ⟨fun w => by kernel_rfl, fun w => by kernel_rfl⟩
instance : ZeroA Tryd.prog 160 [.int .u64 0, .int .u64 0] := ⟨fun w => ⟨.agg #[.int .u64 0, .int .u64 0], by kernel_rfl, rfl⟩⟩
-- *errors.errorString
instance : CellT Tryd.prog 162 := ⟨fun w => by kernel_rfl, fun w => by kernel_rfl⟩
instance : ZeroA Tryd.prog 162 [.pointer none] := ⟨fun w => ⟨.pointer none, by kernel_rfl, rfl⟩⟩
-- [0]*runtime.PanicNilError
instance : AggT Tryd.prog 166 0 := ⟨fun w => by kernel_rfl, fun w => by kernel_rfl⟩
instance : ZeroA Tryd.prog 166 [] := ⟨fun w => ⟨.agg #[], by kernel_rfl, rfl⟩⟩
-- uint32
instance : CellT Tryd.prog 170 := ⟨fun w => by kernel_rfl, fun w => by kernel_rfl⟩
instance : ZeroA Tryd.prog 170 [.int .u32 0] := ⟨fun w => ⟨.int .u32 0, by kernel_rfl, rfl⟩⟩
-- *uint8
instance : CellT Tryd.prog 174 := ⟨fun w => by kernel_rfl, fun w => by kernel_rfl⟩
instance : ZeroA Tryd.prog 174 [.pointer none] := ⟨fun w => ⟨.pointer none, by kernel_rfl, rfl⟩⟩
-- unsafe.Pointer
instance : CellT Tryd.prog 181 := ⟨fun w => by kernel_rfl, fun w => by kernel_rfl⟩
instance : ZeroA Tryd.prog 181 [.pointer none] := ⟨fun w => ⟨.pointer none, by kernel_rfl, rfl⟩⟩
end Go.Proofs.YtpjcjgikfplgnaaDoor
