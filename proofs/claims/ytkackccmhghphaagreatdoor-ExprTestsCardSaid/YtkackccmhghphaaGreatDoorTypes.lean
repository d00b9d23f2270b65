/- The types of this program: cells, zeros, rows (printed by gen_types.py). -/
import Derived.Test.YtkackccmhghphaaGreatDoorSepA
import Derived.Test.YtkackccmhghphaaGreatDoorProg
namespace Go.Proofs.YtkackccmhghphaaGreatDoor
open Go.RowKit
set_option linter.unusedVariables false

-- int64
instance : CellT Tryz.prog 2 := ⟨fun w => by kernel_rfl, fun w => by kernel_rfl⟩
instance : ZeroA Tryz.prog 2 [.int .i64 0] := ⟨fun w => ⟨.int .i64 0, by kernel_rfl, rfl⟩⟩
-- int
instance : CellT Tryz.prog 3 := ⟨fun w => by kernel_rfl, fun w => by kernel_rfl⟩
instance : ZeroA Tryz.prog 3 [.int .i64 0] := ⟨fun w => ⟨.int .i64 0, by kernel_rfl, rfl⟩⟩
-- bool
instance : CellT Tryz.prog 4 := ⟨fun w => by kernel_rfl, fun w => by kernel_rfl⟩
instance : ZeroA Tryz.prog 4 [.bool false] := ⟨fun w => ⟨.bool false, by kernel_rfl, rfl⟩⟩
-- uint8
instance : CellT Tryz.prog 5 := ⟨fun w => by kernel_rfl, fun w => by kernel_rfl⟩
instance : ZeroA Tryz.prog 5 [.int .u8 0] := ⟨fun w => ⟨.int .u8 0, by kernel_rfl, rfl⟩⟩
-- string
instance : CellT Tryz.prog 9 := ⟨fun w => by kernel_rfl, fun w => by kernel_rfl⟩
instance : ZeroA Tryz.prog 9 [.string ⟨#[]⟩] := ⟨fun w => ⟨.string ⟨#[]⟩, by kernel_rfl, rfl⟩⟩
-- uintptr
instance : CellT Tryz.prog 12 := ⟨fun w => by kernel_rfl, fun w => by kernel_rfl⟩
instance : ZeroA Tryz.prog 12 [.int .u64 0] := ⟨fun w => ⟨.int .u64 0, by kernel_rfl, rfl⟩⟩
-- *runtime.TypeAssertionError
instance : CellT Tryz.prog 15 := ⟨fun w => by kernel_rfl, fun w => by kernel_rfl⟩
instance : ZeroA Tryz.prog 15 [.pointer none] := ⟨fun w => ⟨.pointer none, by kernel_rfl, rfl⟩⟩
-- *runtime.PanicNilError
instance : CellT Tryz.prog 16 := ⟨fun w => by kernel_rfl, fun w => by kernel_rfl⟩
instance : ZeroA Tryz.prog 16 [.pointer none] := ⟨fun w => ⟨.pointer none, by kernel_rfl, rfl⟩⟩
-- *abi.Type
instance : CellT Tryz.prog 17 := ⟨fun w => by kernel_rfl, fun w => by kernel_rfl⟩
instance : ZeroA Tryz.prog 17 [.pointer none] := ⟨fun w => ⟨.pointer none, by kernel_rfl, rfl⟩⟩
-- int32
instance : CellT Tryz.prog 21 := ⟨fun w => by kernel_rfl, fun w => by kernel_rfl⟩
instance : ZeroA Tryz.prog 21 [.int .i32 0] := ⟨fun w => ⟨.int .i32 0, by kernel_rfl, rfl⟩⟩
-- []api.Node
instance : CellT Tryz.prog 23 := ⟨fun w => by kernel_rfl, fun w => by kernel_rfl⟩
instance : ZeroA Tryz.prog 23 [.slice none 0 0] := ⟨fun w => ⟨.slice none 0 0, by kernel_rfl, rfl⟩⟩
instance : RowT Tryz.prog 23 36 8 72 (.agg #[.int .i64 0, .int .i64 0, .string ⟨#[]⟩, .bool false, .int .u64 0, .int .u64 0, .int .i64 0, .int .i64 0]) := ⟨by kernel_rfl, by kernel_rfl, rfl, by decide⟩
-- api.Errno
instance : CellT Tryz.prog 24 := ⟨fun w => by kernel_rfl, fun w => by kernel_rfl⟩
instance : ZeroA Tryz.prog 24 [.int .i64 0] := ⟨fun w => ⟨.int .i64 0, by kernel_rfl, rfl⟩⟩
-- uint64
instance : CellT Tryz.prog 30 := ⟨fun w => by kernel_rfl, fun w => by kernel_rfl⟩
instance : ZeroA Tryz.prog 30 [.int .u64 0] := ⟨fun w => ⟨.int .u64 0, by kernel_rfl, rfl⟩⟩
-- api.Wide
instance : AggT Tryz.prog 32 2 := ⟨fun w => by kernel_rfl, fun w => by kernel_rfl⟩
instance : ZeroA Tryz.prog 32 [.int .u64 0, .int .u64 0] := ⟨fun w => ⟨.agg #[.int .u64 0, .int .u64 0], by kernel_rfl, rfl⟩⟩
-- api.Dec
instance : AggT Tryz.prog 34 4 := ⟨fun w => by kernel_rfl, fun w => by kernel_rfl⟩
instance : ZeroA Tryz.prog 34 [.bool false, .int .u64 0, .int .u64 0, .int .i64 0] := ⟨fun w => ⟨.agg #[.bool false, .int .u64 0, .int .u64 0, .int .i64 0], by kernel_rfl, rfl⟩⟩
-- api.Node
instance : AggT Tryz.prog 36 8 := ⟨fun w => by kernel_rfl, fun w => by kernel_rfl⟩
instance : ZeroA Tryz.prog 36 [.int .i64 0, .int .i64 0, .string ⟨#[]⟩, .bool false, .int .u64 0, .int .u64 0, .int .i64 0, .int .i64 0] := ⟨fun w => ⟨.agg #[.int .i64 0, .int .i64 0, .string ⟨#[]⟩, .bool false, .int .u64 0, .int .u64 0, .int .i64 0, .int .i64 0], by kernel_rfl, rfl⟩⟩
-- []int
instance : CellT Tryz.prog 37 := ⟨fun w => by kernel_rfl, fun w => by kernel_rfl⟩
instance : ZeroA Tryz.prog 37 [.slice none 0 0] := ⟨fun w => ⟨.slice none 0 0, by kernel_rfl, rfl⟩⟩
instance : RowT Tryz.prog 37 3 1 8 (.int .i64 0) := ⟨by kernel_rfl, by kernel_rfl, rfl, by decide⟩
-- []api.Sym
instance : CellT Tryz.prog 42 := ⟨fun w => by kernel_rfl, fun w => by kernel_rfl⟩
instance : ZeroA Tryz.prog 42 [.slice none 0 0] := ⟨fun w => ⟨.slice none 0 0, by kernel_rfl, rfl⟩⟩
instance : RowT Tryz.prog 42 101 3 32 (.agg #[.string ⟨#[]⟩, .int .i64 0, .int .i64 0]) := ⟨by kernel_rfl, by kernel_rfl, rfl, by decide⟩
-- api.Type
instance : AggT Tryz.prog 44 2 := ⟨fun w => by kernel_rfl, fun w => by kernel_rfl⟩
instance : ZeroA Tryz.prog 44 [.int .i64 0, .int .i64 0] := ⟨fun w => ⟨.agg #[.int .i64 0, .int .i64 0], by kernel_rfl, rfl⟩⟩
-- []expr.thing
instance : CellT Tryz.prog 53 := ⟨fun w => by kernel_rfl, fun w => by kernel_rfl⟩
instance : ZeroA Tryz.prog 53 [.slice none 0 0] := ⟨fun w => ⟨.slice none 0 0, by kernel_rfl, rfl⟩⟩
instance : RowT Tryz.prog 53 59 3 24 (.agg #[.int .i64 0, .int .i64 0, .int .i64 0]) := ⟨by kernel_rfl, by kernel_rfl, rfl, by decide⟩
-- expr.sort
instance : CellT Tryz.prog 57 := ⟨fun w => by kernel_rfl, fun w => by kernel_rfl⟩
instance : ZeroA Tryz.prog 57 [.int .i64 0] := ⟨fun w => ⟨.int .i64 0, by kernel_rfl, rfl⟩⟩
-- expr.thing
instance : AggT Tryz.prog 59 3 := ⟨fun w => by kernel_rfl, fun w => by kernel_rfl⟩
instance : ZeroA Tryz.prog 59 [.int .i64 0, .int .i64 0, .int .i64 0] := ⟨fun w => ⟨.agg #[.int .i64 0, .int .i64 0, .int .i64 0], by kernel_rfl, rfl⟩⟩
-- [][]int
instance : CellT Tryz.prog 63 := ⟨fun w => by kernel_rfl, fun w => by kernel_rfl⟩
instance : ZeroA Tryz.prog 63 [.slice none 0 0] := ⟨fun w => ⟨.slice none 0 0, by kernel_rfl, rfl⟩⟩
instance : RowT Tryz.prog 63 37 1 24 (.slice none 0 0) := ⟨by kernel_rfl, by kernel_rfl, rfl, by decide⟩
-- map[string]api.Type
instance : CellT Tryz.prog 69 := ⟨fun w => by kernel_rfl, fun w => by kernel_rfl⟩
instance : ZeroA Tryz.prog 69 [.map none] := ⟨fun w => ⟨.map none, by kernel_rfl, rfl⟩⟩
-- *check.checker
instance : CellT Tryz.prog 72 := ⟨fun w => by kernel_rfl, fun w => by kernel_rfl⟩
instance : ZeroA Tryz.prog 72 [.pointer none] := ⟨fun w => ⟨.pointer none, by kernel_rfl, rfl⟩⟩
-- []check.thing
instance : CellT Tryz.prog 73 := ⟨fun w => by kernel_rfl, fun w => by kernel_rfl⟩
instance : ZeroA Tryz.prog 73 [.slice none 0 0] := ⟨fun w => ⟨.slice none 0 0, by kernel_rfl, rfl⟩⟩
instance : RowT Tryz.prog 73 78 3 40 (.agg #[.int .i64 0, .int .i64 0, .slice none 0 0]) := ⟨by kernel_rfl, by kernel_rfl, rfl, by decide⟩
-- check.checker
instance : AggT Tryz.prog 75 2 := ⟨fun w => by kernel_rfl, fun w => by kernel_rfl⟩
instance : ZeroA Tryz.prog 75 [.map none, .slice none 0 0] := ⟨fun w => ⟨.agg #[.map none, .slice none 0 0], by kernel_rfl, rfl⟩⟩
-- []check.asked
instance : CellT Tryz.prog 76 := ⟨fun w => by kernel_rfl, fun w => by kernel_rfl⟩
instance : ZeroA Tryz.prog 76 [.slice none 0 0] := ⟨fun w => ⟨.slice none 0 0, by kernel_rfl, rfl⟩⟩
instance : RowT Tryz.prog 76 105 3 24 (.agg #[.bool false, .int .i64 0, .int .i64 0]) := ⟨by kernel_rfl, by kernel_rfl, rfl, by decide⟩
-- check.thing
instance : AggT Tryz.prog 78 3 := ⟨fun w => by kernel_rfl, fun w => by kernel_rfl⟩
instance : ZeroA Tryz.prog 78 [.int .i64 0, .int .i64 0, .slice none 0 0] := ⟨fun w => ⟨.agg #[.int .i64 0, .int .i64 0, .slice none 0 0], by kernel_rfl, rfl⟩⟩
-- []api.Token
instance : CellT Tryz.prog 83 := ⟨fun w => by kernel_rfl, fun w => by kernel_rfl⟩
instance : ZeroA Tryz.prog 83 [.slice none 0 0] := ⟨fun w => ⟨.slice none 0 0, by kernel_rfl, rfl⟩⟩
instance : RowT Tryz.prog 83 107 8 72 (.agg #[.int .i64 0, .string ⟨#[]⟩, .bool false, .int .u64 0, .int .u64 0, .int .i64 0, .int .i64 0, .int .i64 0]) := ⟨by kernel_rfl, by kernel_rfl, rfl, by decide⟩
-- expr.fault
instance : AggT Tryz.prog 90 0 := ⟨fun w => by kernel_rfl, fun w => by kernel_rfl⟩
instance : ZeroA Tryz.prog 90 [] := ⟨fun w => ⟨.agg #[], by kernel_rfl, rfl⟩⟩
-- *expr.reader
instance : CellT Tryz.prog 92 := ⟨fun w => by kernel_rfl, fun w => by kernel_rfl⟩
instance : ZeroA Tryz.prog 92 [.pointer none] := ⟨fun w => ⟨.pointer none, by kernel_rfl, rfl⟩⟩
-- expr.reader
instance : AggT Tryz.prog 94 3 := ⟨fun w => by kernel_rfl, fun w => by kernel_rfl⟩
instance : ZeroA Tryz.prog 94 [.slice none 0 0, .int .i64 0, .slice none 0 0] := ⟨fun w => ⟨.agg #[.slice none 0 0, .int .i64 0, .slice none 0 0], by kernel_rfl, rfl⟩⟩
-- api.Sym
instance : AggT Tryz.prog 101 3 := ⟨fun w => by kernel_rfl, fun w => by kernel_rfl⟩
instance : ZeroA Tryz.prog 101 [.string ⟨#[]⟩, .int .i64 0, .int .i64 0] := ⟨fun w => ⟨.agg #[.string ⟨#[]⟩, .int .i64 0, .int .i64 0], by kernel_rfl, rfl⟩⟩
-- check.asked
instance : AggT Tryz.prog 105 3 := ⟨fun w => by kernel_rfl, fun w => by kernel_rfl⟩
instance : ZeroA Tryz.prog 105 [.bool false, .int .i64 0, .int .i64 0] := ⟨fun w => ⟨.agg #[.bool false, .int .i64 0, .int .i64 0], by kernel_rfl, rfl⟩⟩
-- api.Token
instance : AggT Tryz.prog 107 8 := ⟨fun w => by kernel_rfl, fun w => by kernel_rfl⟩
instance : ZeroA Tryz.prog 107 [.int .i64 0, .string ⟨#[]⟩, .bool false, .int .u64 0, .int .u64 0, .int .i64 0, .int .i64 0, .int .i64 0] := ⟨fun w => ⟨.agg #[.int .i64 0, .string ⟨#[]⟩, .bool false, .int .u64 0, .int .u64 0, .int .i64 0, .int .i64 0, .int .i64 0], by kernel_rfl, rfl⟩⟩
-- *lex.reader
instance : CellT Tryz.prog 112 := ⟨fun w => by kernel_rfl, fun w => by kernel_rfl⟩
instance : ZeroA Tryz.prog 112 [.pointer none] := ⟨fun w => ⟨.pointer none, by kernel_rfl, rfl⟩⟩
-- lex.reader
instance : AggT Tryz.prog 114 5 := ⟨fun w => by kernel_rfl, fun w => by kernel_rfl⟩
instance : ZeroA Tryz.prog 114 [.string ⟨#[]⟩, .int .i64 0, .slice none 0 0, .bool false, .bool false] := ⟨fun w => ⟨.agg #[.string ⟨#[]⟩, .int .i64 0, .slice none 0 0, .bool false, .bool false], by kernel_rfl, rfl⟩⟩
-- [3]int
instance : AggT Tryz.prog 130 3 := ⟨fun w => by kernel_rfl, fun w => by kernel_rfl⟩
instance : ZeroA Tryz.prog 130 [.int .i64 0, .int .i64 0, .int .i64 0] := ⟨fun w => ⟨.agg #[.int .i64 0, .int .i64 0, .int .i64 0], by kernel_rfl, rfl⟩⟩
-- [4]uint64
instance : AggT Tryz.prog 144 4 := ⟨fun w => by kernel_rfl, fun w => by kernel_rfl⟩
instance : ZeroA Tryz.prog 144 [.int .u64 0, .int .u64 0, .int .u64 0, .int .u64 0] := ⟨fun w => ⟨.agg #[.int .u64 0, .int .u64 0, .int .u64 0, .int .u64 0], by kernel_rfl, rfl⟩⟩
-- api.Long
instance : AggT Tryz.prog 145 4 := ⟨fun w => by kernel_rfl, fun w => by kernel_rfl⟩
instance : ZeroA Tryz.prog 145 [.int .u64 0, .int .u64 0, .int .u64 0, .int .u64 0] := ⟨fun w => ⟨.agg #[.int .u64 0, .int .u64 0, .int .u64 0, .int .u64 0], by kernel_rfl, rfl⟩⟩
-- utf8.acceptRange
instance : AggT Tryz.prog 151 2 := ⟨fun w => by kernel_rfl, fun w => by kernel_rfl⟩
instance : ZeroA Tryz.prog 151 [.int .u8 0, .int .u8 0] := ⟨fun w => ⟨.agg #[.int .u8 0, .int .u8 0], by kernel_rfl, rfl⟩⟩
-- [16]utf8.acceptRange
instance : AggT Tryz.prog 152 32 := ⟨fun w => by kernel_rfl, fun w => by kernel_rfl⟩
instance : ZeroA Tryz.prog 152 [.int .u8 0, .int .u8 0, .int .u8 0, .int .u8 0, .int .u8 0, .int .u8 0, .int .u8 0, .int .u8 0, .int .u8 0, .int .u8 0, .int .u8 0, .int .u8 0, .int .u8 0, .int .u8 0, .int .u8 0, .int .u8 0, .int .u8 0, .int .u8 0, .int .u8 0, .int .u8 0, .int .u8 0, .int .u8 0, .int .u8 0, .int .u8 0, .int .u8 0, .int .u8 0, .int .u8 0, .int .u8 0, .int .u8 0, .int .u8 0, .int .u8 0, .int .u8 0] := ⟨fun w => ⟨.agg #[.int .u8 0, .int .u8 0, .int .u8 0, .int .u8 0, .int .u8 0, .int .u8 0, .int .u8 0, .int .u8 0, .int .u8 0, .int .u8 0, .int .u8 0, .int .u8 0, .int .u8 0, .int .u8 0, .int .u8 0, .int .u8 0, .int .u8 0, .int .u8 0, .int .u8 0, .int .u8 0, .int .u8 0, .int .u8 0, .int .u8 0, .int .u8 0, .int .u8 0, .int .u8 0, .int .u8 0, .int .u8 0, .int .u8 0, .int .u8 0, .int .u8 0, .int .u8 0], by kernel_rfl, rfl⟩⟩
-- uint
instance : CellT Tryz.prog 153 := ⟨fun w => by kernel_rfl, fun w => by kernel_rfl⟩
instance : ZeroA Tryz.prog 153 [.int .u64 0] := ⟨fun w => ⟨.int .u64 0, by kernel_rfl, rfl⟩⟩
-- []uint64
instance : CellT Tryz.prog 156 := ⟨fun w => by kernel_rfl, fun w => by kernel_rfl⟩
instance : ZeroA Tryz.prog 156 [.slice none 0 0] := ⟨fun w => ⟨.slice none 0 0, by kernel_rfl, rfl⟩⟩
instance : RowT Tryz.prog 156 30 1 8 (.int .u64 0) := ⟨by kernel_rfl, by kernel_rfl, rfl, by decide⟩
-- []string
instance : CellT Tryz.prog 172 := ⟨fun w => by kernel_rfl, fun w => by kernel_rfl⟩
instance : ZeroA Tryz.prog 172 [.slice none 0 0] := ⟨fun w => ⟨.slice none 0 0, by kernel_rfl, rfl⟩⟩
instance : RowT Tryz.prog 172 9 1 16 (.string ⟨#[]⟩) := ⟨by kernel_rfl, by kernel_rfl, rfl, by decide⟩
-- [4]string
instance : AggT Tryz.prog 176 4 := ⟨fun w => by kernel_rfl, fun w => by kernel_rfl⟩
instance : ZeroA Tryz.prog 176 [.string ⟨#[]⟩, .string ⟨#[]⟩, .string ⟨#[]⟩, .string ⟨#[]⟩] := ⟨fun w => ⟨.agg #[.string ⟨#[]⟩, .string ⟨#[]⟩, .string ⟨#[]⟩, .string ⟨#[]⟩], by kernel_rfl, rfl⟩⟩
-- []api.Type
instance : CellT Tryz.prog 185 := ⟨fun w => by kernel_rfl, fun w => by kernel_rfl⟩
instance : ZeroA Tryz.prog 185 [.slice none 0 0] := ⟨fun w => ⟨.slice none 0 0, by kernel_rfl, rfl⟩⟩
instance : RowT Tryz.prog 185 44 2 16 (.agg #[.int .i64 0, .int .i64 0]) := ⟨by kernel_rfl, by kernel_rfl, rfl, by decide⟩
-- []uint8
instance : CellT Tryz.prog 191 := ⟨fun w => by kernel_rfl, fun w => by kernel_rfl⟩
instance : ZeroA Tryz.prog 191 [.slice none 0 0] := ⟨fun w => ⟨.slice none 0 0, by kernel_rfl, rfl⟩⟩
instance : RowT Tryz.prog 191 5 1 1 (.int .u8 0) := ⟨by kernel_rfl, by kernel_rfl, rfl, by decide⟩
-- *strings.asciiSet
instance : CellT Tryz.prog 215 := ⟨fun w => by kernel_rfl, fun w => by kernel_rfl⟩
instance : ZeroA Tryz.prog 215 [.pointer none] := ⟨fun w => ⟨.pointer none, by kernel_rfl, rfl⟩⟩
-- [12]int
instance : AggT Tryz.prog 218 12 := ⟨fun w => by kernel_rfl, fun w => by kernel_rfl⟩
instance : ZeroA Tryz.prog 218 [.int .i64 0, .int .i64 0, .int .i64 0, .int .i64 0, .int .i64 0, .int .i64 0, .int .i64 0, .int .i64 0, .int .i64 0, .int .i64 0, .int .i64 0, .int .i64 0] := ⟨fun w => ⟨.agg #[.int .i64 0, .int .i64 0, .int .i64 0, .int .i64 0, .int .i64 0, .int .i64 0, .int .i64 0, .int .i64 0, .int .i64 0, .int .i64 0, .int .i64 0, .int .i64 0], by kernel_rfl, rfl⟩⟩
-- [2]uint64
instance : AggT Tryz.prog 219 2 := ⟨fun w => by kernel_rfl, fun w => by kernel_rfl⟩
instance : ZeroA Tryz.prog 219 [.int .u64 0, .int .u64 0] := ⟨fun w => ⟨.agg #[.int .u64 0, .int .u64 0], by kernel_rfl, rfl⟩⟩
-- *strconv.NumError
instance : CellT Tryz.prog 230 := ⟨fun w => by kernel_rfl, fun w => by kernel_rfl⟩
instance : ZeroA Tryz.prog 230 [.pointer none] := ⟨fun w => ⟨.pointer none, by kernel_rfl, rfl⟩⟩
-- uint32
instance : CellT Tryz.prog 242 := ⟨fun w => by kernel_rfl, fun w => by kernel_rfl⟩
instance : ZeroA Tryz.prog 242 [.int .u32 0] := ⟨fun w => ⟨.int .u32 0, by kernel_rfl, rfl⟩⟩
-- *uint8
instance : CellT Tryz.prog 246 := ⟨fun w => by kernel_rfl, fun w => by kernel_rfl⟩
instance : ZeroA Tryz.prog 246 [.pointer none] := ⟨fun w => ⟨.pointer none, by kernel_rfl, rfl⟩⟩
-- *errors.errorString
instance : CellT Tryz.prog 247 := ⟨fun w => by kernel_rfl, fun w => by kernel_rfl⟩
instance : ZeroA Tryz.prog 247 [.pointer none] := ⟨fun w => ⟨.pointer none, by kernel_rfl, rfl⟩⟩
-- [24]uint8
instance : AggT Tryz.prog 253 24 := ⟨fun w => by kernel_rfl, fun w => by kernel_rfl⟩
instance : ZeroA Tryz.prog 253 [.int .u8 0, .int .u8 0, .int .u8 0, .int .u8 0, .int .u8 0, .int .u8 0, .int .u8 0, .int .u8 0, .int .u8 0, .int .u8 0, .int .u8 0, .int .u8 0, .int .u8 0, .int .u8 0, .int .u8 0, .int .u8 0, .int .u8 0, .int .u8 0, .int .u8 0, .int .u8 0, .int .u8 0, .int .u8 0, .int .u8 0, .int .u8 0] := ⟨fun w => ⟨.agg #[.int .u8 0, .int .u8 0, .int .u8 0, .int .u8 0, .int .u8 0, .int .u8 0, .int .u8 0, .int .u8 0, .int .u8 0, .int .u8 0, .int .u8 0, .int .u8 0, .int .u8 0, .int .u8 0, .int .u8 0, .int .u8 0, .int .u8 0, .int .u8 0, .int .u8 0, .int .u8 0, .int .u8 0, .int .u8 0, .int .u8 0, .int .u8 0], by kernel_rfl, rfl⟩⟩
-- [20]uint64
instance : AggT Tryz.prog 258 20 := ⟨fun w => by kernel_rfl, fun w => by kernel_rfl⟩
instance : ZeroA Tryz.prog 258 [.int .u64 0, .int .u64 0, .int .u64 0, .int .u64 0, .int .u64 0, .int .u64 0, .int .u64 0, .int .u64 0, .int .u64 0, .int .u64 0, .int .u64 0, .int .u64 0, .int .u64 0, .int .u64 0, .int .u64 0, .int .u64 0, .int .u64 0, .int .u64 0, .int .u64 0, .int .u64 0] := ⟨fun w => ⟨.agg #[.int .u64 0, .int .u64 0, .int .u64 0, .int .u64 0, .int .u64 0, .int .u64 0, .int .u64 0, .int .u64 0, .int .u64 0, .int .u64 0, .int .u64 0, .int .u64 0, .int .u64 0, .int .u64 0, .int .u64 0, .int .u64 0, .int .u64 0, .int .u64 0, .int .u64 0, .int .u64 0], by kernel_rfl, rfl⟩⟩
-- [32]uint8
instance : AggT Tryz.prog 262 32 := ⟨fun w => by kernel_rfl, fun w => by kernel_rfl⟩
instance : ZeroA Tryz.prog 262 [.int .u8 0, .int .u8 0, .int .u8 0, .int .u8 0, .int .u8 0, .int .u8 0, .int .u8 0, .int .u8 0, .int .u8 0, .int .u8 0, .int .u8 0, .int .u8 0, .int .u8 0, .int .u8 0, .int .u8 0, .int .u8 0, .int .u8 0, .int .u8 0, .int .u8 0, .int .u8 0, .int .u8 0, .int .u8 0, .int .u8 0, .int .u8 0, .int .u8 0, .int .u8 0, .int .u8 0, .int .u8 0, .int .u8 0, .int .u8 0, .int .u8 0, .int .u8 0] := ⟨fun w => ⟨.agg #[.int .u8 0, .int .u8 0, .int .u8 0, .int .u8 0, .int .u8 0, .int .u8 0, .int .u8 0, .int .u8 0, .int .u8 0, .int .u8 0, .int .u8 0, .int .u8 0, .int .u8 0, .int .u8 0, .int .u8 0, .int .u8 0, .int .u8 0, .int .u8 0, .int .u8 0, .int .u8 0, .int .u8 0, .int .u8 0, .int .u8 0, .int .u8 0, .int .u8 0, .int .u8 0, .int .u8 0, .int .u8 0, .int .u8 0, .int .u8 0, .int .u8 0, .int .u8 0], by kernel_rfl, rfl⟩⟩
-- [0]*runtime.PanicNilError
instance : AggT Tryz.prog 266 0 := ⟨fun w => by kernel_rfl, fun w => by kernel_rfl⟩
instance : ZeroA Tryz.prog 266 [] := ⟨fun w => ⟨.agg #[], by kernel_rfl, rfl⟩⟩
-- unsafe.Pointer
instance : CellT Tryz.prog 277 := ⟨fun w => by kernel_rfl, fun w => by kernel_rfl⟩
instance : ZeroA Tryz.prog 277 [.pointer none] := ⟨fun w => ⟨.pointer none, by kernel_rfl, rfl⟩⟩
end Go.Proofs.YtkackccmhghphaaGreatDoor
