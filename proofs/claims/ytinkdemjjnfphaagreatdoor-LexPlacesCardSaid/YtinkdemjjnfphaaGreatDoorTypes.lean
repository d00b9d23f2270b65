/- The types of this program: cells, zeros, rows (printed by gen_types.py). -/
import Derived.Test.YtinkdemjjnfphaaGreatDoorSepA
import Derived.Test.YtinkdemjjnfphaaGreatDoorProg
namespace Go.Proofs.YtinkdemjjnfphaaGreatDoor
open Go.RowKit
set_option linter.unusedVariables false

-- int64
instance : CellT Tryz.prog 2 := ⟨fun w => by kernel_rfl, fun w => by kernel_rfl⟩
instance : ZeroA Tryz.prog 2 [.int .i64 0] := ⟨fun w => ⟨.int .i64 0, by kernel_rfl, rfl⟩⟩
-- int
instance : CellT Tryz.prog 3 := ⟨fun w => by kernel_rfl, fun w => by kernel_rfl⟩
instance : ZeroA Tryz.prog 3 [.int .i64 0] := ⟨fun w => ⟨.int .i64 0, by kernel_rfl, rfl⟩⟩
-- bool
instance : CellT Tryz.prog 4 := ⟨fun w => by kernel_rfl, fun w => by kernel_rfl⟩
instance : ZeroA Tryz.prog 4 [.bool false] := ⟨fun w => ⟨.bool false, by kernel_rfl, rfl⟩⟩
-- uint8
instance : CellT Tryz.prog 5 := ⟨fun w => by kernel_rfl, fun w => by kernel_rfl⟩
instance : ZeroA Tryz.prog 5 [.int .u8 0] := ⟨fun w => ⟨.int .u8 0, by kernel_rfl, rfl⟩⟩
-- string
instance : CellT Tryz.prog 9 := ⟨fun w => by kernel_rfl, fun w => by kernel_rfl⟩
instance : ZeroA Tryz.prog 9 [.string ⟨#[]⟩] := ⟨fun w => ⟨.string ⟨#[]⟩, by kernel_rfl, rfl⟩⟩
-- uintptr
instance : CellT Tryz.prog 12 := ⟨fun w => by kernel_rfl, fun w => by kernel_rfl⟩
instance : ZeroA Tryz.prog 12 [.int .u64 0] := ⟨fun w => ⟨.int .u64 0, by kernel_rfl, rfl⟩⟩
-- *runtime.TypeAssertionError
instance : CellT Tryz.prog 15 := ⟨fun w => by kernel_rfl, fun w => by kernel_rfl⟩
instance : ZeroA Tryz.prog 15 [.pointer none] := ⟨fun w => ⟨.pointer none, by kernel_rfl, rfl⟩⟩
-- *runtime.PanicNilError
instance : CellT Tryz.prog 16 := ⟨fun w => by kernel_rfl, fun w => by kernel_rfl⟩
instance : ZeroA Tryz.prog 16 [.pointer none] := ⟨fun w => ⟨.pointer none, by kernel_rfl, rfl⟩⟩
-- *abi.Type
instance : CellT Tryz.prog 17 := ⟨fun w => by kernel_rfl, fun w => by kernel_rfl⟩
instance : ZeroA Tryz.prog 17 [.pointer none] := ⟨fun w => ⟨.pointer none, by kernel_rfl, rfl⟩⟩
-- int32
instance : CellT Tryz.prog 21 := ⟨fun w => by kernel_rfl, fun w => by kernel_rfl⟩
instance : ZeroA Tryz.prog 21 [.int .i32 0] := ⟨fun w => ⟨.int .i32 0, by kernel_rfl, rfl⟩⟩
-- []api.Token
instance : CellT Tryz.prog 23 := ⟨fun w => by kernel_rfl, fun w => by kernel_rfl⟩
instance : ZeroA Tryz.prog 23 [.slice none 0 0] := ⟨fun w => ⟨.slice none 0 0, by kernel_rfl, rfl⟩⟩
instance : RowT Tryz.prog 23 35 8 72 (.agg #[.int .i64 0, .string ⟨#[]⟩, .bool false, .int .u64 0, .int .u64 0, .int .i64 0, .int .i64 0, .int .i64 0]) := ⟨by kernel_rfl, by kernel_rfl, rfl, by decide⟩
-- api.Errno
instance : CellT Tryz.prog 24 := ⟨fun w => by kernel_rfl, fun w => by kernel_rfl⟩
instance : ZeroA Tryz.prog 24 [.int .i64 0] := ⟨fun w => ⟨.int .i64 0, by kernel_rfl, rfl⟩⟩
-- uint64
instance : CellT Tryz.prog 29 := ⟨fun w => by kernel_rfl, fun w => by kernel_rfl⟩
instance : ZeroA Tryz.prog 29 [.int .u64 0] := ⟨fun w => ⟨.int .u64 0, by kernel_rfl, rfl⟩⟩
-- api.Wide
instance : AggT Tryz.prog 31 2 := ⟨fun w => by kernel_rfl, fun w => by kernel_rfl⟩
instance : ZeroA Tryz.prog 31 [.int .u64 0, .int .u64 0] := ⟨fun w => ⟨.agg #[.int .u64 0, .int .u64 0], by kernel_rfl, rfl⟩⟩
-- api.Dec
instance : AggT Tryz.prog 33 4 := ⟨fun w => by kernel_rfl, fun w => by kernel_rfl⟩
instance : ZeroA Tryz.prog 33 [.bool false, .int .u64 0, .int .u64 0, .int .i64 0] := ⟨fun w => ⟨.agg #[.bool false, .int .u64 0, .int .u64 0, .int .i64 0], by kernel_rfl, rfl⟩⟩
-- api.Token
instance : AggT Tryz.prog 35 8 := ⟨fun w => by kernel_rfl, fun w => by kernel_rfl⟩
instance : ZeroA Tryz.prog 35 [.int .i64 0, .string ⟨#[]⟩, .bool false, .int .u64 0, .int .u64 0, .int .i64 0, .int .i64 0, .int .i64 0] := ⟨fun w => ⟨.agg #[.int .i64 0, .string ⟨#[]⟩, .bool false, .int .u64 0, .int .u64 0, .int .i64 0, .int .i64 0, .int .i64 0], by kernel_rfl, rfl⟩⟩
-- *lex.reader
instance : CellT Tryz.prog 38 := ⟨fun w => by kernel_rfl, fun w => by kernel_rfl⟩
instance : ZeroA Tryz.prog 38 [.pointer none] := ⟨fun w => ⟨.pointer none, by kernel_rfl, rfl⟩⟩
-- lex.reader
instance : AggT Tryz.prog 40 5 := ⟨fun w => by kernel_rfl, fun w => by kernel_rfl⟩
instance : ZeroA Tryz.prog 40 [.string ⟨#[]⟩, .int .i64 0, .slice none 0 0, .bool false, .bool false] := ⟨fun w => ⟨.agg #[.string ⟨#[]⟩, .int .i64 0, .slice none 0 0, .bool false, .bool false], by kernel_rfl, rfl⟩⟩
-- []int
instance : CellT Tryz.prog 44 := ⟨fun w => by kernel_rfl, fun w => by kernel_rfl⟩
instance : ZeroA Tryz.prog 44 [.slice none 0 0] := ⟨fun w => ⟨.slice none 0 0, by kernel_rfl, rfl⟩⟩
instance : RowT Tryz.prog 44 3 1 8 (.int .i64 0) := ⟨by kernel_rfl, by kernel_rfl, rfl, by decide⟩
-- utf8.acceptRange
instance : AggT Tryz.prog 72 2 := ⟨fun w => by kernel_rfl, fun w => by kernel_rfl⟩
instance : ZeroA Tryz.prog 72 [.int .u8 0, .int .u8 0] := ⟨fun w => ⟨.agg #[.int .u8 0, .int .u8 0], by kernel_rfl, rfl⟩⟩
-- [16]utf8.acceptRange
instance : AggT Tryz.prog 73 32 := ⟨fun w => by kernel_rfl, fun w => by kernel_rfl⟩
instance : ZeroA Tryz.prog 73 [.int .u8 0, .int .u8 0, .int .u8 0, .int .u8 0, .int .u8 0, .int .u8 0, .int .u8 0, .int .u8 0, .int .u8 0, .int .u8 0, .int .u8 0, .int .u8 0, .int .u8 0, .int .u8 0, .int .u8 0, .int .u8 0, .int .u8 0, .int .u8 0, .int .u8 0, .int .u8 0, .int .u8 0, .int .u8 0, .int .u8 0, .int .u8 0, .int .u8 0, .int .u8 0, .int .u8 0, .int .u8 0, .int .u8 0, .int .u8 0, .int .u8 0, .int .u8 0] := ⟨fun w => ⟨.agg #[.int .u8 0, .int .u8 0, .int .u8 0, .int .u8 0, .int .u8 0, .int .u8 0, .int .u8 0, .int .u8 0, .int .u8 0, .int .u8 0, .int .u8 0, .int .u8 0, .int .u8 0, .int .u8 0, .int .u8 0, .int .u8 0, .int .u8 0, .int .u8 0, .int .u8 0, .int .u8 0, .int .u8 0, .int .u8 0, .int .u8 0, .int .u8 0, .int .u8 0, .int .u8 0, .int .u8 0, .int .u8 0, .int .u8 0, .int .u8 0, .int .u8 0, .int .u8 0], by kernel_rfl, rfl⟩⟩
-- uint
instance : CellT Tryz.prog 74 := ⟨fun w => by kernel_rfl, fun w => by kernel_rfl⟩
instance : ZeroA Tryz.prog 74 [.int .u64 0] := ⟨fun w => ⟨.int .u64 0, by kernel_rfl, rfl⟩⟩
-- [4]string
instance : AggT Tryz.prog 77 4 := ⟨fun w => by kernel_rfl, fun w => by kernel_rfl⟩
instance : ZeroA Tryz.prog 77 [.string ⟨#[]⟩, .string ⟨#[]⟩, .string ⟨#[]⟩, .string ⟨#[]⟩] := ⟨fun w => ⟨.agg #[.string ⟨#[]⟩, .string ⟨#[]⟩, .string ⟨#[]⟩, .string ⟨#[]⟩], by kernel_rfl, rfl⟩⟩
-- []uint8
instance : CellT Tryz.prog 82 := ⟨fun w => by kernel_rfl, fun w => by kernel_rfl⟩
instance : ZeroA Tryz.prog 82 [.slice none 0 0] := ⟨fun w => ⟨.slice none 0 0, by kernel_rfl, rfl⟩⟩
instance : RowT Tryz.prog 82 5 1 1 (.int .u8 0) := ⟨by kernel_rfl, by kernel_rfl, rfl, by decide⟩
-- [4]uint64
instance : AggT Tryz.prog 96 4 := ⟨fun w => by kernel_rfl, fun w => by kernel_rfl⟩
instance : ZeroA Tryz.prog 96 [.int .u64 0, .int .u64 0, .int .u64 0, .int .u64 0] := ⟨fun w => ⟨.agg #[.int .u64 0, .int .u64 0, .int .u64 0, .int .u64 0], by kernel_rfl, rfl⟩⟩
-- api.Long
instance : AggT Tryz.prog 97 4 := ⟨fun w => by kernel_rfl, fun w => by kernel_rfl⟩
instance : ZeroA Tryz.prog 97 [.int .u64 0, .int .u64 0, .int .u64 0, .int .u64 0] := ⟨fun w => ⟨.agg #[.int .u64 0, .int .u64 0, .int .u64 0, .int .u64 0], by kernel_rfl, rfl⟩⟩
-- *strings.asciiSet
instance : CellT Tryz.prog 106 := ⟨fun w => by kernel_rfl, fun w => by kernel_rfl⟩
instance : ZeroA Tryz.prog 106 [.pointer none] := ⟨fun w => ⟨.pointer none, by kernel_rfl, rfl⟩⟩
-- [12]int
instance : AggT Tryz.prog 111 12 := ⟨fun w => by kernel_rfl, fun w => by kernel_rfl⟩
instance : ZeroA Tryz.prog 111 [.int .i64 0, .int .i64 0, .int .i64 0, .int .i64 0, .int .i64 0, .int .i64 0, .int .i64 0, .int .i64 0, .int .i64 0, .int .i64 0, .int .i64 0, .int .i64 0] := ⟨fun w => ⟨.agg #[.int .i64 0, .int .i64 0, .int .i64 0, .int .i64 0, .int .i64 0, .int .i64 0, .int .i64 0, .int .i64 0, .int .i64 0, .int .i64 0, .int .i64 0, .int .i64 0], by kernel_rfl, rfl⟩⟩
-- [2]uint64
instance : AggT Tryz.prog 118 2 := ⟨fun w => by kernel_rfl, fun w => by kernel_rfl⟩
instance : ZeroA Tryz.prog 118 [.int .u64 0, .int .u64 0] := ⟨fun w => ⟨.agg #[.int .u64 0, .int .u64 0], by kernel_rfl, rfl⟩⟩
-- *strconv.NumError
instance : CellT Tryz.prog 125 := ⟨fun w => by kernel_rfl, fun w => by kernel_rfl⟩
instance : ZeroA Tryz.prog 125 [.pointer none] := ⟨fun w => ⟨.pointer none, by kernel_rfl, rfl⟩⟩
-- uint32
instance : CellT Tryz.prog 136 := ⟨fun w => by kernel_rfl, fun w => by kernel_rfl⟩
instance : ZeroA Tryz.prog 136 [.int .u32 0] := ⟨fun w => ⟨.int .u32 0, by kernel_rfl, rfl⟩⟩
-- *uint8
instance : CellT Tryz.prog 140 := ⟨fun w => by kernel_rfl, fun w => by kernel_rfl⟩
instance : ZeroA Tryz.prog 140 [.pointer none] := ⟨fun w => ⟨.pointer none, by kernel_rfl, rfl⟩⟩
-- *errors.errorString
instance : CellT Tryz.prog 141 := ⟨fun w => by kernel_rfl, fun w => by kernel_rfl⟩
instance : ZeroA Tryz.prog 141 [.pointer none] := ⟨fun w => ⟨.pointer none, by kernel_rfl, rfl⟩⟩
-- [24]uint8
instance : AggT Tryz.prog 145 24 := ⟨fun w => by kernel_rfl, fun w => by kernel_rfl⟩
instance : ZeroA Tryz.prog 145 [.int .u8 0, .int .u8 0, .int .u8 0, .int .u8 0, .int .u8 0, .int .u8 0, .int .u8 0, .int .u8 0, .int .u8 0, .int .u8 0, .int .u8 0, .int .u8 0, .int .u8 0, .int .u8 0, .int .u8 0, .int .u8 0, .int .u8 0, .int .u8 0, .int .u8 0, .int .u8 0, .int .u8 0, .int .u8 0, .int .u8 0, .int .u8 0] := ⟨fun w => ⟨.agg #[.int .u8 0, .int .u8 0, .int .u8 0, .int .u8 0, .int .u8 0, .int .u8 0, .int .u8 0, .int .u8 0, .int .u8 0, .int .u8 0, .int .u8 0, .int .u8 0, .int .u8 0, .int .u8 0, .int .u8 0, .int .u8 0, .int .u8 0, .int .u8 0, .int .u8 0, .int .u8 0, .int .u8 0, .int .u8 0, .int .u8 0, .int .u8 0], by kernel_rfl, rfl⟩⟩
-- [20]uint64
instance : AggT Tryz.prog 151 20 := ⟨fun w => by kernel_rfl, fun w => by kernel_rfl⟩
instance : ZeroA Tryz.prog 151 [.int .u64 0, .int .u64 0, .int .u64 0, .int .u64 0, .int .u64 0, .int .u64 0, .int .u64 0, .int .u64 0, .int .u64 0, .int .u64 0, .int .u64 0, .int .u64 0, .int .u64 0, .int .u64 0, .int .u64 0, .int .u64 0, .int .u64 0, .int .u64 0, .int .u64 0, .int .u64 0] := ⟨fun w => ⟨.agg #[.int .u64 0, .int .u64 0, .int .u64 0, .int .u64 0, .int .u64 0, .int .u64 0, .int .u64 0, .int .u64 0, .int .u64 0, .int .u64 0, .int .u64 0, .int .u64 0, .int .u64 0, .int .u64 0, .int .u64 0, .int .u64 0, .int .u64 0, .int .u64 0, .int .u64 0, .int .u64 0], by kernel_rfl, rfl⟩⟩
-- [32]uint8
instance : AggT Tryz.prog 155 32 := ⟨fun w => by kernel_rfl, fun w => by kernel_rfl⟩
instance : ZeroA Tryz.prog 155 [.int .u8 0, .int .u8 0, .int .u8 0, .int .u8 0, .int .u8 0, .int .u8 0, .int .u8 0, .int .u8 0, .int .u8 0, .int .u8 0, .int .u8 0, .int .u8 0, .int .u8 0, .int .u8 0, .int .u8 0, .int .u8 0, .int .u8 0, .int .u8 0, .int .u8 0, .int .u8 0, .int .u8 0, .int .u8 0, .int .u8 0, .int .u8 0, .int .u8 0, .int .u8 0, .int .u8 0, .int .u8 0, .int .u8 0, .int .u8 0, .int .u8 0, .int .u8 0] := ⟨fun w => ⟨.agg #[.int .u8 0, .int .u8 0, .int .u8 0, .int .u8 0, .int .u8 0, .int .u8 0, .int .u8 0, .int .u8 0, .int .u8 0, .int .u8 0, .int .u8 0, .int .u8 0, .int .u8 0, .int .u8 0, .int .u8 0, .int .u8 0, .int .u8 0, .int .u8 0, .int .u8 0, .int .u8 0, .int .u8 0, .int .u8 0, .int .u8 0, .int .u8 0, .int .u8 0, .int .u8 0, .int .u8 0, .int .u8 0, .int .u8 0, .int .u8 0, .int .u8 0, .int .u8 0], by kernel_rfl, rfl⟩⟩
-- [0]*runtime.PanicNilError
instance : AggT Tryz.prog 160 0 := ⟨fun w => by kernel_rfl, fun w => by kernel_rfl⟩
instance : ZeroA Tryz.prog 160 [] := ⟨fun w => ⟨.agg #[], by kernel_rfl, rfl⟩⟩
-- unsafe.Pointer
instance : CellT Tryz.prog 171 := ⟨fun w => by kernel_rfl, fun w => by kernel_rfl⟩
instance : ZeroA Tryz.prog 171 [.pointer none] := ⟨fun w => ⟨.pointer none, by kernel_rfl, rfl⟩⟩
end Go.Proofs.YtinkdemjjnfphaaGreatDoor
