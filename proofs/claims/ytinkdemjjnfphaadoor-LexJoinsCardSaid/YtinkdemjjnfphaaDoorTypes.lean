/- The types of this program: cells, zeros, rows (printed by gen_types.py). -/
import Derived.Test.YtinkdemjjnfphaaDoorSepA
import Derived.Test.YtinkdemjjnfphaaDoorProg
namespace Go.Proofs.YtinkdemjjnfphaaDoor
open Go.RowKit
set_option linter.unusedVariables false

-- int64
instance : CellT Tryd.prog 2 := ⟨fun w => by kernel_rfl, fun w => by kernel_rfl⟩
instance : ZeroA Tryd.prog 2 [.int .i64 0] := ⟨fun w => ⟨.int .i64 0, by kernel_rfl, rfl⟩⟩
-- int
instance : CellT Tryd.prog 3 := ⟨fun w => by kernel_rfl, fun w => by kernel_rfl⟩
instance : ZeroA Tryd.prog 3 [.int .i64 0] := ⟨fun w => ⟨.int .i64 0, by kernel_rfl, rfl⟩⟩
-- bool
instance : CellT Tryd.prog 4 := ⟨fun w => by kernel_rfl, fun w => by kernel_rfl⟩
instance : ZeroA Tryd.prog 4 [.bool false] := ⟨fun w => ⟨.bool false, by kernel_rfl, rfl⟩⟩
-- uint8
instance : CellT Tryd.prog 5 := ⟨fun w => by kernel_rfl, fun w => by kernel_rfl⟩
instance : ZeroA Tryd.prog 5 [.int .u8 0] := ⟨fun w => ⟨.int .u8 0, by kernel_rfl, rfl⟩⟩
-- string
instance : CellT Tryd.prog 9 := ⟨fun w => by kernel_rfl, fun w => by kernel_rfl⟩
instance : ZeroA Tryd.prog 9 [.string ⟨#[]⟩] := ⟨fun w => ⟨.string ⟨#[]⟩, by kernel_rfl, rfl⟩⟩
-- uintptr
instance : CellT Tryd.prog 12 := ⟨fun w => by kernel_rfl, fun w => by kernel_rfl⟩
instance : ZeroA Tryd.prog 12 [.int .u64 0] := ⟨fun w => ⟨.int .u64 0, by kernel_rfl, rfl⟩⟩
-- *runtime.TypeAssertionError
instance : CellT Tryd.prog 15 := ⟨fun w => by kernel_rfl, fun w => by kernel_rfl⟩
instance : ZeroA Tryd.prog 15 [.pointer none] := ⟨fun w => ⟨.pointer none, by kernel_rfl, rfl⟩⟩
-- *runtime.PanicNilError
instance : CellT Tryd.prog 16 := ⟨fun w => by kernel_rfl, fun w => by kernel_rfl⟩
instance : ZeroA Tryd.prog 16 [.pointer none] := ⟨fun w => ⟨.pointer none, by kernel_rfl, rfl⟩⟩
-- *abi.Type
instance : CellT Tryd.prog 17 := ⟨fun w => by kernel_rfl, fun w => by kernel_rfl⟩
instance : ZeroA Tryd.prog 17 [.pointer none] := ⟨fun w => ⟨.pointer none, by kernel_rfl, rfl⟩⟩
-- int32
instance : CellT Tryd.prog 21 := ⟨fun w => by kernel_rfl, fun w => by kernel_rfl⟩
instance : ZeroA Tryd.prog 21 [.int .i32 0] := ⟨fun w => ⟨.int .i32 0, by kernel_rfl, rfl⟩⟩
-- uint64
instance : CellT Tryd.prog 23 := ⟨fun w => by kernel_rfl, fun w => by kernel_rfl⟩
instance : ZeroA Tryd.prog 23 [.int .u64 0] := ⟨fun w => ⟨.int .u64 0, by kernel_rfl, rfl⟩⟩
-- []api.Token
instance : CellT Tryd.prog 24 := ⟨fun w => by kernel_rfl, fun w => by kernel_rfl⟩
instance : ZeroA Tryd.prog 24 [.slice none 0 0] := ⟨fun w => ⟨.slice none 0 0, by kernel_rfl, rfl⟩⟩
instance : RowT Tryd.prog 24 33 8 72 (.agg #[.int .i64 0, .string ⟨#[]⟩, .bool false, .int .u64 0, .int .u64 0, .int .i64 0, .int .i64 0, .int .i64 0]) := ⟨by kernel_rfl, by kernel_rfl, rfl, by decide⟩
-- api.Errno
instance : CellT Tryd.prog 25 := ⟨fun w => by kernel_rfl, fun w => by kernel_rfl⟩
instance : ZeroA Tryd.prog 25 [.int .i64 0] := ⟨fun w => ⟨.int .i64 0, by kernel_rfl, rfl⟩⟩
-- api.Wide
instance : AggT Tryd.prog 29 2 := ⟨fun w => by kernel_rfl, fun w => by kernel_rfl⟩
instance : ZeroA Tryd.prog 29 [.int .u64 0, .int .u64 0] := ⟨fun w => ⟨.agg #[.int .u64 0, .int .u64 0], by kernel_rfl, rfl⟩⟩
-- api.Dec
instance : AggT Tryd.prog 31 4 := ⟨fun w => by kernel_rfl, fun w => by kernel_rfl⟩
instance : ZeroA Tryd.prog 31 [.bool false, .int .u64 0, .int .u64 0, .int .i64 0] := ⟨fun w => ⟨.agg #[.bool false, .int .u64 0, .int .u64 0, .int .i64 0], by kernel_rfl, rfl⟩⟩
-- api.Token
instance : AggT Tryd.prog 33 8 := ⟨fun w => by kernel_rfl, fun w => by kernel_rfl⟩
instance : ZeroA Tryd.prog 33 [.int .i64 0, .string ⟨#[]⟩, .bool false, .int .u64 0, .int .u64 0, .int .i64 0, .int .i64 0, .int .i64 0] := ⟨fun w => ⟨.agg #[.int .i64 0, .string ⟨#[]⟩, .bool false, .int .u64 0, .int .u64 0, .int .i64 0, .int .i64 0, .int .i64 0], by kernel_rfl, rfl⟩⟩
-- *lex.reader
instance : CellT Tryd.prog 37 := ⟨fun w => by kernel_rfl, fun w => by kernel_rfl⟩
instance : ZeroA Tryd.prog 37 [.pointer none] := ⟨fun w => ⟨.pointer none, by kernel_rfl, rfl⟩⟩
-- lex.reader
instance : AggT Tryd.prog 39 5 := ⟨fun w => by kernel_rfl, fun w => by kernel_rfl⟩
instance : ZeroA Tryd.prog 39 [.string ⟨#[]⟩, .int .i64 0, .slice none 0 0, .bool false, .bool false] := ⟨fun w => ⟨.agg #[.string ⟨#[]⟩, .int .i64 0, .slice none 0 0, .bool false, .bool false], by kernel_rfl, rfl⟩⟩
-- utf8.acceptRange
instance : AggT Tryd.prog 54 2 := ⟨fun w => by kernel_rfl, fun w => by kernel_rfl⟩
instance : ZeroA Tryd.prog 54 [.int .u8 0, .int .u8 0] := ⟨fun w => ⟨.agg #[.int .u8 0, .int .u8 0], by kernel_rfl, rfl⟩⟩
-- [16]utf8.acceptRange
instance : AggT Tryd.prog 55 32 := ⟨fun w => by kernel_rfl, fun w => by kernel_rfl⟩
instance : ZeroA Tryd.prog 55 [.int .u8 0, .int .u8 0, .int .u8 0, .int .u8 0, .int .u8 0, .int .u8 0, .int .u8 0, .int .u8 0, .int .u8 0, .int .u8 0, .int .u8 0, .int .u8 0, .int .u8 0, .int .u8 0, .int .u8 0, .int .u8 0, .int .u8 0, .int .u8 0, .int .u8 0, .int .u8 0, .int .u8 0, .int .u8 0, .int .u8 0, .int .u8 0, .int .u8 0, .int .u8 0, .int .u8 0, .int .u8 0, .int .u8 0, .int .u8 0, .int .u8 0, .int .u8 0] := ⟨fun w => ⟨.agg #[.int .u8 0, .int .u8 0, .int .u8 0, .int .u8 0, .int .u8 0, .int .u8 0, .int .u8 0, .int .u8 0, .int .u8 0, .int .u8 0, .int .u8 0, .int .u8 0, .int .u8 0, .int .u8 0, .int .u8 0, .int .u8 0, .int .u8 0, .int .u8 0, .int .u8 0, .int .u8 0, .int .u8 0, .int .u8 0, .int .u8 0, .int .u8 0, .int .u8 0, .int .u8 0, .int .u8 0, .int .u8 0, .int .u8 0, .int .u8 0, .int .u8 0, .int .u8 0], by kernel_rfl, rfl⟩⟩
-- uint
instance : CellT Tryd.prog 56 := ⟨fun w => by kernel_rfl, fun w => by kernel_rfl⟩
instance : ZeroA Tryd.prog 56 [.int .u64 0] := ⟨fun w => ⟨.int .u64 0, by kernel_rfl, rfl⟩⟩
-- [4]string
instance : AggT Tryd.prog 65 4 := ⟨fun w => by kernel_rfl, fun w => by kernel_rfl⟩
instance : ZeroA Tryd.prog 65 [.string ⟨#[]⟩, .string ⟨#[]⟩, .string ⟨#[]⟩, .string ⟨#[]⟩] := ⟨fun w => ⟨.agg #[.string ⟨#[]⟩, .string ⟨#[]⟩, .string ⟨#[]⟩, .string ⟨#[]⟩], by kernel_rfl, rfl⟩⟩
-- []uint8
instance : CellT Tryd.prog 72 := ⟨fun w => by kernel_rfl, fun w => by kernel_rfl⟩
instance : ZeroA Tryd.prog 72 [.slice none 0 0] := ⟨fun w => ⟨.slice none 0 0, by kernel_rfl, rfl⟩⟩
instance : RowT Tryd.prog 72 5 1 1 (.int .u8 0) := ⟨by kernel_rfl, by kernel_rfl, rfl, by decide⟩
-- *strings.asciiSet
instance : CellT Tryd.prog 86 := ⟨fun w => by kernel_rfl, fun w => by kernel_rfl⟩
instance : ZeroA Tryd.prog 86 [.pointer none] := ⟨fun w => ⟨.pointer none, by kernel_rfl, rfl⟩⟩
-- [4]uint64
instance : AggT Tryd.prog 88 4 := ⟨fun w => by kernel_rfl, fun w => by kernel_rfl⟩
instance : ZeroA Tryd.prog 88 [.int .u64 0, .int .u64 0, .int .u64 0, .int .u64 0] := ⟨fun w => ⟨.agg #[.int .u64 0, .int .u64 0, .int .u64 0, .int .u64 0], by kernel_rfl, rfl⟩⟩
-- api.Long
instance : AggT Tryd.prog 89 4 := ⟨fun w => by kernel_rfl, fun w => by kernel_rfl⟩
instance : ZeroA Tryd.prog 89 [.int .u64 0, .int .u64 0, .int .u64 0, .int .u64 0] := ⟨fun w => ⟨.agg #[.int .u64 0, .int .u64 0, .int .u64 0, .int .u64 0], by kernel_rfl, rfl⟩⟩
-- [12]int
instance : AggT Tryd.prog 94 12 := ⟨fun w => by kernel_rfl, fun w => by kernel_rfl⟩
instance : ZeroA Tryd.prog 94 [.int .i64 0, .int .i64 0, .int .i64 0, .int .i64 0, .int .i64 0, .int .i64 0, .int .i64 0, .int .i64 0, .int .i64 0, .int .i64 0, .int .i64 0, .int .i64 0] := ⟨fun w => ⟨.agg #[.int .i64 0, .int .i64 0, .int .i64 0, .int .i64 0, .int .i64 0, .int .i64 0, .int .i64 0, .int .i64 0, .int .i64 0, .int .i64 0, .int .i64 0, .int .i64 0], by kernel_rfl, rfl⟩⟩
-- [2]uint64
instance : AggT Tryd.prog 99 2 := ⟨fun w => by kernel_rfl, fun w => by kernel_rfl⟩
instance : ZeroA Tryd.prog 99 [.int .u64 0, .int .u64 0] := ⟨fun w => ⟨.agg #[.int .u64 0, .int .u64 0], by kernel_rfl, rfl⟩⟩
-- *strconv.NumError
instance : CellT Tryd.prog 106 := ⟨fun w => by kernel_rfl, fun w => by kernel_rfl⟩
instance : ZeroA Tryd.prog 106 [.pointer none] := ⟨fun w => ⟨.pointer none, by kernel_rfl, rfl⟩⟩
-- uint32
instance : CellT Tryd.prog 117 := ⟨fun w => by kernel_rfl, fun w => by kernel_rfl⟩
instance : ZeroA Tryd.prog 117 [.int .u32 0] := ⟨fun w => ⟨.int .u32 0, by kernel_rfl, rfl⟩⟩
-- *uint8
instance : CellT Tryd.prog 121 := ⟨fun w => by kernel_rfl, fun w => by kernel_rfl⟩
instance : ZeroA Tryd.prog 121 [.pointer none] := ⟨fun w => ⟨.pointer none, by kernel_rfl, rfl⟩⟩
-- *errors.errorString
instance : CellT Tryd.prog 122 := ⟨fun w => by kernel_rfl, fun w => by kernel_rfl⟩
instance : ZeroA Tryd.prog 122 [.pointer none] := ⟨fun w => ⟨.pointer none, by kernel_rfl, rfl⟩⟩
-- [24]uint8
instance : AggT Tryd.prog 126 24 := ⟨fun w => by kernel_rfl, fun w => by kernel_rfl⟩
instance : ZeroA Tryd.prog 126 [.int .u8 0, .int .u8 0, .int .u8 0, .int .u8 0, .int .u8 0, .int .u8 0, .int .u8 0, .int .u8 0, .int .u8 0, .int .u8 0, .int .u8 0, .int .u8 0, .int .u8 0, .int .u8 0, .int .u8 0, .int .u8 0, .int .u8 0, .int .u8 0, .int .u8 0, .int .u8 0, .int .u8 0, .int .u8 0, .int .u8 0, .int .u8 0] := ⟨fun w => ⟨.agg #[.int .u8 0, .int .u8 0, .int .u8 0, .int .u8 0, .int .u8 0, .int .u8 0, .int .u8 0, .int .u8 0, .int .u8 0, .int .u8 0, .int .u8 0, .int .u8 0, .int .u8 0, .int .u8 0, .int .u8 0, .int .u8 0, .int .u8 0, .int .u8 0, .int .u8 0, .int .u8 0, .int .u8 0, .int .u8 0, .int .u8 0, .int .u8 0], by kernel_rfl, rfl⟩⟩
-- [20]uint64
instance : AggT Tryd.prog 132 20 := ⟨fun w => by kernel_rfl, fun w => by kernel_rfl⟩
instance : ZeroA Tryd.prog 132 [.int .u64 0, .int .u64 0, .int .u64 0, .int .u64 0, .int .u64 0, .int .u64 0, .int .u64 0, .int .u64 0, .int .u64 0, .int .u64 0, .int .u64 0, .int .u64 0, .int .u64 0, .int .u64 0, .int .u64 0, .int .u64 0, .int .u64 0, .int .u64 0, .int .u64 0, .int .u64 0] := ⟨fun w => ⟨.agg #[.int .u64 0, .int .u64 0, .int .u64 0, .int .u64 0, .int .u64 0, .int .u64 0, .int .u64 0, .int .u64 0, .int .u64 0, .int .u64 0, .int .u64 0, .int .u64 0, .int .u64 0, .int .u64 0, .int .u64 0, .int .u64 0, .int .u64 0, .int .u64 0, .int .u64 0, .int .u64 0], by kernel_rfl, rfl⟩⟩
-- [32]uint8
instance : AggT Tryd.prog 136 32 := ⟨fun w => by kernel_rfl, fun w => by kernel_rfl⟩
instance : ZeroA Tryd.prog 136 [.int .u8 0, .int .u8 0, .int .u8 0, .int .u8 0, .int .u8 0, .int .u8 0, .int .u8 0, .int .u8 0, .int .u8 0, .int .u8 0, .int .u8 0, .int .u8 0, .int .u8 0, .int .u8 0, .int .u8 0, .int .u8 0, .int .u8 0, .int .u8 0, .int .u8 0, .int .u8 0, .int .u8 0, .int .u8 0, .int .u8 0, .int .u8 0, .int .u8 0, .int .u8 0, .int .u8 0, .int .u8 0, .int .u8 0, .int .u8 0, .int .u8 0, .int .u8 0] := ⟨fun w => ⟨.agg #[.int .u8 0, .int .u8 0, .int .u8 0, .int .u8 0, .int .u8 0, .int .u8 0, .int .u8 0, .int .u8 0, .int .u8 0, .int .u8 0, .int .u8 0, .int .u8 0, .int .u8 0, .int .u8 0, .int .u8 0, .int .u8 0, .int .u8 0, .int .u8 0, .int .u8 0, .int .u8 0, .int .u8 0, .int .u8 0, .int .u8 0, .int .u8 0, .int .u8 0, .int .u8 0, .int .u8 0, .int .u8 0, .int .u8 0, .int .u8 0, .int .u8 0, .int .u8 0], by kernel_rfl, rfl⟩⟩
-- [0]*runtime.PanicNilError
instance : AggT Tryd.prog 141 0 := ⟨fun w => by kernel_rfl, fun w => by kernel_rfl⟩
instance : ZeroA Tryd.prog 141 [] := ⟨fun w => ⟨.agg #[], by kernel_rfl, rfl⟩⟩
-- unsafe.Pointer
instance : CellT Tryd.prog 152 := ⟨fun w => by kernel_rfl, fun w => by kernel_rfl⟩
instance : ZeroA Tryd.prog 152 [.pointer none] := ⟨fun w => ⟨.pointer none, by kernel_rfl, rfl⟩⟩
end Go.Proofs.YtinkdemjjnfphaaDoor
