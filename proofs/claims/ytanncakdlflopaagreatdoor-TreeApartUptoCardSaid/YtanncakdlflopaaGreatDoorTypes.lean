/- The types of this program: cells, zeros, rows (printed by gen_types.py). -/
import Derived.Test.YtanncakdlflopaaGreatDoorSepA
import Derived.Test.YtanncakdlflopaaGreatDoorProg
namespace Go.Proofs.YtanncakdlflopaaGreatDoor
open Go.RowKit
set_option linter.unusedVariables false

-- int64
instance : CellT Tryz.prog 2 := ⟨fun w => by kernel_rfl, fun w => by kernel_rfl⟩
instance : ZeroA Tryz.prog 2 [.int .i64 0] := ⟨fun w => ⟨.int .i64 0, by kernel_rfl, rfl⟩⟩
-- int
instance : CellT Tryz.prog 3 := ⟨fun w => by kernel_rfl, fun w => by kernel_rfl⟩
instance : ZeroA Tryz.prog 3 [.int .i64 0] := ⟨fun w => ⟨.int .i64 0, by kernel_rfl, rfl⟩⟩
-- bool
instance : CellT Tryz.prog 4 := ⟨fun w => by kernel_rfl, fun w => by kernel_rfl⟩
instance : ZeroA Tryz.prog 4 [.bool false] := ⟨fun w => ⟨.bool false, by kernel_rfl, rfl⟩⟩
-- uint8
instance : CellT Tryz.prog 5 := ⟨fun w => by kernel_rfl, fun w => by kernel_rfl⟩
instance : ZeroA Tryz.prog 5 [.int .u8 0] := ⟨fun w => ⟨.int .u8 0, by kernel_rfl, rfl⟩⟩
-- string
instance : CellT Tryz.prog 9 := ⟨fun w => by kernel_rfl, fun w => by kernel_rfl⟩
instance : ZeroA Tryz.prog 9 [.string ⟨#[]⟩] := ⟨fun w => ⟨.string ⟨#[]⟩, by kernel_rfl, rfl⟩⟩
-- uintptr
instance : CellT Tryz.prog 12 := ⟨fun w => by kernel_rfl, fun w => by kernel_rfl⟩
instance : ZeroA Tryz.prog 12 [.int .u64 0] := ⟨fun w => ⟨.int .u64 0, by kernel_rfl, rfl⟩⟩
-- *runtime.TypeAssertionError
instance : CellT Tryz.prog 15 := ⟨fun w => by kernel_rfl, fun w => by kernel_rfl⟩
instance : ZeroA Tryz.prog 15 [.pointer none] := ⟨fun w => ⟨.pointer none, by kernel_rfl, rfl⟩⟩
-- *runtime.PanicNilError
instance : CellT Tryz.prog 16 := ⟨fun w => by kernel_rfl, fun w => by kernel_rfl⟩
instance : ZeroA Tryz.prog 16 [.pointer none] := ⟨fun w => ⟨.pointer none, by kernel_rfl, rfl⟩⟩
-- *abi.Type
instance : CellT Tryz.prog 17 := ⟨fun w => by kernel_rfl, fun w => by kernel_rfl⟩
instance : ZeroA Tryz.prog 17 [.pointer none] := ⟨fun w => ⟨.pointer none, by kernel_rfl, rfl⟩⟩
-- int32
instance : CellT Tryz.prog 21 := ⟨fun w => by kernel_rfl, fun w => by kernel_rfl⟩
instance : ZeroA Tryz.prog 21 [.int .i32 0] := ⟨fun w => ⟨.int .i32 0, by kernel_rfl, rfl⟩⟩
-- []api.Elem
instance : CellT Tryz.prog 23 := ⟨fun w => by kernel_rfl, fun w => by kernel_rfl⟩
instance : ZeroA Tryz.prog 23 [.slice none 0 0] := ⟨fun w => ⟨.slice none 0 0, by kernel_rfl, rfl⟩⟩
instance : RowT Tryz.prog 23 42 4 64 (.agg #[.string ⟨#[]⟩, .int .i64 0, .slice none 0 0, .string ⟨#[]⟩]) := ⟨by kernel_rfl, by kernel_rfl, rfl, by decide⟩
-- api.Errno
instance : CellT Tryz.prog 24 := ⟨fun w => by kernel_rfl, fun w => by kernel_rfl⟩
instance : ZeroA Tryz.prog 24 [.int .i64 0] := ⟨fun w => ⟨.int .i64 0, by kernel_rfl, rfl⟩⟩
-- []int
instance : CellT Tryz.prog 32 := ⟨fun w => by kernel_rfl, fun w => by kernel_rfl⟩
instance : ZeroA Tryz.prog 32 [.slice none 0 0] := ⟨fun w => ⟨.slice none 0 0, by kernel_rfl, rfl⟩⟩
instance : RowT Tryz.prog 32 3 1 8 (.int .i64 0) := ⟨by kernel_rfl, by kernel_rfl, rfl, by decide⟩
-- []api.Attr
instance : CellT Tryz.prog 40 := ⟨fun w => by kernel_rfl, fun w => by kernel_rfl⟩
instance : ZeroA Tryz.prog 40 [.slice none 0 0] := ⟨fun w => ⟨.slice none 0 0, by kernel_rfl, rfl⟩⟩
instance : RowT Tryz.prog 40 44 2 32 (.agg #[.string ⟨#[]⟩, .string ⟨#[]⟩]) := ⟨by kernel_rfl, by kernel_rfl, rfl, by decide⟩
-- api.Elem
instance : AggT Tryz.prog 42 4 := ⟨fun w => by kernel_rfl, fun w => by kernel_rfl⟩
instance : ZeroA Tryz.prog 42 [.string ⟨#[]⟩, .int .i64 0, .slice none 0 0, .string ⟨#[]⟩] := ⟨fun w => ⟨.agg #[.string ⟨#[]⟩, .int .i64 0, .slice none 0 0, .string ⟨#[]⟩], by kernel_rfl, rfl⟩⟩
-- api.Attr
instance : AggT Tryz.prog 44 2 := ⟨fun w => by kernel_rfl, fun w => by kernel_rfl⟩
instance : ZeroA Tryz.prog 44 [.string ⟨#[]⟩, .string ⟨#[]⟩] := ⟨fun w => ⟨.agg #[.string ⟨#[]⟩, .string ⟨#[]⟩], by kernel_rfl, rfl⟩⟩
-- []api.Event
instance : CellT Tryz.prog 45 := ⟨fun w => by kernel_rfl, fun w => by kernel_rfl⟩
instance : ZeroA Tryz.prog 45 [.slice none 0 0] := ⟨fun w => ⟨.slice none 0 0, by kernel_rfl, rfl⟩⟩
instance : RowT Tryz.prog 45 57 4 64 (.agg #[.int .i64 0, .string ⟨#[]⟩, .slice none 0 0, .string ⟨#[]⟩]) := ⟨by kernel_rfl, by kernel_rfl, rfl, by decide⟩
-- *tree.grower
instance : CellT Tryz.prog 52 := ⟨fun w => by kernel_rfl, fun w => by kernel_rfl⟩
instance : ZeroA Tryz.prog 52 [.pointer none] := ⟨fun w => ⟨.pointer none, by kernel_rfl, rfl⟩⟩
-- []bool
instance : CellT Tryz.prog 53 := ⟨fun w => by kernel_rfl, fun w => by kernel_rfl⟩
instance : ZeroA Tryz.prog 53 [.slice none 0 0] := ⟨fun w => ⟨.slice none 0 0, by kernel_rfl, rfl⟩⟩
instance : RowT Tryz.prog 53 4 1 1 (.bool false) := ⟨by kernel_rfl, by kernel_rfl, rfl, by decide⟩
-- tree.grower
instance : AggT Tryz.prog 55 3 := ⟨fun w => by kernel_rfl, fun w => by kernel_rfl⟩
instance : ZeroA Tryz.prog 55 [.slice none 0 0, .slice none 0 0, .int .i64 0] := ⟨fun w => ⟨.agg #[.slice none 0 0, .slice none 0 0, .int .i64 0], by kernel_rfl, rfl⟩⟩
-- api.Event
instance : AggT Tryz.prog 57 4 := ⟨fun w => by kernel_rfl, fun w => by kernel_rfl⟩
instance : ZeroA Tryz.prog 57 [.int .i64 0, .string ⟨#[]⟩, .slice none 0 0, .string ⟨#[]⟩] := ⟨fun w => ⟨.agg #[.int .i64 0, .string ⟨#[]⟩, .slice none 0 0, .string ⟨#[]⟩], by kernel_rfl, rfl⟩⟩
-- []uint8
instance : CellT Tryz.prog 62 := ⟨fun w => by kernel_rfl, fun w => by kernel_rfl⟩
instance : ZeroA Tryz.prog 62 [.slice none 0 0] := ⟨fun w => ⟨.slice none 0 0, by kernel_rfl, rfl⟩⟩
instance : RowT Tryz.prog 62 5 1 1 (.int .u8 0) := ⟨by kernel_rfl, by kernel_rfl, rfl, by decide⟩
-- *tree.writer
instance : CellT Tryz.prog 66 := ⟨fun w => by kernel_rfl, fun w => by kernel_rfl⟩
instance : ZeroA Tryz.prog 66 [.pointer none] := ⟨fun w => ⟨.pointer none, by kernel_rfl, rfl⟩⟩
-- *strings.Builder
instance : CellT Tryz.prog 67 := ⟨fun w => by kernel_rfl, fun w => by kernel_rfl⟩
instance : ZeroA Tryz.prog 67 [.pointer none] := ⟨fun w => ⟨.pointer none, by kernel_rfl, rfl⟩⟩
-- strings.Builder
instance : AggT Tryz.prog 69 2 := ⟨fun w => by kernel_rfl, fun w => by kernel_rfl⟩
instance : ZeroA Tryz.prog 69 [.pointer none, .slice none 0 0] := ⟨fun w => ⟨.agg #[.pointer none, .slice none 0 0], by kernel_rfl, rfl⟩⟩
-- tree.writer
instance : AggT Tryz.prog 71 4 := ⟨fun w => by kernel_rfl, fun w => by kernel_rfl⟩
instance : ZeroA Tryz.prog 71 [.slice none 0 0, .slice none 0 0, .pointer none, .slice none 0 0] := ⟨fun w => ⟨.agg #[.slice none 0 0, .slice none 0 0, .pointer none, .slice none 0 0], by kernel_rfl, rfl⟩⟩
-- *mark.reader
instance : CellT Tryz.prog 83 := ⟨fun w => by kernel_rfl, fun w => by kernel_rfl⟩
instance : ZeroA Tryz.prog 83 [.pointer none] := ⟨fun w => ⟨.pointer none, by kernel_rfl, rfl⟩⟩
-- mark.reader
instance : AggT Tryz.prog 85 5 := ⟨fun w => by kernel_rfl, fun w => by kernel_rfl⟩
instance : ZeroA Tryz.prog 85 [.string ⟨#[]⟩, .int .i64 0, .slice none 0 0, .bool false, .bool false] := ⟨fun w => ⟨.agg #[.string ⟨#[]⟩, .int .i64 0, .slice none 0 0, .bool false, .bool false], by kernel_rfl, rfl⟩⟩
-- *uint8
instance : CellT Tryz.prog 90 := ⟨fun w => by kernel_rfl, fun w => by kernel_rfl⟩
instance : ZeroA Tryz.prog 90 [.pointer none] := ⟨fun w => ⟨.pointer none, by kernel_rfl, rfl⟩⟩
-- *api.Event
instance : CellT Tryz.prog 105 := ⟨fun w => by kernel_rfl, fun w => by kernel_rfl⟩
instance : ZeroA Tryz.prog 105 [.pointer none] := ⟨fun w => ⟨.pointer none, by kernel_rfl, rfl⟩⟩
-- *strings.asciiSet
instance : CellT Tryz.prog 112 := ⟨fun w => by kernel_rfl, fun w => by kernel_rfl⟩
instance : ZeroA Tryz.prog 112 [.pointer none] := ⟨fun w => ⟨.pointer none, by kernel_rfl, rfl⟩⟩
-- unsafe.Pointer
instance : CellT Tryz.prog 113 := ⟨fun w => by kernel_rfl, fun w => by kernel_rfl⟩
instance : ZeroA Tryz.prog 113 [.pointer none] := ⟨fun w => ⟨.pointer none, by kernel_rfl, rfl⟩⟩
-- uint
instance : CellT Tryz.prog 115 := ⟨fun w => by kernel_rfl, fun w => by kernel_rfl⟩
instance : ZeroA Tryz.prog 115 [.int .u64 0] := ⟨fun w => ⟨.int .u64 0, by kernel_rfl, rfl⟩⟩
-- *strings.Replacer
instance : CellT Tryz.prog 120 := ⟨fun w => by kernel_rfl, fun w => by kernel_rfl⟩
instance : ZeroA Tryz.prog 120 [.pointer none] := ⟨fun w => ⟨.pointer none, by kernel_rfl, rfl⟩⟩
-- utf8.acceptRange
instance : AggT Tryz.prog 134 2 := ⟨fun w => by kernel_rfl, fun w => by kernel_rfl⟩
instance : ZeroA Tryz.prog 134 [.int .u8 0, .int .u8 0] := ⟨fun w => ⟨.agg #[.int .u8 0, .int .u8 0], by kernel_rfl, rfl⟩⟩
-- [16]utf8.acceptRange
instance : AggT Tryz.prog 135 32 := ⟨fun w => by kernel_rfl, fun w => by kernel_rfl⟩
instance : ZeroA Tryz.prog 135 [.int .u8 0, .int .u8 0, .int .u8 0, .int .u8 0, .int .u8 0, .int .u8 0, .int .u8 0, .int .u8 0, .int .u8 0, .int .u8 0, .int .u8 0, .int .u8 0, .int .u8 0, .int .u8 0, .int .u8 0, .int .u8 0, .int .u8 0, .int .u8 0, .int .u8 0, .int .u8 0, .int .u8 0, .int .u8 0, .int .u8 0, .int .u8 0, .int .u8 0, .int .u8 0, .int .u8 0, .int .u8 0, .int .u8 0, .int .u8 0, .int .u8 0, .int .u8 0] := ⟨fun w => ⟨.agg #[.int .u8 0, .int .u8 0, .int .u8 0, .int .u8 0, .int .u8 0, .int .u8 0, .int .u8 0, .int .u8 0, .int .u8 0, .int .u8 0, .int .u8 0, .int .u8 0, .int .u8 0, .int .u8 0, .int .u8 0, .int .u8 0, .int .u8 0, .int .u8 0, .int .u8 0, .int .u8 0, .int .u8 0, .int .u8 0, .int .u8 0, .int .u8 0, .int .u8 0, .int .u8 0, .int .u8 0, .int .u8 0, .int .u8 0, .int .u8 0, .int .u8 0, .int .u8 0], by kernel_rfl, rfl⟩⟩
-- uint32
instance : CellT Tryz.prog 142 := ⟨fun w => by kernel_rfl, fun w => by kernel_rfl⟩
instance : ZeroA Tryz.prog 142 [.int .u32 0] := ⟨fun w => ⟨.int .u32 0, by kernel_rfl, rfl⟩⟩
-- uint64
instance : CellT Tryz.prog 145 := ⟨fun w => by kernel_rfl, fun w => by kernel_rfl⟩
instance : ZeroA Tryz.prog 145 [.int .u64 0] := ⟨fun w => ⟨.int .u64 0, by kernel_rfl, rfl⟩⟩
-- []string
instance : CellT Tryz.prog 148 := ⟨fun w => by kernel_rfl, fun w => by kernel_rfl⟩
instance : ZeroA Tryz.prog 148 [.slice none 0 0] := ⟨fun w => ⟨.slice none 0 0, by kernel_rfl, rfl⟩⟩
instance : RowT Tryz.prog 148 9 1 16 (.string ⟨#[]⟩) := ⟨by kernel_rfl, by kernel_rfl, rfl, by decide⟩
-- strings.replacer
instance : CellT Tryz.prog 161 := ⟨fun w => by kernel_rfl, fun w => by kernel_rfl⟩
instance : ZeroA Tryz.prog 161 [.nilIface] := ⟨fun w => ⟨.nilIface, by kernel_rfl, rfl⟩⟩
-- strings.Replacer
instance : AggT Tryz.prog 163 5 := ⟨fun w => by kernel_rfl, fun w => by kernel_rfl⟩
instance : ZeroA Tryz.prog 163 [.int .u32 0, .int .i32 0, .int .u32 0, .nilIface, .slice none 0 0] := ⟨fun w => ⟨.agg #[.int .u32 0, .int .i32 0, .int .u32 0, .nilIface, .slice none 0 0], by kernel_rfl, rfl⟩⟩
-- *sync.Once
instance : CellT Tryz.prog 171 := ⟨fun w => by kernel_rfl, fun w => by kernel_rfl⟩
instance : ZeroA Tryz.prog 171 [.pointer none] := ⟨fun w => ⟨.pointer none, by kernel_rfl, rfl⟩⟩
-- *atomic.Bool
instance : CellT Tryz.prog 178 := ⟨fun w => by kernel_rfl, fun w => by kernel_rfl⟩
instance : ZeroA Tryz.prog 178 [.pointer none] := ⟨fun w => ⟨.pointer none, by kernel_rfl, rfl⟩⟩
-- *uint32
instance : CellT Tryz.prog 180 := ⟨fun w => by kernel_rfl, fun w => by kernel_rfl⟩
instance : ZeroA Tryz.prog 180 [.pointer none] := ⟨fun w => ⟨.pointer none, by kernel_rfl, rfl⟩⟩
-- *strings.singleStringReplacer
instance : CellT Tryz.prog 182 := ⟨fun w => by kernel_rfl, fun w => by kernel_rfl⟩
instance : ZeroA Tryz.prog 182 [.pointer none] := ⟨fun w => ⟨.pointer none, by kernel_rfl, rfl⟩⟩
-- *strings.genericReplacer
instance : CellT Tryz.prog 184 := ⟨fun w => by kernel_rfl, fun w => by kernel_rfl⟩
instance : ZeroA Tryz.prog 184 [.pointer none] := ⟨fun w => ⟨.pointer none, by kernel_rfl, rfl⟩⟩
-- *strings.byteReplacer
instance : CellT Tryz.prog 187 := ⟨fun w => by kernel_rfl, fun w => by kernel_rfl⟩
instance : ZeroA Tryz.prog 187 [.pointer none] := ⟨fun w => ⟨.pointer none, by kernel_rfl, rfl⟩⟩
-- *strings.byteStringReplacer
instance : CellT Tryz.prog 191 := ⟨fun w => by kernel_rfl, fun w => by kernel_rfl⟩
instance : ZeroA Tryz.prog 191 [.pointer none] := ⟨fun w => ⟨.pointer none, by kernel_rfl, rfl⟩⟩
-- *sync.Mutex
instance : CellT Tryz.prog 194 := ⟨fun w => by kernel_rfl, fun w => by kernel_rfl⟩
instance : ZeroA Tryz.prog 194 [.pointer none] := ⟨fun w => ⟨.pointer none, by kernel_rfl, rfl⟩⟩
-- *strings.stringFinder
instance : CellT Tryz.prog 197 := ⟨fun w => by kernel_rfl, fun w => by kernel_rfl⟩
instance : ZeroA Tryz.prog 197 [.pointer none] := ⟨fun w => ⟨.pointer none, by kernel_rfl, rfl⟩⟩
-- strings.singleStringReplacer
instance : AggT Tryz.prog 200 2 := ⟨fun w => by kernel_rfl, fun w => by kernel_rfl⟩
instance : ZeroA Tryz.prog 200 [.pointer none, .string ⟨#[]⟩] := ⟨fun w => ⟨.agg #[.pointer none, .string ⟨#[]⟩], by kernel_rfl, rfl⟩⟩
-- *strings.trieNode
instance : CellT Tryz.prog 201 := ⟨fun w => by kernel_rfl, fun w => by kernel_rfl⟩
instance : ZeroA Tryz.prog 201 [.pointer none] := ⟨fun w => ⟨.pointer none, by kernel_rfl, rfl⟩⟩
-- []*strings.trieNode
instance : CellT Tryz.prog 202 := ⟨fun w => by kernel_rfl, fun w => by kernel_rfl⟩
instance : ZeroA Tryz.prog 202 [.slice none 0 0] := ⟨fun w => ⟨.slice none 0 0, by kernel_rfl, rfl⟩⟩
instance : RowT Tryz.prog 202 201 1 8 (.pointer none) := ⟨by kernel_rfl, by kernel_rfl, rfl, by decide⟩
-- strings.trieNode
instance : AggT Tryz.prog 204 5 := ⟨fun w => by kernel_rfl, fun w => by kernel_rfl⟩
instance : ZeroA Tryz.prog 204 [.string ⟨#[]⟩, .int .i64 0, .string ⟨#[]⟩, .pointer none, .slice none 0 0] := ⟨fun w => ⟨.agg #[.string ⟨#[]⟩, .int .i64 0, .string ⟨#[]⟩, .pointer none, .slice none 0 0], by kernel_rfl, rfl⟩⟩
-- *strconv.NumError
instance : CellT Tryz.prog 210 := ⟨fun w => by kernel_rfl, fun w => by kernel_rfl⟩
instance : ZeroA Tryz.prog 210 [.pointer none] := ⟨fun w => ⟨.pointer none, by kernel_rfl, rfl⟩⟩
-- *sync.Mutex
instance : CellT Tryz.prog 213 := ⟨fun w => by kernel_rfl, fun w => by kernel_rfl⟩
instance : ZeroA Tryz.prog 213 [.pointer none] := ⟨fun w => ⟨.pointer none, by kernel_rfl, rfl⟩⟩
-- *int32
instance : CellT Tryz.prog 215 := ⟨fun w => by kernel_rfl, fun w => by kernel_rfl⟩
instance : ZeroA Tryz.prog 215 [.pointer none] := ⟨fun w => ⟨.pointer none, by kernel_rfl, rfl⟩⟩
-- *errors.errorString
instance : CellT Tryz.prog 228 := ⟨fun w => by kernel_rfl, fun w => by kernel_rfl⟩
instance : ZeroA Tryz.prog 228 [.pointer none] := ⟨fun w => ⟨.pointer none, by kernel_rfl, rfl⟩⟩
-- [24]uint8
instance : AggT Tryz.prog 232 24 := ⟨fun w => by kernel_rfl, fun w => by kernel_rfl⟩
instance : ZeroA Tryz.prog 232 [.int .u8 0, .int .u8 0, .int .u8 0, .int .u8 0, .int .u8 0, .int .u8 0, .int .u8 0, .int .u8 0, .int .u8 0, .int .u8 0, .int .u8 0, .int .u8 0, .int .u8 0, .int .u8 0, .int .u8 0, .int .u8 0, .int .u8 0, .int .u8 0, .int .u8 0, .int .u8 0, .int .u8 0, .int .u8 0, .int .u8 0, .int .u8 0] := ⟨fun w => ⟨.agg #[.int .u8 0, .int .u8 0, .int .u8 0, .int .u8 0, .int .u8 0, .int .u8 0, .int .u8 0, .int .u8 0, .int .u8 0, .int .u8 0, .int .u8 0, .int .u8 0, .int .u8 0, .int .u8 0, .int .u8 0, .int .u8 0, .int .u8 0, .int .u8 0, .int .u8 0, .int .u8 0, .int .u8 0, .int .u8 0, .int .u8 0, .int .u8 0], by kernel_rfl, rfl⟩⟩
-- [20]uint64
instance : AggT Tryz.prog 238 20 := ⟨fun w => by kernel_rfl, fun w => by kernel_rfl⟩
instance : ZeroA Tryz.prog 238 [.int .u64 0, .int .u64 0, .int .u64 0, .int .u64 0, .int .u64 0, .int .u64 0, .int .u64 0, .int .u64 0, .int .u64 0, .int .u64 0, .int .u64 0, .int .u64 0, .int .u64 0, .int .u64 0, .int .u64 0, .int .u64 0, .int .u64 0, .int .u64 0, .int .u64 0, .int .u64 0] := ⟨fun w => ⟨.agg #[.int .u64 0, .int .u64 0, .int .u64 0, .int .u64 0, .int .u64 0, .int .u64 0, .int .u64 0, .int .u64 0, .int .u64 0, .int .u64 0, .int .u64 0, .int .u64 0, .int .u64 0, .int .u64 0, .int .u64 0, .int .u64 0, .int .u64 0, .int .u64 0, .int .u64 0, .int .u64 0], by kernel_rfl, rfl⟩⟩
-- [32]uint8
instance : AggT Tryz.prog 242 32 := ⟨fun w => by kernel_rfl, fun w => by kernel_rfl⟩
instance : ZeroA Tryz.prog 242 [.int .u8 0, .int .u8 0, .int .u8 0, .int .u8 0, .int .u8 0, .int .u8 0, .int .u8 0, .int .u8 0, .int .u8 0, .int .u8 0, .int .u8 0, .int .u8 0, .int .u8 0, .int .u8 0, .int .u8 0, .int .u8 0, .int .u8 0, .int .u8 0, .int .u8 0, .int .u8 0, .int .u8 0, .int .u8 0, .int .u8 0, .int .u8 0, .int .u8 0, .int .u8 0, .int .u8 0, .int .u8 0, .int .u8 0, .int .u8 0, .int .u8 0, .int .u8 0] := ⟨fun w => ⟨.agg #[.int .u8 0, .int .u8 0, .int .u8 0, .int .u8 0, .int .u8 0, .int .u8 0, .int .u8 0, .int .u8 0, .int .u8 0, .int .u8 0, .int .u8 0, .int .u8 0, .int .u8 0, .int .u8 0, .int .u8 0, .int .u8 0, .int .u8 0, .int .u8 0, .int .u8 0, .int .u8 0, .int .u8 0, .int .u8 0, .int .u8 0, .int .u8 0, .int .u8 0, .int .u8 0, .int .u8 0, .int .u8 0, .int .u8 0, .int .u8 0, .int .u8 0, .int .u8 0], by kernel_rfl, rfl⟩⟩
-- [0]*runtime.PanicNilError
instance : AggT Tryz.prog 246 0 := ⟨fun w => by kernel_rfl, fun w => by kernel_rfl⟩
instance : ZeroA Tryz.prog 246 [] := ⟨fun w => ⟨.agg #[], by kernel_rfl, rfl⟩⟩
-- strings.appendSliceWriter
instance : CellT Tryz.prog 257 := ⟨fun w => by kernel_rfl, fun w => by kernel_rfl⟩
instance : ZeroA Tryz.prog 257 [.slice none 0 0] := ⟨fun w => ⟨.slice none 0 0, by kernel_rfl, rfl⟩⟩
-- *strings.appendSliceWriter
instance : CellT Tryz.prog 258 := ⟨fun w => by kernel_rfl, fun w => by kernel_rfl⟩
instance : ZeroA Tryz.prog 258 [.pointer none] := ⟨fun w => ⟨.pointer none, by kernel_rfl, rfl⟩⟩
-- strings.stringWriter
instance : AggT Tryz.prog 268 1 := ⟨fun w => by kernel_rfl, fun w => by kernel_rfl⟩
instance : ZeroA Tryz.prog 268 [.nilIface] := ⟨fun w => ⟨.agg #[.nilIface], by kernel_rfl, rfl⟩⟩
end Go.Proofs.YtanncakdlflopaaGreatDoor
