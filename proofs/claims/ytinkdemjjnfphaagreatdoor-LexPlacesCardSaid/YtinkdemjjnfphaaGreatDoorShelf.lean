/- The contracts of library functions that this claim uses, laid over this translation by the kit's own command. -/
import Derived.Shelf.Strings.Trim
import Derived.Shelf.Small.Utf8
import Derived.Shelf.Small.Strs
import Derived.Shelf.Small.Wraps
import Derived.Shelf.Strconv.Atoi
import Derived.Shelf.Strconv.Itoa0
import Derived.Shelf.Strconv.Itoa1
import Derived.Shelf.LaysM
import Derived.Shelf.Strconv.Itoa2
import Derived.Shelf.Strconv.Itoa3
import Derived.Shelf.Strconv.AtoiErrFast
import Derived.Shelf.Strconv.ParseIntEmpty
import Derived.Shelf.Strconv.AtoiFail
import Derived.Shelf.Strconv.Clone
import Derived.Shelf.Strconv.SyntaxError
import Derived.Shelf.LaysC
import Derived.Shelf.Strconv.ToError
import Derived.Shelf.Strconv.AtoiErr
import Derived.Shelf.Strings.Search1
import Derived.Shelf.Strings.Search2
import Derived.Shelf.Strings.Cut
import Derived.Shelf.Strings.Shaped
import Derived.Shelf.GgClosure.StringsIndexFunc
import Derived.Ground.GgwProg
import Derived.Shelf.GgClosure.StringsIndexFuncTop
import Derived.Shelf.Strings.Prefix
import Derived.Shelf.Strings.Runes
import Derived.Shelf.Strings.AsciiSet
import Derived.Shelf.Bits.Mul64
import Derived.Shelf.Unicode.DecodeSlow
import Derived.Shelf.Unicode.DecodeAny
import Derived.Shelf.Unicode.DecodeLast
import Derived.Shelf.Strings.FuncGrows
import Derived.Shelf.Unicode.ValidAny
import Derived.Shelf.Spec.BitsCarry
import Derived.Test.YtinkdemjjnfphaaGreatDoorProg
namespace Go.Proofs
def Tryz.lays161_ren : Go.Shelf.Ren := ⟨fun | 161 => 67 | 231 => 83 | 227 => 80 | 233 => 84 | 235 => 85 | 228 => 94 | 197 => 97 | 151 => 96 | 260 => 110 | 152 => 109 | 137 => 16 | 119 => 116 | 224 => 106 | 225 => 105 | 217 => 31 | 266 => 52 | n => n, fun | 9 => 9 | 4 => 4 | 3 => 3 | 5 => 5 | 117 => 103 | 116 => 102 | 0 => 0 | 124 => 106 | 105 => 115 | 21 => 21 | 119 => 70 | 46 => 74 | 139 => 73 | 138 => 72 | n => n, fun | 3 => 0 | 4 => 1 | n => n⟩
theorem Tryz.lays161 : Go.Proofs.Lays.n161 Tryz.prog Tryz.lays161_ren := {
  mixed := by kernel_rfl
  f119 := Tryz.func116.trans (congrArg some (by kernel_rfl))
  f137 := Tryz.func16.trans (congrArg some (by kernel_rfl))
  f151 := Tryz.func96.trans (congrArg some (by kernel_rfl))
  f152 := Tryz.func109.trans (congrArg some (by kernel_rfl))
  f161 := Tryz.func67.trans (congrArg some (by kernel_rfl))
  f197 := Tryz.func97.trans (congrArg some (by kernel_rfl))
  f217 := Tryz.func31.trans (congrArg some (by kernel_rfl))
  f224 := Tryz.func106.trans (congrArg some (by kernel_rfl))
  f225 := Tryz.func105.trans (congrArg some (by kernel_rfl))
  f227 := Tryz.func80.trans (congrArg some (by kernel_rfl))
  f228 := Tryz.func94.trans (congrArg some (by kernel_rfl))
  f231 := Tryz.func83.trans (congrArg some (by kernel_rfl))
  f233 := Tryz.func84.trans (congrArg some (by kernel_rfl))
  f235 := Tryz.func85.trans (congrArg some (by kernel_rfl))
  f260 := Tryz.func110.trans (congrArg some (by kernel_rfl))
  f266 := Tryz.func52.trans (congrArg some (by kernel_rfl))
  t0 := Tryz.underlying0
  a0 := Tryz.isAgg0
  z0 := Tryz.sizeOf0
  v0 := Tryz.zeroValue0
  t3 := Tryz.underlying3
  a3 := Tryz.isAgg3
  z3 := Tryz.sizeOf3
  v3 := Tryz.zeroValue3
  t4 := Tryz.underlying4
  a4 := Tryz.isAgg4
  z4 := Tryz.sizeOf4
  v4 := Tryz.zeroValue4
  t5 := Tryz.underlying5
  a5 := Tryz.isAgg5
  z5 := Tryz.sizeOf5
  v5 := Tryz.zeroValue5
  t9 := Tryz.underlying9
  a9 := Tryz.isAgg9
  z9 := Tryz.sizeOf9
  v9 := Tryz.zeroValue9
  t21 := Tryz.underlying21
  a21 := Tryz.isAgg21
  z21 := Tryz.sizeOf21
  v21 := Tryz.zeroValue21
  t46 := Tryz.underlying74
  a46 := Tryz.isAgg74
  z46 := Tryz.sizeOf74
  v46 := Tryz.zeroValue74
  t105 := Tryz.underlying115
  a105 := Tryz.isAgg115
  z105 := Tryz.sizeOf115
  v105 := Tryz.zeroValue115
  t116 := Tryz.underlying102
  a116 := Tryz.isAgg102
  z116 := Tryz.sizeOf102
  t117 := Tryz.underlying103
  a117 := Tryz.isAgg103
  z117 := Tryz.sizeOf103
  v117 := Tryz.zeroValue103
  t119 := Tryz.underlying70
  a119 := Tryz.isAgg70
  z119 := Tryz.sizeOf70
  t124 := Tryz.underlying106
  a124 := Tryz.isAgg106
  z124 := Tryz.sizeOf106
  v124 := Tryz.zeroValue106
  t138 := Tryz.underlying72
  a138 := Tryz.isAgg72
  z138 := Tryz.sizeOf72
  v138 := Tryz.zeroValue72
  t139 := Tryz.underlying73
  a139 := Tryz.isAgg73
  z139 := Tryz.sizeOf73
  v139 := Tryz.zeroValue73
  g3 := by kernel_rfl
  g4 := by kernel_rfl }
open Go.RowKit in
theorem Tryz.strings_TrimLeft_one (s : ByteArray) (c : UInt8) (hc : c.toNat < 128) (w : World) :
    Calls Tryz.prog 67 #[.string s, .string ⟨#[c]⟩] w fun e w' => e = .returned (.string ⟨(Lib.trimLeftB s.data.toList c).toArray⟩) ∧ w' = w := Any.strings_TrimLeft_one Tryz.lays161 s c hc w
def Tryz.lays162_ren : Go.Shelf.Ren := ⟨fun | 162 => 66 | 232 => 79 | 227 => 80 | 234 => 81 | 236 => 82 | 228 => 94 | 271 => 95 | 151 => 96 | 120 => 108 | 197 => 97 | 152 => 109 | 260 => 110 | 137 => 16 | 119 => 116 | 224 => 106 | 225 => 105 | 217 => 31 | 266 => 52 | n => n, fun | 9 => 9 | 4 => 4 | 3 => 3 | 5 => 5 | 117 => 103 | 116 => 102 | 0 => 0 | 124 => 106 | 21 => 21 | 105 => 115 | 46 => 74 | 119 => 70 | 139 => 73 | 138 => 72 | n => n, fun | 3 => 0 | 4 => 1 | n => n⟩
theorem Tryz.lays162 : Go.Proofs.Lays.n162 Tryz.prog Tryz.lays162_ren := {
  mixed := by kernel_rfl
  f119 := Tryz.func116.trans (congrArg some (by kernel_rfl))
  f120 := Tryz.func108.trans (congrArg some (by kernel_rfl))
  f137 := Tryz.func16.trans (congrArg some (by kernel_rfl))
  f151 := Tryz.func96.trans (congrArg some (by kernel_rfl))
  f152 := Tryz.func109.trans (congrArg some (by kernel_rfl))
  f162 := Tryz.func66.trans (congrArg some (by kernel_rfl))
  f197 := Tryz.func97.trans (congrArg some (by kernel_rfl))
  f217 := Tryz.func31.trans (congrArg some (by kernel_rfl))
  f224 := Tryz.func106.trans (congrArg some (by kernel_rfl))
  f225 := Tryz.func105.trans (congrArg some (by kernel_rfl))
  f227 := Tryz.func80.trans (congrArg some (by kernel_rfl))
  f228 := Tryz.func94.trans (congrArg some (by kernel_rfl))
  f232 := Tryz.func79.trans (congrArg some (by kernel_rfl))
  f234 := Tryz.func81.trans (congrArg some (by kernel_rfl))
  f236 := Tryz.func82.trans (congrArg some (by kernel_rfl))
  f260 := Tryz.func110.trans (congrArg some (by kernel_rfl))
  f266 := Tryz.func52.trans (congrArg some (by kernel_rfl))
  f271 := Tryz.func95.trans (congrArg some (by kernel_rfl))
  t0 := Tryz.underlying0
  a0 := Tryz.isAgg0
  z0 := Tryz.sizeOf0
  v0 := Tryz.zeroValue0
  t3 := Tryz.underlying3
  a3 := Tryz.isAgg3
  z3 := Tryz.sizeOf3
  v3 := Tryz.zeroValue3
  t4 := Tryz.underlying4
  a4 := Tryz.isAgg4
  z4 := Tryz.sizeOf4
  v4 := Tryz.zeroValue4
  t5 := Tryz.underlying5
  a5 := Tryz.isAgg5
  z5 := Tryz.sizeOf5
  v5 := Tryz.zeroValue5
  t9 := Tryz.underlying9
  a9 := Tryz.isAgg9
  z9 := Tryz.sizeOf9
  v9 := Tryz.zeroValue9
  t21 := Tryz.underlying21
  a21 := Tryz.isAgg21
  z21 := Tryz.sizeOf21
  v21 := Tryz.zeroValue21
  t46 := Tryz.underlying74
  a46 := Tryz.isAgg74
  z46 := Tryz.sizeOf74
  v46 := Tryz.zeroValue74
  t105 := Tryz.underlying115
  a105 := Tryz.isAgg115
  z105 := Tryz.sizeOf115
  v105 := Tryz.zeroValue115
  t116 := Tryz.underlying102
  a116 := Tryz.isAgg102
  z116 := Tryz.sizeOf102
  t117 := Tryz.underlying103
  a117 := Tryz.isAgg103
  z117 := Tryz.sizeOf103
  v117 := Tryz.zeroValue103
  t119 := Tryz.underlying70
  a119 := Tryz.isAgg70
  z119 := Tryz.sizeOf70
  t124 := Tryz.underlying106
  a124 := Tryz.isAgg106
  z124 := Tryz.sizeOf106
  v124 := Tryz.zeroValue106
  t138 := Tryz.underlying72
  a138 := Tryz.isAgg72
  z138 := Tryz.sizeOf72
  v138 := Tryz.zeroValue72
  t139 := Tryz.underlying73
  a139 := Tryz.isAgg73
  z139 := Tryz.sizeOf73
  v139 := Tryz.zeroValue73
  g3 := by kernel_rfl
  g4 := by kernel_rfl }
open Go.RowKit in
theorem Tryz.strings_TrimRight_one (s : ByteArray) (c : UInt8) (hc : c.toNat < 128) (w : World) (hs : s.size ≤ 9223372036854775807) :
    Calls Tryz.prog 66 #[.string s, .string ⟨#[c]⟩] w fun e w' => e = .returned (.string ⟨(Lib.trimRightB s.data.toList c).toArray⟩) ∧ w' = w := Any.strings_TrimRight_one Tryz.lays162 s c hc w hs
def Tryz.lays160_ren : Go.Shelf.Ren := ⟨fun | 160 => 70 | 232 => 79 | 231 => 83 | 227 => 80 | 234 => 81 | 233 => 84 | 236 => 82 | 235 => 85 | 228 => 94 | 271 => 95 | 151 => 96 | 197 => 97 | 120 => 108 | 152 => 109 | 260 => 110 | 137 => 16 | 119 => 116 | 224 => 106 | 225 => 105 | 217 => 31 | 266 => 52 | n => n, fun | 9 => 9 | 4 => 4 | 3 => 3 | 5 => 5 | 117 => 103 | 116 => 102 | 0 => 0 | 124 => 106 | 21 => 21 | 105 => 115 | 46 => 74 | 119 => 70 | 139 => 73 | 138 => 72 | n => n, fun | 3 => 0 | 4 => 1 | n => n⟩
theorem Tryz.lays160 : Go.Proofs.Lays.n160 Tryz.prog Tryz.lays160_ren := {
  mixed := by kernel_rfl
  f119 := Tryz.func116.trans (congrArg some (by kernel_rfl))
  f120 := Tryz.func108.trans (congrArg some (by kernel_rfl))
  f137 := Tryz.func16.trans (congrArg some (by kernel_rfl))
  f151 := Tryz.func96.trans (congrArg some (by kernel_rfl))
  f152 := Tryz.func109.trans (congrArg some (by kernel_rfl))
  f160 := Tryz.func70.trans (congrArg some (by kernel_rfl))
  f197 := Tryz.func97.trans (congrArg some (by kernel_rfl))
  f217 := Tryz.func31.trans (congrArg some (by kernel_rfl))
  f224 := Tryz.func106.trans (congrArg some (by kernel_rfl))
  f225 := Tryz.func105.trans (congrArg some (by kernel_rfl))
  f227 := Tryz.func80.trans (congrArg some (by kernel_rfl))
  f228 := Tryz.func94.trans (congrArg some (by kernel_rfl))
  f231 := Tryz.func83.trans (congrArg some (by kernel_rfl))
  f232 := Tryz.func79.trans (congrArg some (by kernel_rfl))
  f233 := Tryz.func84.trans (congrArg some (by kernel_rfl))
  f234 := Tryz.func81.trans (congrArg some (by kernel_rfl))
  f235 := Tryz.func85.trans (congrArg some (by kernel_rfl))
  f236 := Tryz.func82.trans (congrArg some (by kernel_rfl))
  f260 := Tryz.func110.trans (congrArg some (by kernel_rfl))
  f266 := Tryz.func52.trans (congrArg some (by kernel_rfl))
  f271 := Tryz.func95.trans (congrArg some (by kernel_rfl))
  t0 := Tryz.underlying0
  a0 := Tryz.isAgg0
  z0 := Tryz.sizeOf0
  v0 := Tryz.zeroValue0
  t3 := Tryz.underlying3
  a3 := Tryz.isAgg3
  z3 := Tryz.sizeOf3
  v3 := Tryz.zeroValue3
  t4 := Tryz.underlying4
  a4 := Tryz.isAgg4
  z4 := Tryz.sizeOf4
  v4 := Tryz.zeroValue4
  t5 := Tryz.underlying5
  a5 := Tryz.isAgg5
  z5 := Tryz.sizeOf5
  v5 := Tryz.zeroValue5
  t9 := Tryz.underlying9
  a9 := Tryz.isAgg9
  z9 := Tryz.sizeOf9
  v9 := Tryz.zeroValue9
  t21 := Tryz.underlying21
  a21 := Tryz.isAgg21
  z21 := Tryz.sizeOf21
  v21 := Tryz.zeroValue21
  t46 := Tryz.underlying74
  a46 := Tryz.isAgg74
  z46 := Tryz.sizeOf74
  v46 := Tryz.zeroValue74
  t105 := Tryz.underlying115
  a105 := Tryz.isAgg115
  z105 := Tryz.sizeOf115
  v105 := Tryz.zeroValue115
  t116 := Tryz.underlying102
  a116 := Tryz.isAgg102
  z116 := Tryz.sizeOf102
  t117 := Tryz.underlying103
  a117 := Tryz.isAgg103
  z117 := Tryz.sizeOf103
  v117 := Tryz.zeroValue103
  t119 := Tryz.underlying70
  a119 := Tryz.isAgg70
  z119 := Tryz.sizeOf70
  t124 := Tryz.underlying106
  a124 := Tryz.isAgg106
  z124 := Tryz.sizeOf106
  v124 := Tryz.zeroValue106
  t138 := Tryz.underlying72
  a138 := Tryz.isAgg72
  z138 := Tryz.sizeOf72
  v138 := Tryz.zeroValue72
  t139 := Tryz.underlying73
  a139 := Tryz.isAgg73
  z139 := Tryz.sizeOf73
  v139 := Tryz.zeroValue73
  g3 := by kernel_rfl
  g4 := by kernel_rfl }
open Go.RowKit in
theorem Tryz.strings_Trim_one (s : ByteArray) (c : UInt8) (hc : c.toNat < 128) (w : World) (hs : s.size ≤ 9223372036854775807) :
    Calls Tryz.prog 70 #[.string s, .string ⟨#[c]⟩] w fun e w' => e = .returned (.string ⟨(Lib.trimB s.data.toList c).toArray⟩) ∧ (w' = w ∨ w' = w.drew) := Any.strings_Trim_one Tryz.lays160 s c hc w hs
def Tryz.lays137_ren : Go.Shelf.Ren := ⟨fun | 137 => 16 | 217 => 31 | 266 => 52 | n => n, fun | 9 => 9 | 5 => 5 | 3 => 3 | n => n, fun | n => n⟩
theorem Tryz.lays137 : Go.Proofs.Lays.n137 Tryz.prog Tryz.lays137_ren := {
  mixed := by kernel_rfl
  f137 := Tryz.func16.trans (congrArg some (by kernel_rfl))
  f217 := Tryz.func31.trans (congrArg some (by kernel_rfl))
  f266 := Tryz.func52.trans (congrArg some (by kernel_rfl))
  t3 := Tryz.underlying3
  a3 := Tryz.isAgg3
  z3 := Tryz.sizeOf3
  v3 := Tryz.zeroValue3
  t5 := Tryz.underlying5
  a5 := Tryz.isAgg5
  z5 := Tryz.sizeOf5
  v5 := Tryz.zeroValue5
  t9 := Tryz.underlying9
  a9 := Tryz.isAgg9
  z9 := Tryz.sizeOf9
  v9 := Tryz.zeroValue9 }
open Go.RowKit in
theorem Tryz.strings_IndexByte (s : ByteArray) (c : Int) (w : World) :
    Calls Tryz.prog 16 #[.string s, .int .u8 c] w fun e w' => e = .returned (.int .i64 (Lib.indexByte s.data.toList c.toNat.toUInt8)) ∧ w' = w := Any.strings_IndexByte Tryz.lays137 s c w
def Tryz.lays172_ren : Go.Shelf.Ren := ⟨fun | 172 => 71 | 244 => 89 | 245 => 90 | 247 => 100 | 279 => 101 | 280 => 102 | 281 => 103 | 282 => 104 | 287 => 111 | 316 => 112 | 171 => 114 | 205 => 113 | 321 => 117 | 322 => 118 | 243 => 119 | 246 => 120 | 283 => 121 | 284 => 122 | 285 => 123 | 286 => 124 | 129 => 126 | 317 => 125 | 318 => 127 | 319 => 128 | 320 => 129 | 337 => 130 | 338 => 131 | n => n, fun | 9 => 9 | 3 => 3 | 75 => 92 | 76 => 93 | 4 => 4 | 5 => 5 | 167 => 122 | 37 => 82 | 0 => 0 | 85 => 123 | 2 => 2 | 168 => 125 | 53 => 29 | 175 => 129 | 46 => 74 | 210 => 133 | 127 => 140 | 145 => 143 | 143 => 141 | 21 => 21 | 171 => 145 | 173 => 148 | 212 => 151 | 51 => 136 | 20 => 20 | 213 => 152 | 232 => 155 | 233 => 156 | 80 => 157 | n => n, fun | 15 => 3 | 16 => 4 | 17 => 5 | 18 => 6 | 19 => 7 | n => n⟩
theorem Tryz.lays172 : Go.Proofs.Lays.n172 Tryz.prog Tryz.lays172_ren := {
  mixed := by kernel_rfl
  f129 := Tryz.func126.trans (congrArg some (by kernel_rfl))
  f171 := Tryz.func114.trans (congrArg some (by kernel_rfl))
  f172 := Tryz.func71.trans (congrArg some (by kernel_rfl))
  f205 := Tryz.func113.trans (congrArg some (by kernel_rfl))
  f243 := Tryz.func119.trans (congrArg some (by kernel_rfl))
  f244 := Tryz.func89.trans (congrArg some (by kernel_rfl))
  f245 := Tryz.func90.trans (congrArg some (by kernel_rfl))
  f246 := Tryz.func120.trans (congrArg some (by kernel_rfl))
  f247 := Tryz.func100.trans (congrArg some (by kernel_rfl))
  f279 := Tryz.func101.trans (congrArg some (by kernel_rfl))
  f280 := Tryz.func102.trans (congrArg some (by kernel_rfl))
  f281 := Tryz.func103.trans (congrArg some (by kernel_rfl))
  f282 := Tryz.func104.trans (congrArg some (by kernel_rfl))
  f283 := Tryz.func121.trans (congrArg some (by kernel_rfl))
  f284 := Tryz.func122.trans (congrArg some (by kernel_rfl))
  f285 := Tryz.func123.trans (congrArg some (by kernel_rfl))
  f286 := Tryz.func124.trans (congrArg some (by kernel_rfl))
  f287 := Tryz.func111.trans (congrArg some (by kernel_rfl))
  f316 := Tryz.func112.trans (congrArg some (by kernel_rfl))
  f317 := Tryz.func125.trans (congrArg some (by kernel_rfl))
  f318 := Tryz.func127.trans (congrArg some (by kernel_rfl))
  f319 := Tryz.func128.trans (congrArg some (by kernel_rfl))
  f320 := Tryz.func129.trans (congrArg some (by kernel_rfl))
  f321 := Tryz.func117.trans (congrArg some (by kernel_rfl))
  f322 := Tryz.func118.trans (congrArg some (by kernel_rfl))
  f337 := Tryz.func130.trans (congrArg some (by kernel_rfl))
  f338 := Tryz.func131.trans (congrArg some (by kernel_rfl))
  t0 := Tryz.underlying0
  a0 := Tryz.isAgg0
  z0 := Tryz.sizeOf0
  v0 := Tryz.zeroValue0
  t2 := Tryz.underlying2
  a2 := Tryz.isAgg2
  z2 := Tryz.sizeOf2
  v2 := Tryz.zeroValue2
  t3 := Tryz.underlying3
  a3 := Tryz.isAgg3
  z3 := Tryz.sizeOf3
  v3 := Tryz.zeroValue3
  t4 := Tryz.underlying4
  a4 := Tryz.isAgg4
  z4 := Tryz.sizeOf4
  v4 := Tryz.zeroValue4
  t5 := Tryz.underlying5
  a5 := Tryz.isAgg5
  z5 := Tryz.sizeOf5
  v5 := Tryz.zeroValue5
  t9 := Tryz.underlying9
  a9 := Tryz.isAgg9
  z9 := Tryz.sizeOf9
  v9 := Tryz.zeroValue9
  t20 := Tryz.underlying20
  a20 := Tryz.isAgg20
  z20 := Tryz.sizeOf20
  v20 := Tryz.zeroValue20
  t21 := Tryz.underlying21
  a21 := Tryz.isAgg21
  z21 := Tryz.sizeOf21
  v21 := Tryz.zeroValue21
  t37 := Tryz.underlying82
  a37 := Tryz.isAgg82
  z37 := Tryz.sizeOf82
  v37 := Tryz.zeroValue82
  t46 := Tryz.underlying74
  a46 := Tryz.isAgg74
  z46 := Tryz.sizeOf74
  v46 := Tryz.zeroValue74
  t51 := Tryz.underlying136
  a51 := Tryz.isAgg136
  z51 := Tryz.sizeOf136
  v51 := Tryz.zeroValue136
  t53 := Tryz.underlying29
  a53 := Tryz.isAgg29
  z53 := Tryz.sizeOf29
  v53 := Tryz.zeroValue29
  t75 := Tryz.underlying92
  a75 := Tryz.isAgg92
  z75 := Tryz.sizeOf92
  v75 := Tryz.zeroValue92
  t76 := Tryz.underlying93
  a76 := Tryz.isAgg93
  z76 := Tryz.sizeOf93
  v76 := Tryz.zeroValue93
  t85 := Tryz.underlying123
  a85 := Tryz.isAgg123
  z85 := Tryz.sizeOf123
  v85 := Tryz.zeroValue123
  t127 := Tryz.underlying140
  a127 := Tryz.isAgg140
  z127 := Tryz.sizeOf140
  v127 := Tryz.zeroValue140
  t143 := Tryz.underlying141
  a143 := Tryz.isAgg141
  z143 := Tryz.sizeOf141
  v143 := Tryz.zeroValue141
  t145 := Tryz.underlying143
  a145 := Tryz.isAgg143
  z145 := Tryz.sizeOf143
  v145 := Tryz.zeroValue143
  t167 := Tryz.underlying122
  a167 := Tryz.isAgg122
  z167 := Tryz.sizeOf122
  v167 := Tryz.zeroValue122
  t168 := Tryz.underlying125
  a168 := Tryz.isAgg125
  z168 := Tryz.sizeOf125
  v168 := Tryz.zeroValue125
  t171 := Tryz.underlying145
  a171 := Tryz.isAgg145
  z171 := Tryz.sizeOf145
  v171 := Tryz.zeroValue145
  t173 := Tryz.underlying148
  a173 := Tryz.isAgg148
  z173 := Tryz.sizeOf148
  v173 := Tryz.zeroValue148
  t175 := Tryz.underlying129
  a175 := Tryz.isAgg129
  z175 := Tryz.sizeOf129
  v175 := Tryz.zeroValue129
  t210 := Tryz.underlying133
  a210 := Tryz.isAgg133
  z210 := Tryz.sizeOf133
  v210 := Tryz.zeroValue133
  t212 := Tryz.underlying151
  a212 := Tryz.isAgg151
  z212 := Tryz.sizeOf151
  v212 := Tryz.zeroValue151
  t213 := Tryz.underlying152
  a213 := Tryz.isAgg152
  z213 := Tryz.sizeOf152
  t232 := Tryz.underlying155
  a232 := Tryz.isAgg155
  z232 := Tryz.sizeOf155
  v232 := Tryz.zeroValue155
  t233 := Tryz.underlying156
  a233 := Tryz.isAgg156
  z233 := Tryz.sizeOf156
  v233 := Tryz.zeroValue156
  g15 := by kernel_rfl
  g16 := by kernel_rfl
  g17 := by kernel_rfl
  g18 := by kernel_rfl
  g19 := by kernel_rfl }
open Go.RowKit in
theorem Tryz.strconv_Atoi (s : ByteArray) (n : Int) (hl : s.size ≤ 18) (h : Lib.atoi s.data.toList = some n) (w : World) :
    Calls Tryz.prog 71 #[.string s] w fun e w' => e = .returned (.tuple #[.int .i64 n, .nilIface]) ∧ ∃ t, w' = Lib.bytesWorld w 5 t := Any.strconv_Atoi Tryz.lays172 s n hl h w
def Tryz.laysM171_ren : Go.Shelf.Ren := ⟨fun | 171 => 114 | 243 => 119 | 246 => 120 | 283 => 121 | 284 => 122 | 285 => 123 | 286 => 124 | 129 => 126 | 317 => 125 | 318 => 127 | 319 => 128 | 320 => 129 | 337 => 130 | 338 => 131 | n => n, fun | 3 => 3 | 9 => 9 | 2 => 2 | 4 => 4 | 171 => 145 | 0 => 0 | 53 => 29 | 37 => 82 | 5 => 5 | 173 => 148 | 212 => 151 | 51 => 136 | 20 => 20 | 213 => 152 | 46 => 74 | 232 => 155 | 233 => 156 | n => n, fun | 17 => 5 | 18 => 6 | 19 => 7 | n => n⟩
theorem Tryz.laysM171 : Go.Proofs.LaysM.n171 Tryz.prog Tryz.laysM171_ren := {
  mixed := by kernel_rfl
  f129 := Tryz.func126.trans (congrArg some (by kernel_rfl))
  f171 := Tryz.func114.trans (congrArg some (by kernel_rfl))
  f243 := Tryz.func119.trans (congrArg some (by kernel_rfl))
  f246 := Tryz.func120.trans (congrArg some (by kernel_rfl))
  f283 := Tryz.func121.trans (congrArg some (by kernel_rfl))
  f284 := Tryz.func122.trans (congrArg some (by kernel_rfl))
  f285 := Tryz.func123.trans (congrArg some (by kernel_rfl))
  f286 := Tryz.func124.trans (congrArg some (by kernel_rfl))
  f317 := Tryz.func125.trans (congrArg some (by kernel_rfl))
  f318 := Tryz.func127.trans (congrArg some (by kernel_rfl))
  f319 := Tryz.func128.trans (congrArg some (by kernel_rfl))
  f320 := Tryz.func129.trans (congrArg some (by kernel_rfl))
  f337 := Tryz.func130.trans (congrArg some (by kernel_rfl))
  f338 := Tryz.func131.trans (congrArg some (by kernel_rfl))
  t0 := Tryz.underlying0
  a0 := Tryz.isAgg0
  z0 := Tryz.sizeOf0
  v0 := Tryz.zeroValue0
  t2 := Tryz.underlying2
  a2 := Tryz.isAgg2
  z2 := Tryz.sizeOf2
  v2 := Tryz.zeroValue2
  t3 := Tryz.underlying3
  a3 := Tryz.isAgg3
  z3 := Tryz.sizeOf3
  v3 := Tryz.zeroValue3
  t4 := Tryz.underlying4
  a4 := Tryz.isAgg4
  z4 := Tryz.sizeOf4
  v4 := Tryz.zeroValue4
  t5 := Tryz.underlying5
  a5 := Tryz.isAgg5
  z5 := Tryz.sizeOf5
  v5 := Tryz.zeroValue5
  t9 := Tryz.underlying9
  a9 := Tryz.isAgg9
  z9 := Tryz.sizeOf9
  v9 := Tryz.zeroValue9
  t20 := Tryz.underlying20
  a20 := Tryz.isAgg20
  z20 := Tryz.sizeOf20
  v20 := Tryz.zeroValue20
  t37 := Tryz.underlying82
  a37 := Tryz.isAgg82
  z37 := Tryz.sizeOf82
  v37 := Tryz.zeroValue82
  t46 := Tryz.underlying74
  a46 := Tryz.isAgg74
  z46 := Tryz.sizeOf74
  v46 := Tryz.zeroValue74
  t51 := Tryz.underlying136
  a51 := Tryz.isAgg136
  z51 := Tryz.sizeOf136
  v51 := Tryz.zeroValue136
  t53 := Tryz.underlying29
  a53 := Tryz.isAgg29
  z53 := Tryz.sizeOf29
  v53 := Tryz.zeroValue29
  t171 := Tryz.underlying145
  a171 := Tryz.isAgg145
  z171 := Tryz.sizeOf145
  v171 := Tryz.zeroValue145
  t173 := Tryz.underlying148
  a173 := Tryz.isAgg148
  z173 := Tryz.sizeOf148
  v173 := Tryz.zeroValue148
  t212 := Tryz.underlying151
  a212 := Tryz.isAgg151
  z212 := Tryz.sizeOf151
  v212 := Tryz.zeroValue151
  t213 := Tryz.underlying152
  a213 := Tryz.isAgg152
  z213 := Tryz.sizeOf152
  t232 := Tryz.underlying155
  a232 := Tryz.isAgg155
  z232 := Tryz.sizeOf155
  v232 := Tryz.zeroValue155
  t233 := Tryz.underlying156
  a233 := Tryz.isAgg156
  z233 := Tryz.sizeOf156
  v233 := Tryz.zeroValue156
  g17 := by kernel_rfl
  g18 := by kernel_rfl
  g19 := by kernel_rfl
  i0 := by kernel_rfl
  i2 := by kernel_rfl
  i3 := by kernel_rfl
  i4 := by kernel_rfl
  i5 := by kernel_rfl
  i9 := by kernel_rfl
  i20 := by kernel_rfl
  i37 := by kernel_rfl
  i46 := by kernel_rfl
  i51 := by kernel_rfl
  i53 := by kernel_rfl
  i171 := by kernel_rfl
  i173 := by kernel_rfl
  i212 := by kernel_rfl
  i232 := by kernel_rfl
  i233 := by kernel_rfl
  m17 := by kernel_rfl
  m18 := by kernel_rfl
  m19 := by kernel_rfl }
open Go.RowKit Go.Sort Go.Lib in
theorem Tryz.strconv_Itoa (n : Int) (h0 : -9223372036854775808 ≤ n) (h1 : n ≤ 9223372036854775807) (w : World) (htab : Lib.TabIs Tryz.prog w "internal/strconv.uint64pow10" .u64 Lib.pow10Tab) :
    Calls Tryz.prog 114 #[.int .i64 n] w fun e w' => e = .returned (.string ⟨(Lib.itoa n).toArray⟩) ∧ ∃ k os, w' = grow (w.drewN k) os := Any.strconv_Itoa Tryz.laysM171 n h0 h1 w htab
def Tryz.lays219_ren : Go.Shelf.Ren := ⟨fun | 219 => 93 | 217 => 31 | 225 => 105 | 224 => 106 | 267 => 107 | 266 => 52 | 314 => 115 | n => n, fun | 9 => 9 | 3 => 3 | 4 => 4 | 5 => 5 | 46 => 74 | 146 => 137 | 51 => 136 | n => n, fun | 1 => 2 | n => n⟩
theorem Tryz.lays219 : Go.Proofs.Lays.n219 Tryz.prog Tryz.lays219_ren := {
  mixed := by kernel_rfl
  f217 := Tryz.func31.trans (congrArg some (by kernel_rfl))
  f219 := Tryz.func93.trans (congrArg some (by kernel_rfl))
  f224 := Tryz.func106.trans (congrArg some (by kernel_rfl))
  f225 := Tryz.func105.trans (congrArg some (by kernel_rfl))
  f266 := Tryz.func52.trans (congrArg some (by kernel_rfl))
  f267 := Tryz.func107.trans (congrArg some (by kernel_rfl))
  f314 := Tryz.func115.trans (congrArg some (by kernel_rfl))
  t3 := Tryz.underlying3
  a3 := Tryz.isAgg3
  z3 := Tryz.sizeOf3
  v3 := Tryz.zeroValue3
  t4 := Tryz.underlying4
  a4 := Tryz.isAgg4
  z4 := Tryz.sizeOf4
  v4 := Tryz.zeroValue4
  t5 := Tryz.underlying5
  a5 := Tryz.isAgg5
  z5 := Tryz.sizeOf5
  v5 := Tryz.zeroValue5
  t9 := Tryz.underlying9
  a9 := Tryz.isAgg9
  z9 := Tryz.sizeOf9
  v9 := Tryz.zeroValue9
  t46 := Tryz.underlying74
  a46 := Tryz.isAgg74
  z46 := Tryz.sizeOf74
  v46 := Tryz.zeroValue74
  t51 := Tryz.underlying136
  a51 := Tryz.isAgg136
  z51 := Tryz.sizeOf136
  v51 := Tryz.zeroValue136
  t146 := Tryz.underlying137
  a146 := Tryz.isAgg137
  z146 := Tryz.sizeOf137
  v146 := Tryz.zeroValue137
  g1 := by kernel_rfl }
open Go.RowKit Go.Lib in
theorem Tryz.stringslite_Index_one (s : ByteArray) (c : UInt8) (w : World) :
    Calls Tryz.prog 93 #[.string s, .string ⟨#[c]⟩] w fun e w' => e = .returned (.int .i64 (Lib.indexByte s.data.toList c)) ∧ w' = w := Any.stringslite_Index_one Tryz.lays219 s c w
def Tryz.laysGw15_ren : Go.Shelf.Ren := ⟨fun | 15 => 28 | 20 => 51 | n => n, fun | 9 => 9 | 23 => 55 | 3 => 3 | 4 => 4 | 0 => 0 | 21 => 21 | n => n, fun | n => n⟩
theorem Tryz.laysGw15 : Go.Proofs.LaysGw.n15 Tryz.prog Tryz.laysGw15_ren := {
  mixed := by kernel_rfl
  f15 := Tryz.func28.trans (congrArg some (by kernel_rfl))
  f20 := Tryz.func51.trans (congrArg some (by kernel_rfl))
  t0 := Tryz.underlying0
  a0 := Tryz.isAgg0
  z0 := Tryz.sizeOf0
  v0 := Tryz.zeroValue0
  i0 := by kernel_rfl
  t3 := Tryz.underlying3
  a3 := Tryz.isAgg3
  z3 := Tryz.sizeOf3
  v3 := Tryz.zeroValue3
  i3 := by kernel_rfl
  t4 := Tryz.underlying4
  a4 := Tryz.isAgg4
  z4 := Tryz.sizeOf4
  v4 := Tryz.zeroValue4
  i4 := by kernel_rfl
  t9 := Tryz.underlying9
  a9 := Tryz.isAgg9
  z9 := Tryz.sizeOf9
  v9 := Tryz.zeroValue9
  i9 := by kernel_rfl
  t21 := Tryz.underlying21
  a21 := Tryz.isAgg21
  z21 := Tryz.sizeOf21
  v21 := Tryz.zeroValue21
  i21 := by kernel_rfl
  t23 := Tryz.underlying55
  a23 := Tryz.isAgg55
  z23 := Tryz.sizeOf55
  v23 := Tryz.zeroValue55
  i23 := by kernel_rfl }
def Tryz.lays206_ren : Go.Shelf.Ren := ⟨fun | 206 => 69 | n => n, fun | 9 => 9 | 4 => 4 | 3 => 3 | n => n, fun | n => n⟩
theorem Tryz.lays206 : Go.Proofs.Lays.n206 Tryz.prog Tryz.lays206_ren := {
  mixed := by kernel_rfl
  f206 := Tryz.func69.trans (congrArg some (by kernel_rfl))
  t3 := Tryz.underlying3
  a3 := Tryz.isAgg3
  z3 := Tryz.sizeOf3
  v3 := Tryz.zeroValue3
  t4 := Tryz.underlying4
  a4 := Tryz.isAgg4
  z4 := Tryz.sizeOf4
  v4 := Tryz.zeroValue4
  t9 := Tryz.underlying9
  a9 := Tryz.isAgg9
  z9 := Tryz.sizeOf9
  v9 := Tryz.zeroValue9 }
open Go.RowKit Go.Lib in
theorem Tryz.stringslite_HasPrefix (s p : ByteArray) (w : World) :
    Calls Tryz.prog 69 #[.string s, .string p] w fun e w' => e = .returned (.bool (Lib.hasPrefix s.data.toList p.data.toList)) ∧ w' = w := Any.stringslite_HasPrefix Tryz.lays206 s p w
def Tryz.lays99_ren : Go.Shelf.Ren := ⟨fun | 99 => 54 | 206 => 69 | n => n, fun | 9 => 9 | 4 => 4 | 3 => 3 | n => n, fun | n => n⟩
theorem Tryz.lays99 : Go.Proofs.Lays.n99 Tryz.prog Tryz.lays99_ren := {
  mixed := by kernel_rfl
  f99 := Tryz.func54.trans (congrArg some (by kernel_rfl))
  f206 := Tryz.func69.trans (congrArg some (by kernel_rfl))
  t3 := Tryz.underlying3
  a3 := Tryz.isAgg3
  z3 := Tryz.sizeOf3
  v3 := Tryz.zeroValue3
  t4 := Tryz.underlying4
  a4 := Tryz.isAgg4
  z4 := Tryz.sizeOf4
  v4 := Tryz.zeroValue4
  t9 := Tryz.underlying9
  a9 := Tryz.isAgg9
  z9 := Tryz.sizeOf9
  v9 := Tryz.zeroValue9 }
open Go.RowKit Go.Lib in
theorem Tryz.strings_HasPrefix (s p : ByteArray) (w : World) :
    Calls Tryz.prog 54 #[.string s, .string p] w fun e w' => e = .returned (.bool (Lib.hasPrefix s.data.toList p.data.toList)) ∧ w' = w := Any.strings_HasPrefix Tryz.lays99 s p w
def Tryz.lays264_ren : Go.Shelf.Ren := ⟨fun | 264 => 98 | n => n, fun | 53 => 29 | 46 => 74 | n => n, fun | n => n⟩
theorem Tryz.lays264 : Go.Proofs.Lays.n264 Tryz.prog Tryz.lays264_ren := {
  mixed := by kernel_rfl
  f264 := Tryz.func98.trans (congrArg some (by kernel_rfl))
  t46 := Tryz.underlying74
  a46 := Tryz.isAgg74
  z46 := Tryz.sizeOf74
  v46 := Tryz.zeroValue74
  t53 := Tryz.underlying29
  a53 := Tryz.isAgg29
  z53 := Tryz.sizeOf29
  v53 := Tryz.zeroValue29 }
open Go.RowKit Go.Lib in
theorem Tryz.bits_Mul64 (x y : Nat) (hx : x < 18446744073709551616) (hy : y < 18446744073709551616) (w : World) :
    Calls Tryz.prog 98 #[.int .u64 x, .int .u64 y] w fun e w' => e = .returned (.tuple #[.int .u64 ((x * y / 18446744073709551616 : Nat) : Int), .int .u64 ((x * y % 18446744073709551616 : Nat) : Int)]) ∧ w' = w := Any.bits_Mul64 Tryz.lays264 x y hx hy w
open Go.RowKit Go.Lib in
theorem Tryz.strings_IndexFunc_grows (g : Nat) (lb : Array Value) (eg : ∀ args w, (callFunc g args).run Tryz.prog w = .ok (.enter g args) w) (p : Nat → Bool) (s : ByteArray) (w : World) (hp : PredGrows Tryz.prog g lb p w) :
    Calls Tryz.prog 28 #[.string s, .func (.func g) #[] lb] w fun e w' => e = .returned (.int .i64 (Lib.idxFunc p true s)) ∧ Below w.heap.size w w' := Any.strings_IndexFunc_grows Tryz.laysGw15 g lb eg p s w hp
def Tryz.lays196_ren : Go.Shelf.Ren := ⟨fun | 196 => 27 | 259 => 50 | n => n, fun | 9 => 9 | 4 => 4 | 3 => 3 | 5 => 5 | 12 => 12 | 119 => 70 | 0 => 0 | 46 => 74 | 139 => 73 | 138 => 72 | 53 => 29 | n => n, fun | 3 => 0 | 4 => 1 | n => n⟩
theorem Tryz.lays196 : Go.Proofs.Lays.n196 Tryz.prog Tryz.lays196_ren := {
  mixed := by kernel_rfl
  f196 := Tryz.func27.trans (congrArg some (by kernel_rfl))
  f259 := Tryz.func50.trans (congrArg some (by kernel_rfl))
  t0 := Tryz.underlying0
  a0 := Tryz.isAgg0
  z0 := Tryz.sizeOf0
  v0 := Tryz.zeroValue0
  t3 := Tryz.underlying3
  a3 := Tryz.isAgg3
  z3 := Tryz.sizeOf3
  v3 := Tryz.zeroValue3
  t4 := Tryz.underlying4
  a4 := Tryz.isAgg4
  z4 := Tryz.sizeOf4
  v4 := Tryz.zeroValue4
  t5 := Tryz.underlying5
  a5 := Tryz.isAgg5
  z5 := Tryz.sizeOf5
  v5 := Tryz.zeroValue5
  t9 := Tryz.underlying9
  a9 := Tryz.isAgg9
  z9 := Tryz.sizeOf9
  v9 := Tryz.zeroValue9
  t12 := Tryz.underlying12
  a12 := Tryz.isAgg12
  z12 := Tryz.sizeOf12
  v12 := Tryz.zeroValue12
  t46 := Tryz.underlying74
  a46 := Tryz.isAgg74
  z46 := Tryz.sizeOf74
  v46 := Tryz.zeroValue74
  t53 := Tryz.underlying29
  a53 := Tryz.isAgg29
  z53 := Tryz.sizeOf29
  v53 := Tryz.zeroValue29
  t119 := Tryz.underlying70
  a119 := Tryz.isAgg70
  z119 := Tryz.sizeOf70
  t138 := Tryz.underlying72
  a138 := Tryz.isAgg72
  z138 := Tryz.sizeOf72
  v138 := Tryz.zeroValue72
  t139 := Tryz.underlying73
  a139 := Tryz.isAgg73
  z139 := Tryz.sizeOf73
  v139 := Tryz.zeroValue73
  g3 := by kernel_rfl
  g4 := by kernel_rfl }
def Tryz.lays25_ren : Go.Shelf.Ren := ⟨fun | 25 => 99 | n => n, fun | 22 => 29 | n => n, fun | n => n⟩
theorem Tryz.lays25 : Go.Proofs.Lays7.n25 Tryz.prog Tryz.lays25_ren := {
  mixed := by kernel_rfl
  f25 := Tryz.func99.trans (congrArg some (by kernel_rfl))
  t22 := Tryz.underlying29
  a22 := Tryz.isAgg29
  z22 := Tryz.sizeOf29
  v22 := Tryz.zeroValue29
  i22 := by kernel_rfl }
end Go.Proofs
