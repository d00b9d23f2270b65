/- The contracts of library functions that this claim uses, laid over this translation by the kit's own command. -/
import Derived.Shelf.Strings.Trim
import Derived.Shelf.Small.Utf8
import Derived.Shelf.Small.Strs
import Derived.Shelf.Small.Wraps
import Derived.Shelf.Strconv.Itoa0
import Derived.Shelf.LaysM
import Derived.Shelf.Strconv.Clone
import Derived.Shelf.Strconv.SyntaxError
import Derived.Shelf.LaysC
import Derived.Shelf.Strconv.ToError
import Derived.Shelf.Strconv.Lower
import Derived.Shelf.Strconv.RangeError
import Derived.Shelf.Strconv.ToErrorRange
import Derived.Shelf.Strings.Search1
import Derived.Shelf.Strings.Search2
import Derived.Shelf.Strings.Search3
import Derived.Shelf.Strings.Cut
import Derived.Shelf.Strings.Count
import Derived.Shelf.Strings.Shaped
import Derived.Shelf.GgClosure.StringsIndexFunc
import Derived.Ground.GgwProg
import Derived.Shelf.GgClosure.StringsIndexFuncTop
import Derived.Shelf.Strings.Prefix
import Derived.Shelf.Strings.Split
import Derived.Shelf.Strings.Runes
import Derived.Shelf.Strings.AsciiSet
import Derived.Shelf.Unicode.DecodeSlow
import Derived.Shelf.Unicode.DecodeAny
import Derived.Shelf.Unicode.DecodeLast
import Derived.Shelf.Strings.FuncGrows
import Derived.Shelf.Unicode.ValidAny
import Derived.Test.YtfnodoepeiknhaaGreatDoorProg
namespace Go.Proofs
def Tryz.lays160_ren : Go.Shelf.Ren := ⟨fun | 160 => 56 | 232 => 85 | 231 => 84 | 227 => 86 | 234 => 88 | 233 => 87 | 236 => 90 | 235 => 89 | 228 => 109 | 271 => 112 | 151 => 111 | 197 => 110 | 120 => 129 | 152 => 128 | 260 => 127 | 137 => 95 | 119 => 142 | 224 => 106 | 225 => 105 | 217 => 104 | 266 => 125 | n => n, fun | 9 => 9 | 4 => 4 | 3 => 3 | 5 => 5 | 117 => 133 | 116 => 132 | 0 => 0 | 124 => 136 | 21 => 21 | 105 => 157 | 46 => 125 | 119 => 121 | 139 => 124 | 138 => 123 | n => n, fun | 3 => 0 | 4 => 1 | n => n⟩
theorem Tryz.lays160 : Go.Proofs.Lays.n160 Tryz.prog Tryz.lays160_ren := {
  mixed := by kernel_rfl
  f119 := Tryz.func142.trans (congrArg some (by kernel_rfl))
  f120 := Tryz.func129.trans (congrArg some (by kernel_rfl))
  f137 := Tryz.func95.trans (congrArg some (by kernel_rfl))
  f151 := Tryz.func111.trans (congrArg some (by kernel_rfl))
  f152 := Tryz.func128.trans (congrArg some (by kernel_rfl))
  f160 := Tryz.func56.trans (congrArg some (by kernel_rfl))
  f197 := Tryz.func110.trans (congrArg some (by kernel_rfl))
  f217 := Tryz.func104.trans (congrArg some (by kernel_rfl))
  f224 := Tryz.func106.trans (congrArg some (by kernel_rfl))
  f225 := Tryz.func105.trans (congrArg some (by kernel_rfl))
  f227 := Tryz.func86.trans (congrArg some (by kernel_rfl))
  f228 := Tryz.func109.trans (congrArg some (by kernel_rfl))
  f231 := Tryz.func84.trans (congrArg some (by kernel_rfl))
  f232 := Tryz.func85.trans (congrArg some (by kernel_rfl))
  f233 := Tryz.func87.trans (congrArg some (by kernel_rfl))
  f234 := Tryz.func88.trans (congrArg some (by kernel_rfl))
  f235 := Tryz.func89.trans (congrArg some (by kernel_rfl))
  f236 := Tryz.func90.trans (congrArg some (by kernel_rfl))
  f260 := Tryz.func127.trans (congrArg some (by kernel_rfl))
  f266 := Tryz.func125.trans (congrArg some (by kernel_rfl))
  f271 := Tryz.func112.trans (congrArg some (by kernel_rfl))
  t0 := Tryz.underlying0
  a0 := Tryz.isAgg0
  z0 := Tryz.sizeOf0
  v0 := Tryz.zeroValue0
  t3 := Tryz.underlying3
  a3 := Tryz.isAgg3
  z3 := Tryz.sizeOf3
  v3 := Tryz.zeroValue3
  t4 := Tryz.underlying4
  a4 := Tryz.isAgg4
  z4 := Tryz.sizeOf4
  v4 := Tryz.zeroValue4
  t5 := Tryz.underlying5
  a5 := Tryz.isAgg5
  z5 := Tryz.sizeOf5
  v5 := Tryz.zeroValue5
  t9 := Tryz.underlying9
  a9 := Tryz.isAgg9
  z9 := Tryz.sizeOf9
  v9 := Tryz.zeroValue9
  t21 := Tryz.underlying21
  a21 := Tryz.isAgg21
  z21 := Tryz.sizeOf21
  v21 := Tryz.zeroValue21
  t46 := Tryz.underlying125
  a46 := Tryz.isAgg125
  z46 := Tryz.sizeOf125
  v46 := Tryz.zeroValue125
  t105 := Tryz.underlying157
  a105 := Tryz.isAgg157
  z105 := Tryz.sizeOf157
  v105 := Tryz.zeroValue157
  t116 := Tryz.underlying132
  a116 := Tryz.isAgg132
  z116 := Tryz.sizeOf132
  t117 := Tryz.underlying133
  a117 := Tryz.isAgg133
  z117 := Tryz.sizeOf133
  v117 := Tryz.zeroValue133
  t119 := Tryz.underlying121
  a119 := Tryz.isAgg121
  z119 := Tryz.sizeOf121
  t124 := Tryz.underlying136
  a124 := Tryz.isAgg136
  z124 := Tryz.sizeOf136
  v124 := Tryz.zeroValue136
  t138 := Tryz.underlying123
  a138 := Tryz.isAgg123
  z138 := Tryz.sizeOf123
  v138 := Tryz.zeroValue123
  t139 := Tryz.underlying124
  a139 := Tryz.isAgg124
  z139 := Tryz.sizeOf124
  v139 := Tryz.zeroValue124
  g3 := by kernel_rfl
  g4 := by kernel_rfl }
open Go.RowKit in
theorem Tryz.strings_Trim_one (s : ByteArray) (c : UInt8) (hc : c.toNat < 128) (w : World) (hs : s.size ≤ 9223372036854775807) :
    Calls Tryz.prog 56 #[.string s, .string ⟨#[c]⟩] w fun e w' => e = .returned (.string ⟨(Lib.trimB s.data.toList c).toArray⟩) ∧ (w' = w ∨ w' = w.drew) := Any.strings_Trim_one Tryz.lays160 s c hc w hs
def Tryz.lays103_ren : Go.Shelf.Ren := ⟨fun | 103 => 55 | 210 => 83 | 206 => 108 | n => n, fun | 9 => 9 | 4 => 4 | 24 => 62 | 3 => 3 | n => n, fun | n => n⟩
theorem Tryz.lays103 : Go.Proofs.Lays.n103 Tryz.prog Tryz.lays103_ren := {
  mixed := by kernel_rfl
  f103 := Tryz.func55.trans (congrArg some (by kernel_rfl))
  f206 := Tryz.func108.trans (congrArg some (by kernel_rfl))
  f210 := Tryz.func83.trans (congrArg some (by kernel_rfl))
  t3 := Tryz.underlying3
  a3 := Tryz.isAgg3
  z3 := Tryz.sizeOf3
  v3 := Tryz.zeroValue3
  t4 := Tryz.underlying4
  a4 := Tryz.isAgg4
  z4 := Tryz.sizeOf4
  v4 := Tryz.zeroValue4
  t9 := Tryz.underlying9
  a9 := Tryz.isAgg9
  z9 := Tryz.sizeOf9
  v9 := Tryz.zeroValue9
  t24 := Tryz.underlying62
  a24 := Tryz.isAgg62
  z24 := Tryz.sizeOf62
  v24 := Tryz.zeroValue62 }
open Go.RowKit in
theorem Tryz.strings_CutPrefix (s p : ByteArray) (w : World) :
    Calls Tryz.prog 55 #[.string s, .string p] w fun e w' => e = .returned (.tuple #[.string ⟨(Lib.trimPrefix s.data.toList p.data.toList).toArray⟩, .bool (Lib.hasPrefix s.data.toList p.data.toList)]) ∧ w' = w := Any.strings_CutPrefix Tryz.lays103 s p w
def Tryz.laysC245_ren : Go.Shelf.Ren := ⟨fun | 245 => 92 | 279 => 115 | 280 => 116 | 281 => 117 | 282 => 118 | 316 => 130 | 171 => 132 | 205 => 131 | 243 => 143 | 246 => 151 | 283 => 152 | 284 => 153 | 285 => 154 | 286 => 155 | 129 => 157 | 317 => 156 | 318 => 158 | 319 => 159 | 320 => 160 | 337 => 161 | 338 => 162 | n => n, fun | 9 => 9 | 3 => 3 | 75 => 58 | 167 => 160 | 4 => 4 | 168 => 162 | 210 => 183 | 37 => 47 | 0 => 0 | 127 => 99 | 145 => 197 | 143 => 195 | 2 => 2 | 171 => 202 | 53 => 102 | 5 => 5 | 173 => 205 | 212 => 208 | 51 => 84 | 20 => 20 | 213 => 209 | 46 => 125 | 232 => 212 | 233 => 213 | 80 => 61 | n => n, fun | 15 => 3 | 16 => 4 | 17 => 5 | 18 => 6 | 19 => 7 | n => n⟩
theorem Tryz.laysC245 : Go.Proofs.LaysC.n245 Tryz.prog Tryz.laysC245_ren := {
  mixed := by kernel_rfl
  f129 := Tryz.func157.trans (congrArg some (by kernel_rfl))
  f171 := Tryz.func132.trans (congrArg some (by kernel_rfl))
  f205 := Tryz.func131.trans (congrArg some (by kernel_rfl))
  f243 := Tryz.func143.trans (congrArg some (by kernel_rfl))
  f245 := Tryz.func92.trans (congrArg some (by kernel_rfl))
  f246 := Tryz.func151.trans (congrArg some (by kernel_rfl))
  f279 := Tryz.func115.trans (congrArg some (by kernel_rfl))
  f280 := Tryz.func116.trans (congrArg some (by kernel_rfl))
  f281 := Tryz.func117.trans (congrArg some (by kernel_rfl))
  f282 := Tryz.func118.trans (congrArg some (by kernel_rfl))
  f283 := Tryz.func152.trans (congrArg some (by kernel_rfl))
  f284 := Tryz.func153.trans (congrArg some (by kernel_rfl))
  f285 := Tryz.func154.trans (congrArg some (by kernel_rfl))
  f286 := Tryz.func155.trans (congrArg some (by kernel_rfl))
  f316 := Tryz.func130.trans (congrArg some (by kernel_rfl))
  f317 := Tryz.func156.trans (congrArg some (by kernel_rfl))
  f318 := Tryz.func158.trans (congrArg some (by kernel_rfl))
  f319 := Tryz.func159.trans (congrArg some (by kernel_rfl))
  f320 := Tryz.func160.trans (congrArg some (by kernel_rfl))
  f337 := Tryz.func161.trans (congrArg some (by kernel_rfl))
  f338 := Tryz.func162.trans (congrArg some (by kernel_rfl))
  t0 := Tryz.underlying0
  a0 := Tryz.isAgg0
  z0 := Tryz.sizeOf0
  v0 := Tryz.zeroValue0
  t2 := Tryz.underlying2
  a2 := Tryz.isAgg2
  z2 := Tryz.sizeOf2
  v2 := Tryz.zeroValue2
  t3 := Tryz.underlying3
  a3 := Tryz.isAgg3
  z3 := Tryz.sizeOf3
  v3 := Tryz.zeroValue3
  t4 := Tryz.underlying4
  a4 := Tryz.isAgg4
  z4 := Tryz.sizeOf4
  v4 := Tryz.zeroValue4
  t5 := Tryz.underlying5
  a5 := Tryz.isAgg5
  z5 := Tryz.sizeOf5
  v5 := Tryz.zeroValue5
  t9 := Tryz.underlying9
  a9 := Tryz.isAgg9
  z9 := Tryz.sizeOf9
  v9 := Tryz.zeroValue9
  t20 := Tryz.underlying20
  a20 := Tryz.isAgg20
  z20 := Tryz.sizeOf20
  v20 := Tryz.zeroValue20
  t37 := Tryz.underlying47
  a37 := Tryz.isAgg47
  z37 := Tryz.sizeOf47
  v37 := Tryz.zeroValue47
  t46 := Tryz.underlying125
  a46 := Tryz.isAgg125
  z46 := Tryz.sizeOf125
  v46 := Tryz.zeroValue125
  t51 := Tryz.underlying84
  a51 := Tryz.isAgg84
  z51 := Tryz.sizeOf84
  v51 := Tryz.zeroValue84
  t53 := Tryz.underlying102
  a53 := Tryz.isAgg102
  z53 := Tryz.sizeOf102
  v53 := Tryz.zeroValue102
  t75 := Tryz.underlying58
  a75 := Tryz.isAgg58
  z75 := Tryz.sizeOf58
  v75 := Tryz.zeroValue58
  t127 := Tryz.underlying99
  a127 := Tryz.isAgg99
  z127 := Tryz.sizeOf99
  v127 := Tryz.zeroValue99
  t143 := Tryz.underlying195
  a143 := Tryz.isAgg195
  z143 := Tryz.sizeOf195
  v143 := Tryz.zeroValue195
  t145 := Tryz.underlying197
  a145 := Tryz.isAgg197
  z145 := Tryz.sizeOf197
  v145 := Tryz.zeroValue197
  t167 := Tryz.underlying160
  a167 := Tryz.isAgg160
  z167 := Tryz.sizeOf160
  v167 := Tryz.zeroValue160
  t168 := Tryz.underlying162
  a168 := Tryz.isAgg162
  z168 := Tryz.sizeOf162
  v168 := Tryz.zeroValue162
  t171 := Tryz.underlying202
  a171 := Tryz.isAgg202
  z171 := Tryz.sizeOf202
  v171 := Tryz.zeroValue202
  t173 := Tryz.underlying205
  a173 := Tryz.isAgg205
  z173 := Tryz.sizeOf205
  v173 := Tryz.zeroValue205
  t210 := Tryz.underlying183
  a210 := Tryz.isAgg183
  z210 := Tryz.sizeOf183
  v210 := Tryz.zeroValue183
  t212 := Tryz.underlying208
  a212 := Tryz.isAgg208
  z212 := Tryz.sizeOf208
  v212 := Tryz.zeroValue208
  t213 := Tryz.underlying209
  a213 := Tryz.isAgg209
  z213 := Tryz.sizeOf209
  t232 := Tryz.underlying212
  a232 := Tryz.isAgg212
  z232 := Tryz.sizeOf212
  v232 := Tryz.zeroValue212
  t233 := Tryz.underlying213
  a233 := Tryz.isAgg213
  z233 := Tryz.sizeOf213
  v233 := Tryz.zeroValue213
  g15 := by kernel_rfl
  g16 := by kernel_rfl
  g17 := by kernel_rfl
  g18 := by kernel_rfl
  g19 := by kernel_rfl
  t80 := Tryz.underlying61
  a80 := Tryz.isAgg61
  z80 := Tryz.sizeOf61
  v80 := Tryz.zeroValue61
  i0 := by kernel_rfl
  i2 := by kernel_rfl
  i3 := by kernel_rfl
  i4 := by kernel_rfl
  i5 := by kernel_rfl
  i9 := by kernel_rfl
  i20 := by kernel_rfl
  i37 := by kernel_rfl
  i46 := by kernel_rfl
  i51 := by kernel_rfl
  i53 := by kernel_rfl
  i75 := by kernel_rfl
  i80 := by kernel_rfl
  i127 := by kernel_rfl
  i143 := by kernel_rfl
  i145 := by kernel_rfl
  i167 := by kernel_rfl
  i168 := by kernel_rfl
  i171 := by kernel_rfl
  i173 := by kernel_rfl
  i210 := by kernel_rfl
  i212 := by kernel_rfl
  i232 := by kernel_rfl
  i233 := by kernel_rfl
  m15 := by kernel_rfl
  m16 := by kernel_rfl
  m17 := by kernel_rfl
  m18 := by kernel_rfl
  m19 := by kernel_rfl
  c0 := by kernel_rfl
  c2 := by kernel_rfl
  c3 := by kernel_rfl
  c4 := by kernel_rfl
  c5 := by kernel_rfl
  c9 := by kernel_rfl
  c20 := by kernel_rfl
  c37 := by kernel_rfl
  c46 := by kernel_rfl
  c51 := by kernel_rfl
  c53 := by kernel_rfl
  c75 := by kernel_rfl
  c80 := by kernel_rfl
  c127 := by kernel_rfl
  c143 := by kernel_rfl
  c145 := by kernel_rfl
  c167 := by kernel_rfl
  c168 := by kernel_rfl
  c171 := by kernel_rfl
  c173 := by kernel_rfl
  c210 := by kernel_rfl
  c212 := by kernel_rfl
  c213 := by kernel_rfl
  c232 := by kernel_rfl
  c233 := by kernel_rfl }
open Go.RowKit in
theorem Tryz.strconv_toError_syntax (fn s : ByteArray) (base bits : Int) (ev : Value) (w : World) (hlim : s.size ≤ 281474976710656) (hv : w.cell? ⟨3, 0, none⟩ = some ev) (hev : ev = .nilIface ∨ ∃ te pe, ev = .iface te pe) :
    Calls Tryz.prog 92 #[.string fn, .string s, .int .i64 base, .int .i64 bits, .iface 160 (.int .i64 2)] w fun e w' => ∃ N, e = .returned (.iface 162 (.pointer (some ⟨N, 0, none⟩))) ∧ w.heap.size ≤ N ∧ w'.heap[N]? = some (.cells #[.string fn, .string s, ev] 183 (0, 0)) ∧ Below w.heap.size w w' := Any.strconv_toError_syntax Tryz.laysC245 fn s base bits ev w hlim hv hev
def Tryz.lays321_ren : Go.Shelf.Ren := ⟨fun | 321 => 113 | n => n, fun | 5 => 5 | n => n, fun | n => n⟩
theorem Tryz.lays321 : Go.Proofs.Lays.n321 Tryz.prog Tryz.lays321_ren := {
  mixed := by kernel_rfl
  f321 := Tryz.func113.trans (congrArg some (by kernel_rfl))
  t5 := Tryz.underlying5
  a5 := Tryz.isAgg5
  z5 := Tryz.sizeOf5
  v5 := Tryz.zeroValue5 }
open Go.RowKit in
theorem Tryz.internal_strconv_lower (c : Int) (w : World) :
    Calls Tryz.prog 113 #[.int .u8 c] w fun e w' => e = .returned (.int .u8 (bits .or .u8 c 32)) ∧ w' = w := Any.internal_strconv_lower Tryz.lays321 c w
open Go.RowKit in
theorem Tryz.strconv_toError_range (fn s : ByteArray) (base bits : Int) (ev : Value) (w : World) (hlim : s.size ≤ 281474976710656) (hv : w.cell? ⟨4, 0, none⟩ = some ev) (hev : ev = .nilIface ∨ ∃ te pe, ev = .iface te pe) :
    Calls Tryz.prog 92 #[.string fn, .string s, .int .i64 base, .int .i64 bits, .iface 160 (.int .i64 1)] w fun e w' => ∃ N, e = .returned (.iface 162 (.pointer (some ⟨N, 0, none⟩))) ∧ w.heap.size ≤ N ∧ w'.heap[N]? = some (.cells #[.string fn, .string s, ev] 183 (0, 0)) ∧ Below w.heap.size w w' := Any.strconv_toError_range Tryz.laysC245 fn s base bits ev w hlim hv hev
def Tryz.lays219_ren : Go.Shelf.Ren := ⟨fun | 219 => 81 | 217 => 104 | 225 => 105 | 224 => 106 | 267 => 107 | 266 => 125 | 314 => 126 | n => n, fun | 9 => 9 | 3 => 3 | 4 => 4 | 5 => 5 | 46 => 125 | 146 => 179 | 51 => 84 | n => n, fun | 1 => 2 | n => n⟩
theorem Tryz.lays219 : Go.Proofs.Lays.n219 Tryz.prog Tryz.lays219_ren := {
  mixed := by kernel_rfl
  f217 := Tryz.func104.trans (congrArg some (by kernel_rfl))
  f219 := Tryz.func81.trans (congrArg some (by kernel_rfl))
  f224 := Tryz.func106.trans (congrArg some (by kernel_rfl))
  f225 := Tryz.func105.trans (congrArg some (by kernel_rfl))
  f266 := Tryz.func125.trans (congrArg some (by kernel_rfl))
  f267 := Tryz.func107.trans (congrArg some (by kernel_rfl))
  f314 := Tryz.func126.trans (congrArg some (by kernel_rfl))
  t3 := Tryz.underlying3
  a3 := Tryz.isAgg3
  z3 := Tryz.sizeOf3
  v3 := Tryz.zeroValue3
  t4 := Tryz.underlying4
  a4 := Tryz.isAgg4
  z4 := Tryz.sizeOf4
  v4 := Tryz.zeroValue4
  t5 := Tryz.underlying5
  a5 := Tryz.isAgg5
  z5 := Tryz.sizeOf5
  v5 := Tryz.zeroValue5
  t9 := Tryz.underlying9
  a9 := Tryz.isAgg9
  z9 := Tryz.sizeOf9
  v9 := Tryz.zeroValue9
  t46 := Tryz.underlying125
  a46 := Tryz.isAgg125
  z46 := Tryz.sizeOf125
  v46 := Tryz.zeroValue125
  t51 := Tryz.underlying84
  a51 := Tryz.isAgg84
  z51 := Tryz.sizeOf84
  v51 := Tryz.zeroValue84
  t146 := Tryz.underlying179
  a146 := Tryz.isAgg179
  z146 := Tryz.sizeOf179
  v146 := Tryz.zeroValue179
  g1 := by kernel_rfl }
open Go.RowKit Go.Lib in
theorem Tryz.stringslite_Index_one (s : ByteArray) (c : UInt8) (w : World) :
    Calls Tryz.prog 81 #[.string s, .string ⟨#[c]⟩] w fun e w' => e = .returned (.int .i64 (Lib.indexByte s.data.toList c)) ∧ w' = w := Any.stringslite_Index_one Tryz.lays219 s c w
def Tryz.lays143_ren : Go.Shelf.Ren := ⟨fun | 143 => 52 | 219 => 81 | 217 => 104 | 225 => 105 | 224 => 106 | 267 => 107 | 266 => 125 | 314 => 126 | n => n, fun | 9 => 9 | 3 => 3 | 4 => 4 | 5 => 5 | 46 => 125 | 146 => 179 | 51 => 84 | n => n, fun | 1 => 2 | n => n⟩
theorem Tryz.lays143 : Go.Proofs.Lays.n143 Tryz.prog Tryz.lays143_ren := {
  mixed := by kernel_rfl
  f143 := Tryz.func52.trans (congrArg some (by kernel_rfl))
  f217 := Tryz.func104.trans (congrArg some (by kernel_rfl))
  f219 := Tryz.func81.trans (congrArg some (by kernel_rfl))
  f224 := Tryz.func106.trans (congrArg some (by kernel_rfl))
  f225 := Tryz.func105.trans (congrArg some (by kernel_rfl))
  f266 := Tryz.func125.trans (congrArg some (by kernel_rfl))
  f267 := Tryz.func107.trans (congrArg some (by kernel_rfl))
  f314 := Tryz.func126.trans (congrArg some (by kernel_rfl))
  t3 := Tryz.underlying3
  a3 := Tryz.isAgg3
  z3 := Tryz.sizeOf3
  v3 := Tryz.zeroValue3
  t4 := Tryz.underlying4
  a4 := Tryz.isAgg4
  z4 := Tryz.sizeOf4
  v4 := Tryz.zeroValue4
  t5 := Tryz.underlying5
  a5 := Tryz.isAgg5
  z5 := Tryz.sizeOf5
  v5 := Tryz.zeroValue5
  t9 := Tryz.underlying9
  a9 := Tryz.isAgg9
  z9 := Tryz.sizeOf9
  v9 := Tryz.zeroValue9
  t46 := Tryz.underlying125
  a46 := Tryz.isAgg125
  z46 := Tryz.sizeOf125
  v46 := Tryz.zeroValue125
  t51 := Tryz.underlying84
  a51 := Tryz.isAgg84
  z51 := Tryz.sizeOf84
  v51 := Tryz.zeroValue84
  t146 := Tryz.underlying179
  a146 := Tryz.isAgg179
  z146 := Tryz.sizeOf179
  v146 := Tryz.zeroValue179
  g1 := by kernel_rfl }
open Go.RowKit Go.Lib in
theorem Tryz.strings_Index_one (s : ByteArray) (c : UInt8) (w : World) :
    Calls Tryz.prog 52 #[.string s, .string ⟨#[c]⟩] w fun e w' => e = .returned (.int .i64 (Lib.indexByte s.data.toList c)) ∧ w' = w := Any.strings_Index_one Tryz.lays143 s c w
def Tryz.lays144_ren : Go.Shelf.Ren := ⟨fun | 144 => 28 | 143 => 52 | 219 => 81 | 217 => 104 | 225 => 105 | 224 => 106 | 267 => 107 | 266 => 125 | 314 => 126 | n => n, fun | 9 => 9 | 4 => 4 | 3 => 3 | 5 => 5 | 46 => 125 | 146 => 179 | 51 => 84 | n => n, fun | 1 => 2 | n => n⟩
theorem Tryz.lays144 : Go.Proofs.Lays.n144 Tryz.prog Tryz.lays144_ren := {
  mixed := by kernel_rfl
  f143 := Tryz.func52.trans (congrArg some (by kernel_rfl))
  f144 := Tryz.func28.trans (congrArg some (by kernel_rfl))
  f217 := Tryz.func104.trans (congrArg some (by kernel_rfl))
  f219 := Tryz.func81.trans (congrArg some (by kernel_rfl))
  f224 := Tryz.func106.trans (congrArg some (by kernel_rfl))
  f225 := Tryz.func105.trans (congrArg some (by kernel_rfl))
  f266 := Tryz.func125.trans (congrArg some (by kernel_rfl))
  f267 := Tryz.func107.trans (congrArg some (by kernel_rfl))
  f314 := Tryz.func126.trans (congrArg some (by kernel_rfl))
  t3 := Tryz.underlying3
  a3 := Tryz.isAgg3
  z3 := Tryz.sizeOf3
  v3 := Tryz.zeroValue3
  t4 := Tryz.underlying4
  a4 := Tryz.isAgg4
  z4 := Tryz.sizeOf4
  v4 := Tryz.zeroValue4
  t5 := Tryz.underlying5
  a5 := Tryz.isAgg5
  z5 := Tryz.sizeOf5
  v5 := Tryz.zeroValue5
  t9 := Tryz.underlying9
  a9 := Tryz.isAgg9
  z9 := Tryz.sizeOf9
  v9 := Tryz.zeroValue9
  t46 := Tryz.underlying125
  a46 := Tryz.isAgg125
  z46 := Tryz.sizeOf125
  v46 := Tryz.zeroValue125
  t51 := Tryz.underlying84
  a51 := Tryz.isAgg84
  z51 := Tryz.sizeOf84
  v51 := Tryz.zeroValue84
  t146 := Tryz.underlying179
  a146 := Tryz.isAgg179
  z146 := Tryz.sizeOf179
  v146 := Tryz.zeroValue179
  g1 := by kernel_rfl }
open Go.RowKit Go.Lib in
theorem Tryz.strings_Contains_one (s : ByteArray) (c : UInt8) (w : World) :
    Calls Tryz.prog 28 #[.string s, .string ⟨#[c]⟩] w fun e w' => e = .returned (.bool (decide (0 ≤ Lib.indexByte s.data.toList c))) ∧ w' = w := Any.strings_Contains_one Tryz.lays144 s c w
def Tryz.lays138_ren : Go.Shelf.Ren := ⟨fun | 138 => 193 | 195 => 194 | 218 => 195 | 143 => 52 | 219 => 81 | 217 => 104 | 225 => 105 | 224 => 106 | 267 => 107 | 266 => 125 | 314 => 126 | n => n, fun | 9 => 9 | 3 => 3 | 4 => 4 | 5 => 5 | 0 => 0 | 46 => 125 | 146 => 179 | 51 => 84 | n => n, fun | 1 => 2 | n => n⟩
theorem Tryz.lays138 : Go.Proofs.Lays.n138 Tryz.prog Tryz.lays138_ren := {
  mixed := by kernel_rfl
  f138 := Tryz.func193.trans (congrArg some (by kernel_rfl))
  f143 := Tryz.func52.trans (congrArg some (by kernel_rfl))
  f195 := Tryz.func194.trans (congrArg some (by kernel_rfl))
  f217 := Tryz.func104.trans (congrArg some (by kernel_rfl))
  f218 := Tryz.func195.trans (congrArg some (by kernel_rfl))
  f219 := Tryz.func81.trans (congrArg some (by kernel_rfl))
  f224 := Tryz.func106.trans (congrArg some (by kernel_rfl))
  f225 := Tryz.func105.trans (congrArg some (by kernel_rfl))
  f266 := Tryz.func125.trans (congrArg some (by kernel_rfl))
  f267 := Tryz.func107.trans (congrArg some (by kernel_rfl))
  f314 := Tryz.func126.trans (congrArg some (by kernel_rfl))
  t0 := Tryz.underlying0
  a0 := Tryz.isAgg0
  z0 := Tryz.sizeOf0
  v0 := Tryz.zeroValue0
  t3 := Tryz.underlying3
  a3 := Tryz.isAgg3
  z3 := Tryz.sizeOf3
  v3 := Tryz.zeroValue3
  t4 := Tryz.underlying4
  a4 := Tryz.isAgg4
  z4 := Tryz.sizeOf4
  v4 := Tryz.zeroValue4
  t5 := Tryz.underlying5
  a5 := Tryz.isAgg5
  z5 := Tryz.sizeOf5
  v5 := Tryz.zeroValue5
  t9 := Tryz.underlying9
  a9 := Tryz.isAgg9
  z9 := Tryz.sizeOf9
  v9 := Tryz.zeroValue9
  t46 := Tryz.underlying125
  a46 := Tryz.isAgg125
  z46 := Tryz.sizeOf125
  v46 := Tryz.zeroValue125
  t51 := Tryz.underlying84
  a51 := Tryz.isAgg84
  z51 := Tryz.sizeOf84
  v51 := Tryz.zeroValue84
  t146 := Tryz.underlying179
  a146 := Tryz.isAgg179
  z146 := Tryz.sizeOf179
  v146 := Tryz.zeroValue179
  g1 := by kernel_rfl }
open Go.RowKit Go.Lib in
theorem Tryz.strings_Count_one (s : ByteArray) (c : UInt8) (w : World) :
    Calls Tryz.prog 193 #[.string s, .string ⟨#[c]⟩] w fun e w' => e = .returned (.int .i64 (Lib.countByte s.data.toList c)) ∧ w' = w := Any.strings_Count_one Tryz.lays138 s c w
def Tryz.laysGw15_ren : Go.Shelf.Ren := ⟨fun | 15 => 37 | 20 => 60 | n => n, fun | 9 => 9 | 23 => 69 | 3 => 3 | 4 => 4 | 0 => 0 | 21 => 21 | n => n, fun | n => n⟩
theorem Tryz.laysGw15 : Go.Proofs.LaysGw.n15 Tryz.prog Tryz.laysGw15_ren := {
  mixed := by kernel_rfl
  f15 := Tryz.func37.trans (congrArg some (by kernel_rfl))
  f20 := Tryz.func60.trans (congrArg some (by kernel_rfl))
  t0 := Tryz.underlying0
  a0 := Tryz.isAgg0
  z0 := Tryz.sizeOf0
  v0 := Tryz.zeroValue0
  i0 := by kernel_rfl
  t3 := Tryz.underlying3
  a3 := Tryz.isAgg3
  z3 := Tryz.sizeOf3
  v3 := Tryz.zeroValue3
  i3 := by kernel_rfl
  t4 := Tryz.underlying4
  a4 := Tryz.isAgg4
  z4 := Tryz.sizeOf4
  v4 := Tryz.zeroValue4
  i4 := by kernel_rfl
  t9 := Tryz.underlying9
  a9 := Tryz.isAgg9
  z9 := Tryz.sizeOf9
  v9 := Tryz.zeroValue9
  i9 := by kernel_rfl
  t21 := Tryz.underlying21
  a21 := Tryz.isAgg21
  z21 := Tryz.sizeOf21
  v21 := Tryz.zeroValue21
  i21 := by kernel_rfl
  t23 := Tryz.underlying69
  a23 := Tryz.isAgg69
  z23 := Tryz.sizeOf69
  v23 := Tryz.zeroValue69
  i23 := by kernel_rfl }
open Go.RowKit Go.Lib in
theorem Tryz.strings_IndexFunc_grows (g : Nat) (lb : Array Value) (eg : ∀ args w, (callFunc g args).run Tryz.prog w = .ok (.enter g args) w) (p : Nat → Bool) (s : ByteArray) (w : World) (hp : PredGrows Tryz.prog g lb p w) :
    Calls Tryz.prog 37 #[.string s, .func (.func g) #[] lb] w fun e w' => e = .returned (.int .i64 (Lib.idxFunc p true s)) ∧ Below w.heap.size w w' := Any.strings_IndexFunc_grows Tryz.laysGw15 g lb eg p s w hp
def Tryz.lays196_ren : Go.Shelf.Ren := ⟨fun | 196 => 47 | 259 => 77 | n => n, fun | 9 => 9 | 4 => 4 | 3 => 3 | 5 => 5 | 12 => 12 | 119 => 121 | 0 => 0 | 46 => 125 | 139 => 124 | 138 => 123 | 53 => 102 | n => n, fun | 3 => 0 | 4 => 1 | n => n⟩
theorem Tryz.lays196 : Go.Proofs.Lays.n196 Tryz.prog Tryz.lays196_ren := {
  mixed := by kernel_rfl
  f196 := Tryz.func47.trans (congrArg some (by kernel_rfl))
  f259 := Tryz.func77.trans (congrArg some (by kernel_rfl))
  t0 := Tryz.underlying0
  a0 := Tryz.isAgg0
  z0 := Tryz.sizeOf0
  v0 := Tryz.zeroValue0
  t3 := Tryz.underlying3
  a3 := Tryz.isAgg3
  z3 := Tryz.sizeOf3
  v3 := Tryz.zeroValue3
  t4 := Tryz.underlying4
  a4 := Tryz.isAgg4
  z4 := Tryz.sizeOf4
  v4 := Tryz.zeroValue4
  t5 := Tryz.underlying5
  a5 := Tryz.isAgg5
  z5 := Tryz.sizeOf5
  v5 := Tryz.zeroValue5
  t9 := Tryz.underlying9
  a9 := Tryz.isAgg9
  z9 := Tryz.sizeOf9
  v9 := Tryz.zeroValue9
  t12 := Tryz.underlying12
  a12 := Tryz.isAgg12
  z12 := Tryz.sizeOf12
  v12 := Tryz.zeroValue12
  t46 := Tryz.underlying125
  a46 := Tryz.isAgg125
  z46 := Tryz.sizeOf125
  v46 := Tryz.zeroValue125
  t53 := Tryz.underlying102
  a53 := Tryz.isAgg102
  z53 := Tryz.sizeOf102
  v53 := Tryz.zeroValue102
  t119 := Tryz.underlying121
  a119 := Tryz.isAgg121
  z119 := Tryz.sizeOf121
  t138 := Tryz.underlying123
  a138 := Tryz.isAgg123
  z138 := Tryz.sizeOf123
  v138 := Tryz.zeroValue123
  t139 := Tryz.underlying124
  a139 := Tryz.isAgg124
  z139 := Tryz.sizeOf124
  v139 := Tryz.zeroValue124
  g3 := by kernel_rfl
  g4 := by kernel_rfl }
end Go.Proofs
