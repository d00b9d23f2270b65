/- The contracts of library functions that this claim uses, laid over this translation by the kit's own command. -/
import Derived.Shelf.Strings.Trim
import Derived.Shelf.Small.Utf8
import Derived.Shelf.Small.Bits
import Derived.Shelf.Small.Strs
import Derived.Shelf.Small.Wraps
import Derived.Shelf.Strconv.Atoi
import Derived.Shelf.Strconv.Itoa0
import Derived.Shelf.Strconv.Itoa1
import Derived.Shelf.LaysM
import Derived.Shelf.Strconv.Itoa2
import Derived.Shelf.Strconv.Itoa3
import Derived.Shelf.Strconv.AtoiErrFast
import Derived.Shelf.Strconv.ParseIntEmpty
import Derived.Shelf.Strconv.AtoiFail
import Derived.Shelf.Strconv.Clone
import Derived.Shelf.Strconv.SyntaxError
import Derived.Shelf.LaysC
import Derived.Shelf.Strconv.ToError
import Derived.Shelf.Strconv.AtoiErr
import Derived.Shelf.Strings.Search1
import Derived.Shelf.Strings.Search2
import Derived.Shelf.Strings.Cut
import Derived.Shelf.Strings.Shaped
import Derived.Shelf.GgClosure.StringsIndexFunc
import Derived.Ground.GgwProg
import Derived.Shelf.GgClosure.StringsIndexFuncTop
import Derived.Shelf.Strings.Prefix
import Derived.Shelf.Strings.Runes
import Derived.Shelf.Strings.AsciiSet
import Derived.Shelf.Bits.Mul64
import Derived.Shelf.Unicode.DecodeSlow
import Derived.Shelf.Unicode.DecodeAny
import Derived.Shelf.Unicode.DecodeLast
import Derived.Shelf.Strings.FuncGrows
import Derived.Shelf.Unicode.ValidAny
import Derived.Shelf.Spec.BitsCarry
import Derived.Test.YtheimopjglkgjaaGreatDoorProg
namespace Go.Proofs
def Tryz.lays161_ren : Go.Shelf.Ren := ⟨fun | 161 => 157 | 231 => 180 | 227 => 177 | 233 => 181 | 235 => 182 | 228 => 191 | 197 => 194 | 151 => 193 | 260 => 208 | 152 => 207 | 137 => 73 | 119 => 216 | 224 => 204 | 225 => 203 | 217 => 95 | 266 => 125 | n => n, fun | 9 => 9 | 4 => 4 | 3 => 3 | 5 => 5 | 117 => 211 | 116 => 210 | 0 => 0 | 124 => 214 | 105 => 221 | 21 => 21 | 119 => 137 | 46 => 141 | 139 => 140 | 138 => 139 | n => n, fun | 3 => 0 | 4 => 1 | n => n⟩
theorem Tryz.lays161 : Go.Proofs.Lays.n161 Tryz.prog Tryz.lays161_ren := {
  mixed := by kernel_rfl
  f119 := Tryz.func216.trans (congrArg some (by kernel_rfl))
  f137 := Tryz.func73.trans (congrArg some (by kernel_rfl))
  f151 := Tryz.func193.trans (congrArg some (by kernel_rfl))
  f152 := Tryz.func207.trans (congrArg some (by kernel_rfl))
  f161 := Tryz.func157.trans (congrArg some (by kernel_rfl))
  f197 := Tryz.func194.trans (congrArg some (by kernel_rfl))
  f217 := Tryz.func95.trans (congrArg some (by kernel_rfl))
  f224 := Tryz.func204.trans (congrArg some (by kernel_rfl))
  f225 := Tryz.func203.trans (congrArg some (by kernel_rfl))
  f227 := Tryz.func177.trans (congrArg some (by kernel_rfl))
  f228 := Tryz.func191.trans (congrArg some (by kernel_rfl))
  f231 := Tryz.func180.trans (congrArg some (by kernel_rfl))
  f233 := Tryz.func181.trans (congrArg some (by kernel_rfl))
  f235 := Tryz.func182.trans (congrArg some (by kernel_rfl))
  f260 := Tryz.func208.trans (congrArg some (by kernel_rfl))
  f266 := Tryz.func125.trans (congrArg some (by kernel_rfl))
  t0 := Tryz.underlying0
  a0 := Tryz.isAgg0
  z0 := Tryz.sizeOf0
  v0 := Tryz.zeroValue0
  t3 := Tryz.underlying3
  a3 := Tryz.isAgg3
  z3 := Tryz.sizeOf3
  v3 := Tryz.zeroValue3
  t4 := Tryz.underlying4
  a4 := Tryz.isAgg4
  z4 := Tryz.sizeOf4
  v4 := Tryz.zeroValue4
  t5 := Tryz.underlying5
  a5 := Tryz.isAgg5
  z5 := Tryz.sizeOf5
  v5 := Tryz.zeroValue5
  t9 := Tryz.underlying9
  a9 := Tryz.isAgg9
  z9 := Tryz.sizeOf9
  v9 := Tryz.zeroValue9
  t21 := Tryz.underlying21
  a21 := Tryz.isAgg21
  z21 := Tryz.sizeOf21
  v21 := Tryz.zeroValue21
  t46 := Tryz.underlying141
  a46 := Tryz.isAgg141
  z46 := Tryz.sizeOf141
  v46 := Tryz.zeroValue141
  t105 := Tryz.underlying221
  a105 := Tryz.isAgg221
  z105 := Tryz.sizeOf221
  v105 := Tryz.zeroValue221
  t116 := Tryz.underlying210
  a116 := Tryz.isAgg210
  z116 := Tryz.sizeOf210
  t117 := Tryz.underlying211
  a117 := Tryz.isAgg211
  z117 := Tryz.sizeOf211
  v117 := Tryz.zeroValue211
  t119 := Tryz.underlying137
  a119 := Tryz.isAgg137
  z119 := Tryz.sizeOf137
  t124 := Tryz.underlying214
  a124 := Tryz.isAgg214
  z124 := Tryz.sizeOf214
  v124 := Tryz.zeroValue214
  t138 := Tryz.underlying139
  a138 := Tryz.isAgg139
  z138 := Tryz.sizeOf139
  v138 := Tryz.zeroValue139
  t139 := Tryz.underlying140
  a139 := Tryz.isAgg140
  z139 := Tryz.sizeOf140
  v139 := Tryz.zeroValue140
  g3 := by kernel_rfl
  g4 := by kernel_rfl }
open Go.RowKit in
theorem Tryz.strings_TrimLeft_one (s : ByteArray) (c : UInt8) (hc : c.toNat < 128) (w : World) :
    Calls Tryz.prog 157 #[.string s, .string ⟨#[c]⟩] w fun e w' => e = .returned (.string ⟨(Lib.trimLeftB s.data.toList c).toArray⟩) ∧ w' = w := Any.strings_TrimLeft_one Tryz.lays161 s c hc w
def Tryz.lays162_ren : Go.Shelf.Ren := ⟨fun | 162 => 156 | 232 => 176 | 227 => 177 | 234 => 178 | 236 => 179 | 228 => 191 | 271 => 192 | 151 => 193 | 120 => 206 | 197 => 194 | 152 => 207 | 260 => 208 | 137 => 73 | 119 => 216 | 224 => 204 | 225 => 203 | 217 => 95 | 266 => 125 | n => n, fun | 9 => 9 | 4 => 4 | 3 => 3 | 5 => 5 | 117 => 211 | 116 => 210 | 0 => 0 | 124 => 214 | 21 => 21 | 105 => 221 | 46 => 141 | 119 => 137 | 139 => 140 | 138 => 139 | n => n, fun | 3 => 0 | 4 => 1 | n => n⟩
theorem Tryz.lays162 : Go.Proofs.Lays.n162 Tryz.prog Tryz.lays162_ren := {
  mixed := by kernel_rfl
  f119 := Tryz.func216.trans (congrArg some (by kernel_rfl))
  f120 := Tryz.func206.trans (congrArg some (by kernel_rfl))
  f137 := Tryz.func73.trans (congrArg some (by kernel_rfl))
  f151 := Tryz.func193.trans (congrArg some (by kernel_rfl))
  f152 := Tryz.func207.trans (congrArg some (by kernel_rfl))
  f162 := Tryz.func156.trans (congrArg some (by kernel_rfl))
  f197 := Tryz.func194.trans (congrArg some (by kernel_rfl))
  f217 := Tryz.func95.trans (congrArg some (by kernel_rfl))
  f224 := Tryz.func204.trans (congrArg some (by kernel_rfl))
  f225 := Tryz.func203.trans (congrArg some (by kernel_rfl))
  f227 := Tryz.func177.trans (congrArg some (by kernel_rfl))
  f228 := Tryz.func191.trans (congrArg some (by kernel_rfl))
  f232 := Tryz.func176.trans (congrArg some (by kernel_rfl))
  f234 := Tryz.func178.trans (congrArg some (by kernel_rfl))
  f236 := Tryz.func179.trans (congrArg some (by kernel_rfl))
  f260 := Tryz.func208.trans (congrArg some (by kernel_rfl))
  f266 := Tryz.func125.trans (congrArg some (by kernel_rfl))
  f271 := Tryz.func192.trans (congrArg some (by kernel_rfl))
  t0 := Tryz.underlying0
  a0 := Tryz.isAgg0
  z0 := Tryz.sizeOf0
  v0 := Tryz.zeroValue0
  t3 := Tryz.underlying3
  a3 := Tryz.isAgg3
  z3 := Tryz.sizeOf3
  v3 := Tryz.zeroValue3
  t4 := Tryz.underlying4
  a4 := Tryz.isAgg4
  z4 := Tryz.sizeOf4
  v4 := Tryz.zeroValue4
  t5 := Tryz.underlying5
  a5 := Tryz.isAgg5
  z5 := Tryz.sizeOf5
  v5 := Tryz.zeroValue5
  t9 := Tryz.underlying9
  a9 := Tryz.isAgg9
  z9 := Tryz.sizeOf9
  v9 := Tryz.zeroValue9
  t21 := Tryz.underlying21
  a21 := Tryz.isAgg21
  z21 := Tryz.sizeOf21
  v21 := Tryz.zeroValue21
  t46 := Tryz.underlying141
  a46 := Tryz.isAgg141
  z46 := Tryz.sizeOf141
  v46 := Tryz.zeroValue141
  t105 := Tryz.underlying221
  a105 := Tryz.isAgg221
  z105 := Tryz.sizeOf221
  v105 := Tryz.zeroValue221
  t116 := Tryz.underlying210
  a116 := Tryz.isAgg210
  z116 := Tryz.sizeOf210
  t117 := Tryz.underlying211
  a117 := Tryz.isAgg211
  z117 := Tryz.sizeOf211
  v117 := Tryz.zeroValue211
  t119 := Tryz.underlying137
  a119 := Tryz.isAgg137
  z119 := Tryz.sizeOf137
  t124 := Tryz.underlying214
  a124 := Tryz.isAgg214
  z124 := Tryz.sizeOf214
  v124 := Tryz.zeroValue214
  t138 := Tryz.underlying139
  a138 := Tryz.isAgg139
  z138 := Tryz.sizeOf139
  v138 := Tryz.zeroValue139
  t139 := Tryz.underlying140
  a139 := Tryz.isAgg140
  z139 := Tryz.sizeOf140
  v139 := Tryz.zeroValue140
  g3 := by kernel_rfl
  g4 := by kernel_rfl }
open Go.RowKit in
theorem Tryz.strings_TrimRight_one (s : ByteArray) (c : UInt8) (hc : c.toNat < 128) (w : World) (hs : s.size ≤ 9223372036854775807) :
    Calls Tryz.prog 156 #[.string s, .string ⟨#[c]⟩] w fun e w' => e = .returned (.string ⟨(Lib.trimRightB s.data.toList c).toArray⟩) ∧ w' = w := Any.strings_TrimRight_one Tryz.lays162 s c hc w hs
def Tryz.lays160_ren : Go.Shelf.Ren := ⟨fun | 160 => 160 | 232 => 176 | 231 => 180 | 227 => 177 | 234 => 178 | 233 => 181 | 236 => 179 | 235 => 182 | 228 => 191 | 271 => 192 | 151 => 193 | 197 => 194 | 120 => 206 | 152 => 207 | 260 => 208 | 137 => 73 | 119 => 216 | 224 => 204 | 225 => 203 | 217 => 95 | 266 => 125 | n => n, fun | 9 => 9 | 4 => 4 | 3 => 3 | 5 => 5 | 117 => 211 | 116 => 210 | 0 => 0 | 124 => 214 | 21 => 21 | 105 => 221 | 46 => 141 | 119 => 137 | 139 => 140 | 138 => 139 | n => n, fun | 3 => 0 | 4 => 1 | n => n⟩
theorem Tryz.lays160 : Go.Proofs.Lays.n160 Tryz.prog Tryz.lays160_ren := {
  mixed := by kernel_rfl
  f119 := Tryz.func216.trans (congrArg some (by kernel_rfl))
  f120 := Tryz.func206.trans (congrArg some (by kernel_rfl))
  f137 := Tryz.func73.trans (congrArg some (by kernel_rfl))
  f151 := Tryz.func193.trans (congrArg some (by kernel_rfl))
  f152 := Tryz.func207.trans (congrArg some (by kernel_rfl))
  f160 := Tryz.func160.trans (congrArg some (by kernel_rfl))
  f197 := Tryz.func194.trans (congrArg some (by kernel_rfl))
  f217 := Tryz.func95.trans (congrArg some (by kernel_rfl))
  f224 := Tryz.func204.trans (congrArg some (by kernel_rfl))
  f225 := Tryz.func203.trans (congrArg some (by kernel_rfl))
  f227 := Tryz.func177.trans (congrArg some (by kernel_rfl))
  f228 := Tryz.func191.trans (congrArg some (by kernel_rfl))
  f231 := Tryz.func180.trans (congrArg some (by kernel_rfl))
  f232 := Tryz.func176.trans (congrArg some (by kernel_rfl))
  f233 := Tryz.func181.trans (congrArg some (by kernel_rfl))
  f234 := Tryz.func178.trans (congrArg some (by kernel_rfl))
  f235 := Tryz.func182.trans (congrArg some (by kernel_rfl))
  f236 := Tryz.func179.trans (congrArg some (by kernel_rfl))
  f260 := Tryz.func208.trans (congrArg some (by kernel_rfl))
  f266 := Tryz.func125.trans (congrArg some (by kernel_rfl))
  f271 := Tryz.func192.trans (congrArg some (by kernel_rfl))
  t0 := Tryz.underlying0
  a0 := Tryz.isAgg0
  z0 := Tryz.sizeOf0
  v0 := Tryz.zeroValue0
  t3 := Tryz.underlying3
  a3 := Tryz.isAgg3
  z3 := Tryz.sizeOf3
  v3 := Tryz.zeroValue3
  t4 := Tryz.underlying4
  a4 := Tryz.isAgg4
  z4 := Tryz.sizeOf4
  v4 := Tryz.zeroValue4
  t5 := Tryz.underlying5
  a5 := Tryz.isAgg5
  z5 := Tryz.sizeOf5
  v5 := Tryz.zeroValue5
  t9 := Tryz.underlying9
  a9 := Tryz.isAgg9
  z9 := Tryz.sizeOf9
  v9 := Tryz.zeroValue9
  t21 := Tryz.underlying21
  a21 := Tryz.isAgg21
  z21 := Tryz.sizeOf21
  v21 := Tryz.zeroValue21
  t46 := Tryz.underlying141
  a46 := Tryz.isAgg141
  z46 := Tryz.sizeOf141
  v46 := Tryz.zeroValue141
  t105 := Tryz.underlying221
  a105 := Tryz.isAgg221
  z105 := Tryz.sizeOf221
  v105 := Tryz.zeroValue221
  t116 := Tryz.underlying210
  a116 := Tryz.isAgg210
  z116 := Tryz.sizeOf210
  t117 := Tryz.underlying211
  a117 := Tryz.isAgg211
  z117 := Tryz.sizeOf211
  v117 := Tryz.zeroValue211
  t119 := Tryz.underlying137
  a119 := Tryz.isAgg137
  z119 := Tryz.sizeOf137
  t124 := Tryz.underlying214
  a124 := Tryz.isAgg214
  z124 := Tryz.sizeOf214
  v124 := Tryz.zeroValue214
  t138 := Tryz.underlying139
  a138 := Tryz.isAgg139
  z138 := Tryz.sizeOf139
  v138 := Tryz.zeroValue139
  t139 := Tryz.underlying140
  a139 := Tryz.isAgg140
  z139 := Tryz.sizeOf140
  v139 := Tryz.zeroValue140
  g3 := by kernel_rfl
  g4 := by kernel_rfl }
def Tryz.lays134_ren : Go.Shelf.Ren := ⟨fun | 134 => 152 | 129 => 173 | n => n, fun | 53 => 30 | 3 => 3 | 4 => 4 | 46 => 141 | 5 => 5 | 9 => 9 | n => n, fun | n => n⟩
theorem Tryz.lays134 : Go.Proofs.Lays.n134 Tryz.prog Tryz.lays134_ren := {
  mixed := by kernel_rfl
  f129 := Tryz.func173.trans (congrArg some (by kernel_rfl))
  f134 := Tryz.func152.trans (congrArg some (by kernel_rfl))
  t3 := Tryz.underlying3
  a3 := Tryz.isAgg3
  z3 := Tryz.sizeOf3
  v3 := Tryz.zeroValue3
  t4 := Tryz.underlying4
  a4 := Tryz.isAgg4
  z4 := Tryz.sizeOf4
  v4 := Tryz.zeroValue4
  t5 := Tryz.underlying5
  a5 := Tryz.isAgg5
  z5 := Tryz.sizeOf5
  v5 := Tryz.zeroValue5
  t9 := Tryz.underlying9
  a9 := Tryz.isAgg9
  z9 := Tryz.sizeOf9
  v9 := Tryz.zeroValue9
  t46 := Tryz.underlying141
  a46 := Tryz.isAgg141
  z46 := Tryz.sizeOf141
  v46 := Tryz.zeroValue141
  t53 := Tryz.underlying30
  a53 := Tryz.isAgg30
  z53 := Tryz.sizeOf30
  v53 := Tryz.zeroValue30 }
theorem Tryz.bits_LeadingZeros64 (x : Int) (w : World) (h0 : 0 ≤ x) (h1 : x ≤ 18446744073709551615) :
    Calls Tryz.prog 152 #[.int .u64 x] w fun e w' => e = .returned (.int .i64 (64 - (Lib.bitLen x.toNat : Int))) ∧ w' = w := Any.bits_LeadingZeros64 Tryz.lays134 x w h0 h1
def Tryz.lays137_ren : Go.Shelf.Ren := ⟨fun | 137 => 73 | 217 => 95 | 266 => 125 | n => n, fun | 9 => 9 | 5 => 5 | 3 => 3 | n => n, fun | n => n⟩
theorem Tryz.lays137 : Go.Proofs.Lays.n137 Tryz.prog Tryz.lays137_ren := {
  mixed := by kernel_rfl
  f137 := Tryz.func73.trans (congrArg some (by kernel_rfl))
  f217 := Tryz.func95.trans (congrArg some (by kernel_rfl))
  f266 := Tryz.func125.trans (congrArg some (by kernel_rfl))
  t3 := Tryz.underlying3
  a3 := Tryz.isAgg3
  z3 := Tryz.sizeOf3
  v3 := Tryz.zeroValue3
  t5 := Tryz.underlying5
  a5 := Tryz.isAgg5
  z5 := Tryz.sizeOf5
  v5 := Tryz.zeroValue5
  t9 := Tryz.underlying9
  a9 := Tryz.isAgg9
  z9 := Tryz.sizeOf9
  v9 := Tryz.zeroValue9 }
open Go.RowKit in
theorem Tryz.strings_IndexByte (s : ByteArray) (c : Int) (w : World) :
    Calls Tryz.prog 73 #[.string s, .int .u8 c] w fun e w' => e = .returned (.int .i64 (Lib.indexByte s.data.toList c.toNat.toUInt8)) ∧ w' = w := Any.strings_IndexByte Tryz.lays137 s c w
def Tryz.lays172_ren : Go.Shelf.Ren := ⟨fun | 172 => 161 | 244 => 184 | 245 => 185 | 247 => 195 | 279 => 196 | 280 => 197 | 281 => 198 | 282 => 199 | 287 => 209 | 316 => 210 | 171 => 212 | 205 => 211 | 321 => 217 | 322 => 218 | 243 => 219 | 246 => 222 | 283 => 224 | 284 => 225 | 285 => 226 | 286 => 227 | 129 => 173 | 317 => 228 | 318 => 229 | 319 => 230 | 320 => 231 | 337 => 232 | 338 => 233 | n => n, fun | 9 => 9 | 3 => 3 | 75 => 190 | 76 => 198 | 4 => 4 | 5 => 5 | 167 => 224 | 37 => 197 | 0 => 0 | 85 => 225 | 2 => 2 | 168 => 227 | 53 => 30 | 175 => 233 | 46 => 141 | 210 => 237 | 127 => 245 | 145 => 248 | 143 => 246 | 21 => 21 | 171 => 252 | 173 => 254 | 212 => 257 | 51 => 241 | 20 => 20 | 213 => 258 | 232 => 261 | 233 => 262 | 80 => 153 | n => n, fun | 15 => 5 | 16 => 6 | 17 => 7 | 18 => 8 | 19 => 9 | n => n⟩
theorem Tryz.lays172 : Go.Proofs.Lays.n172 Tryz.prog Tryz.lays172_ren := {
  mixed := by kernel_rfl
  f129 := Tryz.func173.trans (congrArg some (by kernel_rfl))
  f171 := Tryz.func212.trans (congrArg some (by kernel_rfl))
  f172 := Tryz.func161.trans (congrArg some (by kernel_rfl))
  f205 := Tryz.func211.trans (congrArg some (by kernel_rfl))
  f243 := Tryz.func219.trans (congrArg some (by kernel_rfl))
  f244 := Tryz.func184.trans (congrArg some (by kernel_rfl))
  f245 := Tryz.func185.trans (congrArg some (by kernel_rfl))
  f246 := Tryz.func222.trans (congrArg some (by kernel_rfl))
  f247 := Tryz.func195.trans (congrArg some (by kernel_rfl))
  f279 := Tryz.func196.trans (congrArg some (by kernel_rfl))
  f280 := Tryz.func197.trans (congrArg some (by kernel_rfl))
  f281 := Tryz.func198.trans (congrArg some (by kernel_rfl))
  f282 := Tryz.func199.trans (congrArg some (by kernel_rfl))
  f283 := Tryz.func224.trans (congrArg some (by kernel_rfl))
  f284 := Tryz.func225.trans (congrArg some (by kernel_rfl))
  f285 := Tryz.func226.trans (congrArg some (by kernel_rfl))
  f286 := Tryz.func227.trans (congrArg some (by kernel_rfl))
  f287 := Tryz.func209.trans (congrArg some (by kernel_rfl))
  f316 := Tryz.func210.trans (congrArg some (by kernel_rfl))
  f317 := Tryz.func228.trans (congrArg some (by kernel_rfl))
  f318 := Tryz.func229.trans (congrArg some (by kernel_rfl))
  f319 := Tryz.func230.trans (congrArg some (by kernel_rfl))
  f320 := Tryz.func231.trans (congrArg some (by kernel_rfl))
  f321 := Tryz.func217.trans (congrArg some (by kernel_rfl))
  f322 := Tryz.func218.trans (congrArg some (by kernel_rfl))
  f337 := Tryz.func232.trans (congrArg some (by kernel_rfl))
  f338 := Tryz.func233.trans (congrArg some (by kernel_rfl))
  t0 := Tryz.underlying0
  a0 := Tryz.isAgg0
  z0 := Tryz.sizeOf0
  v0 := Tryz.zeroValue0
  t2 := Tryz.underlying2
  a2 := Tryz.isAgg2
  z2 := Tryz.sizeOf2
  v2 := Tryz.zeroValue2
  t3 := Tryz.underlying3
  a3 := Tryz.isAgg3
  z3 := Tryz.sizeOf3
  v3 := Tryz.zeroValue3
  t4 := Tryz.underlying4
  a4 := Tryz.isAgg4
  z4 := Tryz.sizeOf4
  v4 := Tryz.zeroValue4
  t5 := Tryz.underlying5
  a5 := Tryz.isAgg5
  z5 := Tryz.sizeOf5
  v5 := Tryz.zeroValue5
  t9 := Tryz.underlying9
  a9 := Tryz.isAgg9
  z9 := Tryz.sizeOf9
  v9 := Tryz.zeroValue9
  t20 := Tryz.underlying20
  a20 := Tryz.isAgg20
  z20 := Tryz.sizeOf20
  v20 := Tryz.zeroValue20
  t21 := Tryz.underlying21
  a21 := Tryz.isAgg21
  z21 := Tryz.sizeOf21
  v21 := Tryz.zeroValue21
  t37 := Tryz.underlying197
  a37 := Tryz.isAgg197
  z37 := Tryz.sizeOf197
  v37 := Tryz.zeroValue197
  t46 := Tryz.underlying141
  a46 := Tryz.isAgg141
  z46 := Tryz.sizeOf141
  v46 := Tryz.zeroValue141
  t51 := Tryz.underlying241
  a51 := Tryz.isAgg241
  z51 := Tryz.sizeOf241
  v51 := Tryz.zeroValue241
  t53 := Tryz.underlying30
  a53 := Tryz.isAgg30
  z53 := Tryz.sizeOf30
  v53 := Tryz.zeroValue30
  t75 := Tryz.underlying190
  a75 := Tryz.isAgg190
  z75 := Tryz.sizeOf190
  v75 := Tryz.zeroValue190
  t76 := Tryz.underlying198
  a76 := Tryz.isAgg198
  z76 := Tryz.sizeOf198
  v76 := Tryz.zeroValue198
  t85 := Tryz.underlying225
  a85 := Tryz.isAgg225
  z85 := Tryz.sizeOf225
  v85 := Tryz.zeroValue225
  t127 := Tryz.underlying245
  a127 := Tryz.isAgg245
  z127 := Tryz.sizeOf245
  v127 := Tryz.zeroValue245
  t143 := Tryz.underlying246
  a143 := Tryz.isAgg246
  z143 := Tryz.sizeOf246
  v143 := Tryz.zeroValue246
  t145 := Tryz.underlying248
  a145 := Tryz.isAgg248
  z145 := Tryz.sizeOf248
  v145 := Tryz.zeroValue248
  t167 := Tryz.underlying224
  a167 := Tryz.isAgg224
  z167 := Tryz.sizeOf224
  v167 := Tryz.zeroValue224
  t168 := Tryz.underlying227
  a168 := Tryz.isAgg227
  z168 := Tryz.sizeOf227
  v168 := Tryz.zeroValue227
  t171 := Tryz.underlying252
  a171 := Tryz.isAgg252
  z171 := Tryz.sizeOf252
  v171 := Tryz.zeroValue252
  t173 := Tryz.underlying254
  a173 := Tryz.isAgg254
  z173 := Tryz.sizeOf254
  v173 := Tryz.zeroValue254
  t175 := Tryz.underlying233
  a175 := Tryz.isAgg233
  z175 := Tryz.sizeOf233
  v175 := Tryz.zeroValue233
  t210 := Tryz.underlying237
  a210 := Tryz.isAgg237
  z210 := Tryz.sizeOf237
  v210 := Tryz.zeroValue237
  t212 := Tryz.underlying257
  a212 := Tryz.isAgg257
  z212 := Tryz.sizeOf257
  v212 := Tryz.zeroValue257
  t213 := Tryz.underlying258
  a213 := Tryz.isAgg258
  z213 := Tryz.sizeOf258
  t232 := Tryz.underlying261
  a232 := Tryz.isAgg261
  z232 := Tryz.sizeOf261
  v232 := Tryz.zeroValue261
  t233 := Tryz.underlying262
  a233 := Tryz.isAgg262
  z233 := Tryz.sizeOf262
  v233 := Tryz.zeroValue262
  g15 := by kernel_rfl
  g16 := by kernel_rfl
  g17 := by kernel_rfl
  g18 := by kernel_rfl
  g19 := by kernel_rfl }
open Go.RowKit in
theorem Tryz.strconv_Atoi (s : ByteArray) (n : Int) (hl : s.size ≤ 18) (h : Lib.atoi s.data.toList = some n) (w : World) :
    Calls Tryz.prog 161 #[.string s] w fun e w' => e = .returned (.tuple #[.int .i64 n, .nilIface]) ∧ ∃ t, w' = Lib.bytesWorld w 5 t := Any.strconv_Atoi Tryz.lays172 s n hl h w
def Tryz.lays219_ren : Go.Shelf.Ren := ⟨fun | 219 => 190 | 217 => 95 | 225 => 203 | 224 => 204 | 267 => 205 | 266 => 125 | 314 => 215 | n => n, fun | 9 => 9 | 3 => 3 | 4 => 4 | 5 => 5 | 46 => 141 | 146 => 242 | 51 => 241 | n => n, fun | 1 => 4 | n => n⟩
theorem Tryz.lays219 : Go.Proofs.Lays.n219 Tryz.prog Tryz.lays219_ren := {
  mixed := by kernel_rfl
  f217 := Tryz.func95.trans (congrArg some (by kernel_rfl))
  f219 := Tryz.func190.trans (congrArg some (by kernel_rfl))
  f224 := Tryz.func204.trans (congrArg some (by kernel_rfl))
  f225 := Tryz.func203.trans (congrArg some (by kernel_rfl))
  f266 := Tryz.func125.trans (congrArg some (by kernel_rfl))
  f267 := Tryz.func205.trans (congrArg some (by kernel_rfl))
  f314 := Tryz.func215.trans (congrArg some (by kernel_rfl))
  t3 := Tryz.underlying3
  a3 := Tryz.isAgg3
  z3 := Tryz.sizeOf3
  v3 := Tryz.zeroValue3
  t4 := Tryz.underlying4
  a4 := Tryz.isAgg4
  z4 := Tryz.sizeOf4
  v4 := Tryz.zeroValue4
  t5 := Tryz.underlying5
  a5 := Tryz.isAgg5
  z5 := Tryz.sizeOf5
  v5 := Tryz.zeroValue5
  t9 := Tryz.underlying9
  a9 := Tryz.isAgg9
  z9 := Tryz.sizeOf9
  v9 := Tryz.zeroValue9
  t46 := Tryz.underlying141
  a46 := Tryz.isAgg141
  z46 := Tryz.sizeOf141
  v46 := Tryz.zeroValue141
  t51 := Tryz.underlying241
  a51 := Tryz.isAgg241
  z51 := Tryz.sizeOf241
  v51 := Tryz.zeroValue241
  t146 := Tryz.underlying242
  a146 := Tryz.isAgg242
  z146 := Tryz.sizeOf242
  v146 := Tryz.zeroValue242
  g1 := by kernel_rfl }
open Go.RowKit Go.Lib in
theorem Tryz.stringslite_Index_one (s : ByteArray) (c : UInt8) (w : World) :
    Calls Tryz.prog 190 #[.string s, .string ⟨#[c]⟩] w fun e w' => e = .returned (.int .i64 (Lib.indexByte s.data.toList c)) ∧ w' = w := Any.stringslite_Index_one Tryz.lays219 s c w
def Tryz.laysGw15_ren : Go.Shelf.Ren := ⟨fun | 15 => 62 | 20 => 91 | n => n, fun | 9 => 9 | 23 => 110 | 3 => 3 | 4 => 4 | 0 => 0 | 21 => 21 | n => n, fun | n => n⟩
theorem Tryz.laysGw15 : Go.Proofs.LaysGw.n15 Tryz.prog Tryz.laysGw15_ren := {
  mixed := by kernel_rfl
  f15 := Tryz.func62.trans (congrArg some (by kernel_rfl))
  f20 := Tryz.func91.trans (congrArg some (by kernel_rfl))
  t0 := Tryz.underlying0
  a0 := Tryz.isAgg0
  z0 := Tryz.sizeOf0
  v0 := Tryz.zeroValue0
  i0 := by kernel_rfl
  t3 := Tryz.underlying3
  a3 := Tryz.isAgg3
  z3 := Tryz.sizeOf3
  v3 := Tryz.zeroValue3
  i3 := by kernel_rfl
  t4 := Tryz.underlying4
  a4 := Tryz.isAgg4
  z4 := Tryz.sizeOf4
  v4 := Tryz.zeroValue4
  i4 := by kernel_rfl
  t9 := Tryz.underlying9
  a9 := Tryz.isAgg9
  z9 := Tryz.sizeOf9
  v9 := Tryz.zeroValue9
  i9 := by kernel_rfl
  t21 := Tryz.underlying21
  a21 := Tryz.isAgg21
  z21 := Tryz.sizeOf21
  v21 := Tryz.zeroValue21
  i21 := by kernel_rfl
  t23 := Tryz.underlying110
  a23 := Tryz.isAgg110
  z23 := Tryz.sizeOf110
  v23 := Tryz.zeroValue110
  i23 := by kernel_rfl }
def Tryz.lays206_ren : Go.Shelf.Ren := ⟨fun | 206 => 159 | n => n, fun | 9 => 9 | 4 => 4 | 3 => 3 | n => n, fun | n => n⟩
theorem Tryz.lays206 : Go.Proofs.Lays.n206 Tryz.prog Tryz.lays206_ren := {
  mixed := by kernel_rfl
  f206 := Tryz.func159.trans (congrArg some (by kernel_rfl))
  t3 := Tryz.underlying3
  a3 := Tryz.isAgg3
  z3 := Tryz.sizeOf3
  v3 := Tryz.zeroValue3
  t4 := Tryz.underlying4
  a4 := Tryz.isAgg4
  z4 := Tryz.sizeOf4
  v4 := Tryz.zeroValue4
  t9 := Tryz.underlying9
  a9 := Tryz.isAgg9
  z9 := Tryz.sizeOf9
  v9 := Tryz.zeroValue9 }
open Go.RowKit Go.Lib in
theorem Tryz.stringslite_HasPrefix (s p : ByteArray) (w : World) :
    Calls Tryz.prog 159 #[.string s, .string p] w fun e w' => e = .returned (.bool (Lib.hasPrefix s.data.toList p.data.toList)) ∧ w' = w := Any.stringslite_HasPrefix Tryz.lays206 s p w
def Tryz.lays99_ren : Go.Shelf.Ren := ⟨fun | 99 => 127 | 206 => 159 | n => n, fun | 9 => 9 | 4 => 4 | 3 => 3 | n => n, fun | n => n⟩
theorem Tryz.lays99 : Go.Proofs.Lays.n99 Tryz.prog Tryz.lays99_ren := {
  mixed := by kernel_rfl
  f99 := Tryz.func127.trans (congrArg some (by kernel_rfl))
  f206 := Tryz.func159.trans (congrArg some (by kernel_rfl))
  t3 := Tryz.underlying3
  a3 := Tryz.isAgg3
  z3 := Tryz.sizeOf3
  v3 := Tryz.zeroValue3
  t4 := Tryz.underlying4
  a4 := Tryz.isAgg4
  z4 := Tryz.sizeOf4
  v4 := Tryz.zeroValue4
  t9 := Tryz.underlying9
  a9 := Tryz.isAgg9
  z9 := Tryz.sizeOf9
  v9 := Tryz.zeroValue9 }
open Go.RowKit Go.Lib in
theorem Tryz.strings_HasPrefix (s p : ByteArray) (w : World) :
    Calls Tryz.prog 127 #[.string s, .string p] w fun e w' => e = .returned (.bool (Lib.hasPrefix s.data.toList p.data.toList)) ∧ w' = w := Any.strings_HasPrefix Tryz.lays99 s p w
def Tryz.lays264_ren : Go.Shelf.Ren := ⟨fun | 264 => 171 | n => n, fun | 53 => 30 | 46 => 141 | n => n, fun | n => n⟩
theorem Tryz.lays264 : Go.Proofs.Lays.n264 Tryz.prog Tryz.lays264_ren := {
  mixed := by kernel_rfl
  f264 := Tryz.func171.trans (congrArg some (by kernel_rfl))
  t46 := Tryz.underlying141
  a46 := Tryz.isAgg141
  z46 := Tryz.sizeOf141
  v46 := Tryz.zeroValue141
  t53 := Tryz.underlying30
  a53 := Tryz.isAgg30
  z53 := Tryz.sizeOf30
  v53 := Tryz.zeroValue30 }
open Go.RowKit Go.Lib in
theorem Tryz.bits_Mul64 (x y : Nat) (hx : x < 18446744073709551616) (hy : y < 18446744073709551616) (w : World) :
    Calls Tryz.prog 171 #[.int .u64 x, .int .u64 y] w fun e w' => e = .returned (.tuple #[.int .u64 ((x * y / 18446744073709551616 : Nat) : Int), .int .u64 ((x * y % 18446744073709551616 : Nat) : Int)]) ∧ w' = w := Any.bits_Mul64 Tryz.lays264 x y hx hy w
open Go.RowKit Go.Lib in
theorem Tryz.strings_IndexFunc_grows (g : Nat) (lb : Array Value) (eg : ∀ args w, (callFunc g args).run Tryz.prog w = .ok (.enter g args) w) (p : Nat → Bool) (s : ByteArray) (w : World) (hp : PredGrows Tryz.prog g lb p w) :
    Calls Tryz.prog 62 #[.string s, .func (.func g) #[] lb] w fun e w' => e = .returned (.int .i64 (Lib.idxFunc p true s)) ∧ Below w.heap.size w w' := Any.strings_IndexFunc_grows Tryz.laysGw15 g lb eg p s w hp
def Tryz.lays196_ren : Go.Shelf.Ren := ⟨fun | 196 => 61 | 259 => 90 | n => n, fun | 9 => 9 | 4 => 4 | 3 => 3 | 5 => 5 | 12 => 12 | 119 => 137 | 0 => 0 | 46 => 141 | 139 => 140 | 138 => 139 | 53 => 30 | n => n, fun | 3 => 0 | 4 => 1 | n => n⟩
theorem Tryz.lays196 : Go.Proofs.Lays.n196 Tryz.prog Tryz.lays196_ren := {
  mixed := by kernel_rfl
  f196 := Tryz.func61.trans (congrArg some (by kernel_rfl))
  f259 := Tryz.func90.trans (congrArg some (by kernel_rfl))
  t0 := Tryz.underlying0
  a0 := Tryz.isAgg0
  z0 := Tryz.sizeOf0
  v0 := Tryz.zeroValue0
  t3 := Tryz.underlying3
  a3 := Tryz.isAgg3
  z3 := Tryz.sizeOf3
  v3 := Tryz.zeroValue3
  t4 := Tryz.underlying4
  a4 := Tryz.isAgg4
  z4 := Tryz.sizeOf4
  v4 := Tryz.zeroValue4
  t5 := Tryz.underlying5
  a5 := Tryz.isAgg5
  z5 := Tryz.sizeOf5
  v5 := Tryz.zeroValue5
  t9 := Tryz.underlying9
  a9 := Tryz.isAgg9
  z9 := Tryz.sizeOf9
  v9 := Tryz.zeroValue9
  t12 := Tryz.underlying12
  a12 := Tryz.isAgg12
  z12 := Tryz.sizeOf12
  v12 := Tryz.zeroValue12
  t46 := Tryz.underlying141
  a46 := Tryz.isAgg141
  z46 := Tryz.sizeOf141
  v46 := Tryz.zeroValue141
  t53 := Tryz.underlying30
  a53 := Tryz.isAgg30
  z53 := Tryz.sizeOf30
  v53 := Tryz.zeroValue30
  t119 := Tryz.underlying137
  a119 := Tryz.isAgg137
  z119 := Tryz.sizeOf137
  t138 := Tryz.underlying139
  a138 := Tryz.isAgg139
  z138 := Tryz.sizeOf139
  v138 := Tryz.zeroValue139
  t139 := Tryz.underlying140
  a139 := Tryz.isAgg140
  z139 := Tryz.sizeOf140
  v139 := Tryz.zeroValue140
  g3 := by kernel_rfl
  g4 := by kernel_rfl }
def Tryz.lays25_ren : Go.Shelf.Ren := ⟨fun | 25 => 172 | n => n, fun | 22 => 30 | n => n, fun | n => n⟩
theorem Tryz.lays25 : Go.Proofs.Lays7.n25 Tryz.prog Tryz.lays25_ren := {
  mixed := by kernel_rfl
  f25 := Tryz.func172.trans (congrArg some (by kernel_rfl))
  t22 := Tryz.underlying30
  a22 := Tryz.isAgg30
  z22 := Tryz.sizeOf30
  v22 := Tryz.zeroValue30
  i22 := by kernel_rfl }
end Go.Proofs
