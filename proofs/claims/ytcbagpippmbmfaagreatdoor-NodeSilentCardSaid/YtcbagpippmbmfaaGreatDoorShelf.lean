/-
  The library contracts that this seat uses, laid at its program by the kit's own tools.
-/
import Derived.Shelf.Strings.Builder1
import Derived.Shelf.Strings.Builder2
import Derived.Shelf.Strings.OnBuilder
import Derived.Shelf.Small.Utf8
import Derived.Shelf.Small.Bits
import Derived.Shelf.Small.Strs
import Derived.Shelf.Strings.BuilderF
import Derived.Shelf.Strings.BuilderK
import Derived.Shelf.Utf8.RuneCount
import Derived.Shelf.Strings.Builder2Cap
import Derived.Shelf.Strconv.Atoi
import Derived.Shelf.Strconv.Itoa0
import Derived.Shelf.Strconv.Itoa1
import Derived.Shelf.LaysM
import Derived.Shelf.Strconv.Itoa2
import Derived.Shelf.Strconv.Itoa3
import Derived.Shelf.Strconv.AtoiErrFast
import Derived.Shelf.Strconv.ParseIntEmpty
import Derived.Shelf.Strconv.AtoiFail
import Derived.Shelf.Strconv.Clone
import Derived.Shelf.Strconv.SyntaxError
import Derived.Shelf.LaysC
import Derived.Shelf.Strconv.ToError
import Derived.Shelf.Strconv.Lower
import Derived.Shelf.Strconv.ParseUint10
import Derived.Shelf.Strconv.ParseUint10Empty
import Derived.Shelf.Strconv.ParseUint10Any
import Derived.Shelf.Strconv.ParseInt10
import Derived.Shelf.Strconv.AtoiLong
import Derived.Shelf.Strconv.AtoiInnerAll
import Derived.Shelf.Strconv.RangeError
import Derived.Shelf.Strconv.ToErrorRange
import Derived.Shelf.Strconv.AtoiAll
import Derived.Shelf.Strconv.ParseUintEmpty
import Derived.Shelf.Strconv.ParseUint10b64
import Derived.Shelf.Strconv.ParseUint10b32
import Derived.Shelf.Strconv.ParseUint10b16
import Derived.Shelf.Strconv.ParseUint10b8
import Derived.Shelf.Strconv.ParseUint10At
import Derived.Shelf.Strings.Search1
import Derived.Shelf.Strings.Search2
import Derived.Shelf.Strings.Search3
import Derived.Shelf.Strings.Cut
import Derived.Shelf.Strings.Count
import Derived.Shelf.Strings.Shaped
import Derived.Shelf.Sort.Plain
import Derived.Shelf.Strings.Prefix
import Derived.Shelf.Strings.Split
import Derived.Shelf.Strings.SplitShaped
import Derived.Shelf.Unicode.Decode
import Derived.Shelf.Strings.Runes
import Derived.Shelf.Strings.RuneCount
import Derived.Shelf.Strings.AsciiSet
import Derived.Shelf.Strings.Explode
import Derived.Shelf.Unicode.DecodeSlow
import Derived.Shelf.Unicode.DecodeAny
import Derived.Shelf.Unicode.DecodeLast
import Derived.Shelf.Strings.BuilderCap
import Derived.Shelf.Slices.Turned
import Derived.Ground.Names2Prog
import Derived.Shelf.Slices.Clone
import Derived.Shelf.Slices.In.SortNone
import Derived.Ground.SlgnProg
import Derived.Shelf.SlicesE.Clone
import Derived.Test.YtcbagpippmbmfaaGreatDoorProg
namespace Go.Proofs.YtcbagpippmbmfaaGreatDoor
open Go.Shelf
def Lay.lays156_ren : Go.Shelf.Ren := ⟨fun | 156 => 182 | 165 => 229 | 166 => 92 | 169 => 95 | 240 => 135 | 241 => 264 | 276 => 197 | 277 => 307 | n => n, fun | 31 => 23 | 9 => 9 | 3 => 3 | 4 => 4 | 0 => 0 | 20 => 20 | 72 => 139 | 76 => 142 | 70 => 137 | 37 => 60 | 75 => 141 | 127 => 203 | 164 => 247 | 5 => 5 | 80 => 146 | n => n, fun | n => n⟩
theorem Lay.lays156 : Go.Proofs.Lays.n156 Tryz.prog Lay.lays156_ren := {
  mixed := by kernel_rfl
  f156 := Tryz.func182.trans (congrArg some (by kernel_rfl))
  f165 := Tryz.func229.trans (congrArg some (by kernel_rfl))
  f166 := Tryz.func92.trans (congrArg some (by kernel_rfl))
  f169 := Tryz.func95.trans (congrArg some (by kernel_rfl))
  f240 := Tryz.func135.trans (congrArg some (by kernel_rfl))
  f241 := Tryz.func264.trans (congrArg some (by kernel_rfl))
  f276 := Tryz.func197.trans (congrArg some (by kernel_rfl))
  f277 := Tryz.func307.trans (congrArg some (by kernel_rfl))
  t0 := Tryz.underlying0
  a0 := Tryz.isAgg0
  z0 := Tryz.sizeOf0
  v0 := Tryz.zeroValue0
  t3 := Tryz.underlying3
  a3 := Tryz.isAgg3
  z3 := Tryz.sizeOf3
  v3 := Tryz.zeroValue3
  t4 := Tryz.underlying4
  a4 := Tryz.isAgg4
  z4 := Tryz.sizeOf4
  v4 := Tryz.zeroValue4
  t9 := Tryz.underlying9
  a9 := Tryz.isAgg9
  z9 := Tryz.sizeOf9
  v9 := Tryz.zeroValue9
  t20 := Tryz.underlying20
  a20 := Tryz.isAgg20
  z20 := Tryz.sizeOf20
  v20 := Tryz.zeroValue20
  t31 := Tryz.underlying23
  a31 := Tryz.isAgg23
  z31 := Tryz.sizeOf23
  v31 := Tryz.zeroValue23
  t37 := Tryz.underlying60
  a37 := Tryz.isAgg60
  z37 := Tryz.sizeOf60
  v37 := Tryz.zeroValue60
  t70 := Tryz.underlying137
  a70 := Tryz.isAgg137
  z70 := Tryz.sizeOf137
  v70 := Tryz.zeroValue137
  t72 := Tryz.underlying139
  a72 := Tryz.isAgg139
  z72 := Tryz.sizeOf139
  v72 := Tryz.zeroValue139
  t75 := Tryz.underlying141
  a75 := Tryz.isAgg141
  z75 := Tryz.sizeOf141
  v75 := Tryz.zeroValue141
  t76 := Tryz.underlying142
  a76 := Tryz.isAgg142
  z76 := Tryz.sizeOf142
  v76 := Tryz.zeroValue142
  t127 := Tryz.underlying203
  a127 := Tryz.isAgg203
  z127 := Tryz.sizeOf203
  v127 := Tryz.zeroValue203
  t164 := Tryz.underlying247
  a164 := Tryz.isAgg247
  z164 := Tryz.sizeOf247
  v164 := Tryz.zeroValue247 }
theorem Lay.Builder_Extra_156 : Builder.Extra Tryz.prog Lay.lays156_ren := {
  sizeBuilder := by kernel_rfl
  liesBuilder := by kernel_rfl
  t5 := Tryz.underlying5
  a5 := Tryz.isAgg5
  z5 := Tryz.sizeOf5
  v5 := Tryz.zeroValue5
  infoByte := by kernel_rfl
  cellsByte := by kernel_rfl
  sizeByte := by kernel_rfl
  neB5 := by decide }
open Go.RowKit in
theorem Lay.strings_Join_none (a : Option Addr) (c : Nat) (sep : ByteArray) (w : World) :
    Calls Tryz.prog 182 #[.slice a 0 c, .string sep] w fun e w' => e = .returned (.string ⟨#[]⟩) ∧ w' = w := Any.strings_Join_none Lay.lays156 Lay.Builder_Extra_156 a c sep w
open Go.RowKit in
theorem Lay.strings_Join (bk o c : Nat) (xs : List ByteArray) (sep : ByteArray) (w : World) (hcells : ∀ (j : Nat) x, xs[j]? = some x → w.cell? ⟨bk, o + j, none⟩ = some (.string x)) (hbk : bk < w.heap.size) (hN : xs.length ≤ 140737488355328) (hcap : xs.length ≤ c) (hlen : (Lib.join (xs.map (·.data.toList)) sep.data.toList).length ≤ 140737488355328) :
    Calls Tryz.prog 182 #[.slice (some ⟨bk, o, none⟩) xs.length c, .string sep] w fun e w' => e = .returned (.string ⟨(Lib.join (xs.map (·.data.toList)) sep.data.toList).toArray⟩) ∧ Below w.heap.size w w' := Any.strings_Join Lay.lays156 Lay.Builder_Extra_156 bk o c xs sep w hcells hbk hN hcap hlen
def Lay.lays137_ren : Go.Shelf.Ren := ⟨fun | 137 => 209 | 217 => 237 | 266 => 267 | n => n, fun | 9 => 9 | 5 => 5 | 3 => 3 | n => n, fun | n => n⟩
theorem Lay.lays137 : Go.Proofs.Lays.n137 Tryz.prog Lay.lays137_ren := {
  mixed := by kernel_rfl
  f137 := Tryz.func209.trans (congrArg some (by kernel_rfl))
  f217 := Tryz.func237.trans (congrArg some (by kernel_rfl))
  f266 := Tryz.func267.trans (congrArg some (by kernel_rfl))
  t3 := Tryz.underlying3
  a3 := Tryz.isAgg3
  z3 := Tryz.sizeOf3
  v3 := Tryz.zeroValue3
  t5 := Tryz.underlying5
  a5 := Tryz.isAgg5
  z5 := Tryz.sizeOf5
  v5 := Tryz.zeroValue5
  t9 := Tryz.underlying9
  a9 := Tryz.isAgg9
  z9 := Tryz.sizeOf9
  v9 := Tryz.zeroValue9 }
open Go.RowKit in
theorem Lay.strings_IndexByte (s : ByteArray) (c : Int) (w : World) :
    Calls Tryz.prog 209 #[.string s, .int .u8 c] w fun e w' => e = .returned (.int .i64 (Lib.indexByte s.data.toList c.toNat.toUInt8)) ∧ w' = w := Any.strings_IndexByte Lay.lays137 s c w
def Lay.laysM171_ren : Go.Shelf.Ren := ⟨fun | 171 => 183 | 243 => 230 | 246 => 265 | 283 => 308 | 284 => 309 | 285 => 310 | 286 => 311 | 129 => 194 | 317 => 330 | 318 => 331 | 319 => 332 | 320 => 333 | 337 => 342 | 338 => 343 | n => n, fun | 3 => 3 | 9 => 9 | 2 => 2 | 4 => 4 | 171 => 306 | 0 => 0 | 53 => 245 | 37 => 60 | 5 => 5 | 173 => 308 | 212 => 321 | 51 => 243 | 20 => 20 | 213 => 322 | 46 => 195 | 232 => 342 | 233 => 343 | n => n, fun | 17 => 3 | 18 => 6 | 19 => 7 | n => n⟩
theorem Lay.laysM171 : Go.Proofs.LaysM.n171 Tryz.prog Lay.laysM171_ren := {
  mixed := by kernel_rfl
  f129 := Tryz.func194.trans (congrArg some (by kernel_rfl))
  f171 := Tryz.func183.trans (congrArg some (by kernel_rfl))
  f243 := Tryz.func230.trans (congrArg some (by kernel_rfl))
  f246 := Tryz.func265.trans (congrArg some (by kernel_rfl))
  f283 := Tryz.func308.trans (congrArg some (by kernel_rfl))
  f284 := Tryz.func309.trans (congrArg some (by kernel_rfl))
  f285 := Tryz.func310.trans (congrArg some (by kernel_rfl))
  f286 := Tryz.func311.trans (congrArg some (by kernel_rfl))
  f317 := Tryz.func330.trans (congrArg some (by kernel_rfl))
  f318 := Tryz.func331.trans (congrArg some (by kernel_rfl))
  f319 := Tryz.func332.trans (congrArg some (by kernel_rfl))
  f320 := Tryz.func333.trans (congrArg some (by kernel_rfl))
  f337 := Tryz.func342.trans (congrArg some (by kernel_rfl))
  f338 := Tryz.func343.trans (congrArg some (by kernel_rfl))
  t0 := Tryz.underlying0
  a0 := Tryz.isAgg0
  z0 := Tryz.sizeOf0
  v0 := Tryz.zeroValue0
  t2 := Tryz.underlying2
  a2 := Tryz.isAgg2
  z2 := Tryz.sizeOf2
  v2 := Tryz.zeroValue2
  t3 := Tryz.underlying3
  a3 := Tryz.isAgg3
  z3 := Tryz.sizeOf3
  v3 := Tryz.zeroValue3
  t4 := Tryz.underlying4
  a4 := Tryz.isAgg4
  z4 := Tryz.sizeOf4
  v4 := Tryz.zeroValue4
  t5 := Tryz.underlying5
  a5 := Tryz.isAgg5
  z5 := Tryz.sizeOf5
  v5 := Tryz.zeroValue5
  t9 := Tryz.underlying9
  a9 := Tryz.isAgg9
  z9 := Tryz.sizeOf9
  v9 := Tryz.zeroValue9
  t20 := Tryz.underlying20
  a20 := Tryz.isAgg20
  z20 := Tryz.sizeOf20
  v20 := Tryz.zeroValue20
  t37 := Tryz.underlying60
  a37 := Tryz.isAgg60
  z37 := Tryz.sizeOf60
  v37 := Tryz.zeroValue60
  t46 := Tryz.underlying195
  a46 := Tryz.isAgg195
  z46 := Tryz.sizeOf195
  v46 := Tryz.zeroValue195
  t51 := Tryz.underlying243
  a51 := Tryz.isAgg243
  z51 := Tryz.sizeOf243
  v51 := Tryz.zeroValue243
  t53 := Tryz.underlying245
  a53 := Tryz.isAgg245
  z53 := Tryz.sizeOf245
  v53 := Tryz.zeroValue245
  t171 := Tryz.underlying306
  a171 := Tryz.isAgg306
  z171 := Tryz.sizeOf306
  v171 := Tryz.zeroValue306
  t173 := Tryz.underlying308
  a173 := Tryz.isAgg308
  z173 := Tryz.sizeOf308
  v173 := Tryz.zeroValue308
  t212 := Tryz.underlying321
  a212 := Tryz.isAgg321
  z212 := Tryz.sizeOf321
  v212 := Tryz.zeroValue321
  t213 := Tryz.underlying322
  a213 := Tryz.isAgg322
  z213 := Tryz.sizeOf322
  t232 := Tryz.underlying342
  a232 := Tryz.isAgg342
  z232 := Tryz.sizeOf342
  v232 := Tryz.zeroValue342
  t233 := Tryz.underlying343
  a233 := Tryz.isAgg343
  z233 := Tryz.sizeOf343
  v233 := Tryz.zeroValue343
  g17 := by kernel_rfl
  g18 := by kernel_rfl
  g19 := by kernel_rfl
  i0 := by kernel_rfl
  i2 := by kernel_rfl
  i3 := by kernel_rfl
  i4 := by kernel_rfl
  i5 := by kernel_rfl
  i9 := by kernel_rfl
  i20 := by kernel_rfl
  i37 := by kernel_rfl
  i46 := by kernel_rfl
  i51 := by kernel_rfl
  i53 := by kernel_rfl
  i171 := by kernel_rfl
  i173 := by kernel_rfl
  i212 := by kernel_rfl
  i232 := by kernel_rfl
  i233 := by kernel_rfl
  m17 := by kernel_rfl
  m18 := by kernel_rfl
  m19 := by kernel_rfl }
open Go.RowKit Go.Sort Go.Lib in
theorem Lay.strconv_Itoa (n : Int) (h0 : -9223372036854775808 ≤ n) (h1 : n ≤ 9223372036854775807) (w : World) (htab : Lib.TabIs Tryz.prog w "internal/strconv.uint64pow10" .u64 Lib.pow10Tab) :
    Calls Tryz.prog 183 #[.int .i64 n] w fun e w' => e = .returned (.string ⟨(Lib.itoa n).toArray⟩) ∧ ∃ k os, w' = grow (w.drewN k) os := Any.strconv_Itoa Lay.laysM171 n h0 h1 w htab
def Lay.laysC172_ren : Go.Shelf.Ren := ⟨fun | 172 => 227 | 244 => 261 | 245 => 262 | 247 => 301 | 279 => 302 | 280 => 303 | 281 => 304 | 282 => 305 | 287 => 327 | 316 => 328 | 171 => 183 | 205 => 329 | 321 => 340 | 322 => 341 | 243 => 230 | 246 => 265 | 283 => 308 | 284 => 309 | 285 => 310 | 286 => 311 | 129 => 194 | 317 => 330 | 318 => 331 | 319 => 332 | 320 => 333 | 337 => 342 | 338 => 343 | n => n, fun | 9 => 9 | 3 => 3 | 75 => 141 | 76 => 142 | 4 => 4 | 5 => 5 | 167 => 299 | 37 => 60 | 0 => 0 | 85 => 300 | 2 => 2 | 168 => 302 | 53 => 245 | 175 => 315 | 46 => 195 | 210 => 318 | 127 => 203 | 145 => 333 | 143 => 331 | 21 => 21 | 171 => 306 | 173 => 308 | 212 => 321 | 51 => 243 | 20 => 20 | 213 => 322 | 232 => 342 | 233 => 343 | 80 => 146 | n => n, fun | 15 => 1 | 16 => 2 | 17 => 3 | 18 => 6 | 19 => 7 | n => n⟩
theorem Lay.laysC172 : Go.Proofs.LaysC.n172 Tryz.prog Lay.laysC172_ren := {
  mixed := by kernel_rfl
  f129 := Tryz.func194.trans (congrArg some (by kernel_rfl))
  f171 := Tryz.func183.trans (congrArg some (by kernel_rfl))
  f172 := Tryz.func227.trans (congrArg some (by kernel_rfl))
  f205 := Tryz.func329.trans (congrArg some (by kernel_rfl))
  f243 := Tryz.func230.trans (congrArg some (by kernel_rfl))
  f244 := Tryz.func261.trans (congrArg some (by kernel_rfl))
  f245 := Tryz.func262.trans (congrArg some (by kernel_rfl))
  f246 := Tryz.func265.trans (congrArg some (by kernel_rfl))
  f247 := Tryz.func301.trans (congrArg some (by kernel_rfl))
  f279 := Tryz.func302.trans (congrArg some (by kernel_rfl))
  f280 := Tryz.func303.trans (congrArg some (by kernel_rfl))
  f281 := Tryz.func304.trans (congrArg some (by kernel_rfl))
  f282 := Tryz.func305.trans (congrArg some (by kernel_rfl))
  f283 := Tryz.func308.trans (congrArg some (by kernel_rfl))
  f284 := Tryz.func309.trans (congrArg some (by kernel_rfl))
  f285 := Tryz.func310.trans (congrArg some (by kernel_rfl))
  f286 := Tryz.func311.trans (congrArg some (by kernel_rfl))
  f287 := Tryz.func327.trans (congrArg some (by kernel_rfl))
  f316 := Tryz.func328.trans (congrArg some (by kernel_rfl))
  f317 := Tryz.func330.trans (congrArg some (by kernel_rfl))
  f318 := Tryz.func331.trans (congrArg some (by kernel_rfl))
  f319 := Tryz.func332.trans (congrArg some (by kernel_rfl))
  f320 := Tryz.func333.trans (congrArg some (by kernel_rfl))
  f321 := Tryz.func340.trans (congrArg some (by kernel_rfl))
  f322 := Tryz.func341.trans (congrArg some (by kernel_rfl))
  f337 := Tryz.func342.trans (congrArg some (by kernel_rfl))
  f338 := Tryz.func343.trans (congrArg some (by kernel_rfl))
  t0 := Tryz.underlying0
  a0 := Tryz.isAgg0
  z0 := Tryz.sizeOf0
  v0 := Tryz.zeroValue0
  t2 := Tryz.underlying2
  a2 := Tryz.isAgg2
  z2 := Tryz.sizeOf2
  v2 := Tryz.zeroValue2
  t3 := Tryz.underlying3
  a3 := Tryz.isAgg3
  z3 := Tryz.sizeOf3
  v3 := Tryz.zeroValue3
  t4 := Tryz.underlying4
  a4 := Tryz.isAgg4
  z4 := Tryz.sizeOf4
  v4 := Tryz.zeroValue4
  t5 := Tryz.underlying5
  a5 := Tryz.isAgg5
  z5 := Tryz.sizeOf5
  v5 := Tryz.zeroValue5
  t9 := Tryz.underlying9
  a9 := Tryz.isAgg9
  z9 := Tryz.sizeOf9
  v9 := Tryz.zeroValue9
  t20 := Tryz.underlying20
  a20 := Tryz.isAgg20
  z20 := Tryz.sizeOf20
  v20 := Tryz.zeroValue20
  t21 := Tryz.underlying21
  a21 := Tryz.isAgg21
  z21 := Tryz.sizeOf21
  v21 := Tryz.zeroValue21
  t37 := Tryz.underlying60
  a37 := Tryz.isAgg60
  z37 := Tryz.sizeOf60
  v37 := Tryz.zeroValue60
  t46 := Tryz.underlying195
  a46 := Tryz.isAgg195
  z46 := Tryz.sizeOf195
  v46 := Tryz.zeroValue195
  t51 := Tryz.underlying243
  a51 := Tryz.isAgg243
  z51 := Tryz.sizeOf243
  v51 := Tryz.zeroValue243
  t53 := Tryz.underlying245
  a53 := Tryz.isAgg245
  z53 := Tryz.sizeOf245
  v53 := Tryz.zeroValue245
  t75 := Tryz.underlying141
  a75 := Tryz.isAgg141
  z75 := Tryz.sizeOf141
  v75 := Tryz.zeroValue141
  t76 := Tryz.underlying142
  a76 := Tryz.isAgg142
  z76 := Tryz.sizeOf142
  v76 := Tryz.zeroValue142
  t85 := Tryz.underlying300
  a85 := Tryz.isAgg300
  z85 := Tryz.sizeOf300
  v85 := Tryz.zeroValue300
  t127 := Tryz.underlying203
  a127 := Tryz.isAgg203
  z127 := Tryz.sizeOf203
  v127 := Tryz.zeroValue203
  t143 := Tryz.underlying331
  a143 := Tryz.isAgg331
  z143 := Tryz.sizeOf331
  v143 := Tryz.zeroValue331
  t145 := Tryz.underlying333
  a145 := Tryz.isAgg333
  z145 := Tryz.sizeOf333
  v145 := Tryz.zeroValue333
  t167 := Tryz.underlying299
  a167 := Tryz.isAgg299
  z167 := Tryz.sizeOf299
  v167 := Tryz.zeroValue299
  t168 := Tryz.underlying302
  a168 := Tryz.isAgg302
  z168 := Tryz.sizeOf302
  v168 := Tryz.zeroValue302
  t171 := Tryz.underlying306
  a171 := Tryz.isAgg306
  z171 := Tryz.sizeOf306
  v171 := Tryz.zeroValue306
  t173 := Tryz.underlying308
  a173 := Tryz.isAgg308
  z173 := Tryz.sizeOf308
  v173 := Tryz.zeroValue308
  t175 := Tryz.underlying315
  a175 := Tryz.isAgg315
  z175 := Tryz.sizeOf315
  v175 := Tryz.zeroValue315
  t210 := Tryz.underlying318
  a210 := Tryz.isAgg318
  z210 := Tryz.sizeOf318
  v210 := Tryz.zeroValue318
  t212 := Tryz.underlying321
  a212 := Tryz.isAgg321
  z212 := Tryz.sizeOf321
  v212 := Tryz.zeroValue321
  t213 := Tryz.underlying322
  a213 := Tryz.isAgg322
  z213 := Tryz.sizeOf322
  t232 := Tryz.underlying342
  a232 := Tryz.isAgg342
  z232 := Tryz.sizeOf342
  v232 := Tryz.zeroValue342
  t233 := Tryz.underlying343
  a233 := Tryz.isAgg343
  z233 := Tryz.sizeOf343
  v233 := Tryz.zeroValue343
  g15 := by kernel_rfl
  g16 := by kernel_rfl
  g17 := by kernel_rfl
  g18 := by kernel_rfl
  g19 := by kernel_rfl
  t80 := Tryz.underlying146
  a80 := Tryz.isAgg146
  z80 := Tryz.sizeOf146
  v80 := Tryz.zeroValue146
  i0 := by kernel_rfl
  i2 := by kernel_rfl
  i3 := by kernel_rfl
  i4 := by kernel_rfl
  i5 := by kernel_rfl
  i9 := by kernel_rfl
  i20 := by kernel_rfl
  i21 := by kernel_rfl
  i37 := by kernel_rfl
  i46 := by kernel_rfl
  i51 := by kernel_rfl
  i53 := by kernel_rfl
  i75 := by kernel_rfl
  i76 := by kernel_rfl
  i80 := by kernel_rfl
  i85 := by kernel_rfl
  i127 := by kernel_rfl
  i143 := by kernel_rfl
  i145 := by kernel_rfl
  i167 := by kernel_rfl
  i168 := by kernel_rfl
  i171 := by kernel_rfl
  i173 := by kernel_rfl
  i175 := by kernel_rfl
  i210 := by kernel_rfl
  i212 := by kernel_rfl
  i232 := by kernel_rfl
  i233 := by kernel_rfl
  m15 := by kernel_rfl
  m16 := by kernel_rfl
  m17 := by kernel_rfl
  m18 := by kernel_rfl
  m19 := by kernel_rfl
  c0 := by kernel_rfl
  c2 := by kernel_rfl
  c3 := by kernel_rfl
  c4 := by kernel_rfl
  c5 := by kernel_rfl
  c9 := by kernel_rfl
  c20 := by kernel_rfl
  c21 := by kernel_rfl
  c37 := by kernel_rfl
  c46 := by kernel_rfl
  c51 := by kernel_rfl
  c53 := by kernel_rfl
  c75 := by kernel_rfl
  c76 := by kernel_rfl
  c80 := by kernel_rfl
  c85 := by kernel_rfl
  c127 := by kernel_rfl
  c143 := by kernel_rfl
  c145 := by kernel_rfl
  c167 := by kernel_rfl
  c168 := by kernel_rfl
  c171 := by kernel_rfl
  c173 := by kernel_rfl
  c175 := by kernel_rfl
  c210 := by kernel_rfl
  c212 := by kernel_rfl
  c213 := by kernel_rfl
  c232 := by kernel_rfl
  c233 := by kernel_rfl }
open Go.RowKit in
theorem Lay.strconv_Atoi_ok (s : ByteArray) (hmax : s.size ≤ 9223372036854775806) (v : Int) (h : Lib.atoiAll s.data.toList = .ok v) (w : World) :
    Calls Tryz.prog 227 #[.string s] w fun e w' => e = .returned (.tuple #[.int .i64 v, .nilIface]) ∧ (w' = w ∨ ∃ t, w' = Lib.bytesWorld w 5 t) := Any.strconv_Atoi_ok Lay.laysC172 s hmax v h w
open Go.RowKit in
theorem Lay.strconv_Atoi_syntax (s : ByteArray) (hlim : s.size ≤ 281474976710656) (h1 : ∀ v, Lib.atoiAll s.data.toList ≠ .ok v) (h2 : Lib.atoiAll s.data.toList ≠ .range) (ev : Value) (w : World) (hv : w.cell? ⟨1, 0, none⟩ = some ev) (hev : ev = .nilIface ∨ ∃ te pe, ev = .iface te pe) :
    Calls Tryz.prog 227 #[.string s] w fun e w' => ∃ N, e = .returned (.tuple #[.int .i64 (0), .iface 302 (.pointer (some ⟨N, 0, none⟩))]) ∧ w.heap.size ≤ N ∧ w'.heap[N]? = some (.cells #[.string ⟨#[65, 116, 111, 105]⟩, .string s, ev] 318 (0, 0)) ∧ Below w.heap.size w w' := Any.strconv_Atoi_syntax Lay.laysC172 s hlim (by revert h1 h2; cases Lib.atoiAll s.data.toList <;> simp) ev w hv hev
open Go.RowKit in
theorem Lay.strconv_Atoi_range (s : ByteArray) (hlim : s.size ≤ 281474976710656) (h : Lib.atoiAll s.data.toList = .range) (ev : Value) (w : World) (hv : w.cell? ⟨2, 0, none⟩ = some ev) (hev : ev = .nilIface ∨ ∃ te pe, ev = .iface te pe) :
    Calls Tryz.prog 227 #[.string s] w fun e w' => ∃ N, e = .returned (.tuple #[.int .i64 (Lib.atoiSat s.data.toList), .iface 302 (.pointer (some ⟨N, 0, none⟩))]) ∧ w.heap.size ≤ N ∧ w'.heap[N]? = some (.cells #[.string ⟨#[65, 116, 111, 105]⟩, .string s, ev] 318 (0, 0)) ∧ Below w.heap.size w w' := Any.strconv_Atoi_range Lay.laysC172 s hlim h ev w hv hev
def Lay.lays145_ren : Go.Shelf.Ren := ⟨fun | 145 => 88 | 220 => 133 | 219 => 195 | 217 => 237 | 225 => 238 | 224 => 239 | 267 => 240 | 266 => 267 | 314 => 268 | n => n, fun | 9 => 9 | 4 => 4 | 59 => 134 | 3 => 3 | 5 => 5 | 46 => 195 | 146 => 285 | 51 => 243 | n => n, fun | 1 => 0 | n => n⟩
theorem Lay.lays145 : Go.Proofs.Lays.n145 Tryz.prog Lay.lays145_ren := {
  mixed := by kernel_rfl
  f145 := Tryz.func88.trans (congrArg some (by kernel_rfl))
  f217 := Tryz.func237.trans (congrArg some (by kernel_rfl))
  f219 := Tryz.func195.trans (congrArg some (by kernel_rfl))
  f220 := Tryz.func133.trans (congrArg some (by kernel_rfl))
  f224 := Tryz.func239.trans (congrArg some (by kernel_rfl))
  f225 := Tryz.func238.trans (congrArg some (by kernel_rfl))
  f266 := Tryz.func267.trans (congrArg some (by kernel_rfl))
  f267 := Tryz.func240.trans (congrArg some (by kernel_rfl))
  f314 := Tryz.func268.trans (congrArg some (by kernel_rfl))
  t3 := Tryz.underlying3
  a3 := Tryz.isAgg3
  z3 := Tryz.sizeOf3
  v3 := Tryz.zeroValue3
  t4 := Tryz.underlying4
  a4 := Tryz.isAgg4
  z4 := Tryz.sizeOf4
  v4 := Tryz.zeroValue4
  t5 := Tryz.underlying5
  a5 := Tryz.isAgg5
  z5 := Tryz.sizeOf5
  v5 := Tryz.zeroValue5
  t9 := Tryz.underlying9
  a9 := Tryz.isAgg9
  z9 := Tryz.sizeOf9
  v9 := Tryz.zeroValue9
  t46 := Tryz.underlying195
  a46 := Tryz.isAgg195
  z46 := Tryz.sizeOf195
  v46 := Tryz.zeroValue195
  t51 := Tryz.underlying243
  a51 := Tryz.isAgg243
  z51 := Tryz.sizeOf243
  v51 := Tryz.zeroValue243
  t59 := Tryz.underlying134
  a59 := Tryz.isAgg134
  z59 := Tryz.sizeOf134
  v59 := Tryz.zeroValue134
  t146 := Tryz.underlying285
  a146 := Tryz.isAgg285
  z146 := Tryz.sizeOf285
  v146 := Tryz.zeroValue285
  g1 := by kernel_rfl }
open Go.RowKit Go.Lib in
theorem Lay.strings_Cut (s sep : ByteArray) (m : Int) (w : World) (hs : s.size < 4294967281) (hm : w.cell? ⟨0, 0, none⟩ = some (.int .i64 m)) :
    Calls Tryz.prog 88 #[.string s, .string sep] w fun e w' => e = .returned (.tuple #[.string ⟨(Lib.cut s.data.toList sep.data.toList).1.toArray⟩, .string ⟨(Lib.cut s.data.toList sep.data.toList).2.1.toArray⟩, .bool (Lib.cut s.data.toList sep.data.toList).2.2]) ∧ ∃ n, w' = w.drewN n := Any.strings_Cut Lay.lays145 s sep m w hs hm
def Lay.lays190_ren : Go.Shelf.Ren := ⟨fun | 190 => 79 | 125 => 130 | 258 => 129 | 128 => 193 | 129 => 194 | 302 => 184 | 303 => 185 | 304 => 186 | 305 => 187 | 306 => 188 | 307 => 189 | 308 => 190 | 309 => 191 | 310 => 192 | 333 => 231 | 329 => 232 | 330 => 233 | 334 => 234 | 335 => 235 | 336 => 236 | 344 => 266 | n => n, fun | 31 => 23 | 9 => 9 | 3 => 3 | 46 => 195 | 0 => 0 | 51 => 243 | 53 => 245 | 4 => 4 | 183 => 237 | 182 => 236 | 131 => 115 | 5 => 5 | 218 => 260 | 222 => 264 | 228 => 283 | 229 => 100 | n => n, fun | n => n⟩
theorem Lay.lays190 : Go.Proofs.Lays.n190 Tryz.prog Lay.lays190_ren := {
  mixed := by kernel_rfl
  f125 := Tryz.func130.trans (congrArg some (by kernel_rfl))
  f128 := Tryz.func193.trans (congrArg some (by kernel_rfl))
  f129 := Tryz.func194.trans (congrArg some (by kernel_rfl))
  f190 := Tryz.func79.trans (congrArg some (by kernel_rfl))
  f258 := Tryz.func129.trans (congrArg some (by kernel_rfl))
  f302 := Tryz.func184.trans (congrArg some (by kernel_rfl))
  f303 := Tryz.func185.trans (congrArg some (by kernel_rfl))
  f304 := Tryz.func186.trans (congrArg some (by kernel_rfl))
  f305 := Tryz.func187.trans (congrArg some (by kernel_rfl))
  f306 := Tryz.func188.trans (congrArg some (by kernel_rfl))
  f307 := Tryz.func189.trans (congrArg some (by kernel_rfl))
  f308 := Tryz.func190.trans (congrArg some (by kernel_rfl))
  f309 := Tryz.func191.trans (congrArg some (by kernel_rfl))
  f310 := Tryz.func192.trans (congrArg some (by kernel_rfl))
  f329 := Tryz.func232.trans (congrArg some (by kernel_rfl))
  f330 := Tryz.func233.trans (congrArg some (by kernel_rfl))
  f333 := Tryz.func231.trans (congrArg some (by kernel_rfl))
  f334 := Tryz.func234.trans (congrArg some (by kernel_rfl))
  f335 := Tryz.func235.trans (congrArg some (by kernel_rfl))
  f336 := Tryz.func236.trans (congrArg some (by kernel_rfl))
  f344 := Tryz.func266.trans (congrArg some (by kernel_rfl))
  t0 := Tryz.underlying0
  a0 := Tryz.isAgg0
  z0 := Tryz.sizeOf0
  v0 := Tryz.zeroValue0
  t3 := Tryz.underlying3
  a3 := Tryz.isAgg3
  z3 := Tryz.sizeOf3
  v3 := Tryz.zeroValue3
  t4 := Tryz.underlying4
  a4 := Tryz.isAgg4
  z4 := Tryz.sizeOf4
  v4 := Tryz.zeroValue4
  t5 := Tryz.underlying5
  a5 := Tryz.isAgg5
  z5 := Tryz.sizeOf5
  v5 := Tryz.zeroValue5
  t9 := Tryz.underlying9
  a9 := Tryz.isAgg9
  z9 := Tryz.sizeOf9
  v9 := Tryz.zeroValue9
  t31 := Tryz.underlying23
  a31 := Tryz.isAgg23
  z31 := Tryz.sizeOf23
  v31 := Tryz.zeroValue23
  t46 := Tryz.underlying195
  a46 := Tryz.isAgg195
  z46 := Tryz.sizeOf195
  v46 := Tryz.zeroValue195
  t51 := Tryz.underlying243
  a51 := Tryz.isAgg243
  z51 := Tryz.sizeOf243
  v51 := Tryz.zeroValue243
  t53 := Tryz.underlying245
  a53 := Tryz.isAgg245
  z53 := Tryz.sizeOf245
  v53 := Tryz.zeroValue245
  t131 := Tryz.underlying115
  a131 := Tryz.isAgg115
  z131 := Tryz.sizeOf115
  v131 := Tryz.zeroValue115
  t182 := Tryz.underlying236
  a182 := Tryz.isAgg236
  z182 := Tryz.sizeOf236
  v182 := Tryz.zeroValue236
  t183 := Tryz.underlying237
  a183 := Tryz.isAgg237
  z183 := Tryz.sizeOf237
  v183 := Tryz.zeroValue237
  t218 := Tryz.underlying260
  a218 := Tryz.isAgg260
  z218 := Tryz.sizeOf260
  v218 := Tryz.zeroValue260
  t222 := Tryz.underlying264
  a222 := Tryz.isAgg264
  z222 := Tryz.sizeOf264
  v222 := Tryz.zeroValue264
  t228 := Tryz.underlying283
  a228 := Tryz.isAgg283
  z228 := Tryz.sizeOf283
  v228 := Tryz.zeroValue283
  t229 := Tryz.underlying100
  a229 := Tryz.isAgg100
  z229 := Tryz.sizeOf100
  v229 := Tryz.zeroValue100 }
open Go.Sort Go.RowKit in
theorem Lay.slices_Sort_string (blk off cap : Nat) (ss : List (List UInt8)) (w : World) (hH : Holds encStr w blk off ss.toArray) (hblk : blk < w.heap.size) (hsz : ss.length < 4611686018427387904) :
    Calls Tryz.prog 79 #[.slice (some ⟨blk, off, none⟩) ss.length cap] w fun e w' =>
      e = .returned (.tuple #[]) ∧ ∃ n os, w' = grow (putRow encStr (Sort.ahead w n) blk off (ss.mergeSort fun x y => decide (x ≤ y)).toArray) os := Any.slices_Sort_string Lay.lays190 blk off cap ss w hH hblk hsz
def Lay.lays146_ren : Go.Shelf.Ren := ⟨fun | 146 => 178 | 221 => 225 | 268 => 259 | 138 => 260 | 143 => 200 | 195 => 298 | 197 => 299 | 218 => 300 | 219 => 195 | 260 => 326 | 217 => 237 | 225 => 238 | 224 => 239 | 267 => 240 | 266 => 267 | 314 => 268 | n => n, fun | 9 => 9 | 31 => 23 | 3 => 3 | 4 => 4 | 0 => 0 | 105 => 297 | 21 => 21 | 5 => 5 | 46 => 195 | 119 => 326 | 139 => 329 | 138 => 328 | 146 => 285 | 51 => 243 | n => n, fun | 1 => 0 | 3 => 4 | 4 => 5 | n => n⟩
theorem Lay.lays146 : Go.Proofs.Lays.n146 Tryz.prog Lay.lays146_ren := {
  mixed := by kernel_rfl
  f138 := Tryz.func260.trans (congrArg some (by kernel_rfl))
  f143 := Tryz.func200.trans (congrArg some (by kernel_rfl))
  f146 := Tryz.func178.trans (congrArg some (by kernel_rfl))
  f195 := Tryz.func298.trans (congrArg some (by kernel_rfl))
  f197 := Tryz.func299.trans (congrArg some (by kernel_rfl))
  f217 := Tryz.func237.trans (congrArg some (by kernel_rfl))
  f218 := Tryz.func300.trans (congrArg some (by kernel_rfl))
  f219 := Tryz.func195.trans (congrArg some (by kernel_rfl))
  f221 := Tryz.func225.trans (congrArg some (by kernel_rfl))
  f224 := Tryz.func239.trans (congrArg some (by kernel_rfl))
  f225 := Tryz.func238.trans (congrArg some (by kernel_rfl))
  f260 := Tryz.func326.trans (congrArg some (by kernel_rfl))
  f266 := Tryz.func267.trans (congrArg some (by kernel_rfl))
  f267 := Tryz.func240.trans (congrArg some (by kernel_rfl))
  f268 := Tryz.func259.trans (congrArg some (by kernel_rfl))
  f314 := Tryz.func268.trans (congrArg some (by kernel_rfl))
  t0 := Tryz.underlying0
  a0 := Tryz.isAgg0
  z0 := Tryz.sizeOf0
  v0 := Tryz.zeroValue0
  t3 := Tryz.underlying3
  a3 := Tryz.isAgg3
  z3 := Tryz.sizeOf3
  v3 := Tryz.zeroValue3
  t4 := Tryz.underlying4
  a4 := Tryz.isAgg4
  z4 := Tryz.sizeOf4
  v4 := Tryz.zeroValue4
  t5 := Tryz.underlying5
  a5 := Tryz.isAgg5
  z5 := Tryz.sizeOf5
  v5 := Tryz.zeroValue5
  t9 := Tryz.underlying9
  a9 := Tryz.isAgg9
  z9 := Tryz.sizeOf9
  v9 := Tryz.zeroValue9
  t21 := Tryz.underlying21
  a21 := Tryz.isAgg21
  z21 := Tryz.sizeOf21
  v21 := Tryz.zeroValue21
  t31 := Tryz.underlying23
  a31 := Tryz.isAgg23
  z31 := Tryz.sizeOf23
  v31 := Tryz.zeroValue23
  t46 := Tryz.underlying195
  a46 := Tryz.isAgg195
  z46 := Tryz.sizeOf195
  v46 := Tryz.zeroValue195
  t51 := Tryz.underlying243
  a51 := Tryz.isAgg243
  z51 := Tryz.sizeOf243
  v51 := Tryz.zeroValue243
  t105 := Tryz.underlying297
  a105 := Tryz.isAgg297
  z105 := Tryz.sizeOf297
  v105 := Tryz.zeroValue297
  t119 := Tryz.underlying326
  a119 := Tryz.isAgg326
  z119 := Tryz.sizeOf326
  t138 := Tryz.underlying328
  a138 := Tryz.isAgg328
  z138 := Tryz.sizeOf328
  v138 := Tryz.zeroValue328
  t139 := Tryz.underlying329
  a139 := Tryz.isAgg329
  z139 := Tryz.sizeOf329
  v139 := Tryz.zeroValue329
  t146 := Tryz.underlying285
  a146 := Tryz.isAgg285
  z146 := Tryz.sizeOf285
  v146 := Tryz.zeroValue285
  g1 := by kernel_rfl
  g3 := by kernel_rfl
  g4 := by kernel_rfl }
open Go.RowKit Go.Lib in
theorem Lay.strings_Split (s sep : ByteArray) (m : Int) (w : World) (hs : s.size < 4294967281) (hm : w.cell? ⟨0, 0, none⟩ = some (.int .i64 m)) (h1 : 1 ≤ sep.size) :
    Calls Tryz.prog 178 #[.string s, .string sep] w fun e w' =>
      e = .returned (.slice (some ⟨w.heap.size, 0, none⟩) (Lib.countB s sep + 1) (Lib.countB s sep + 1)) ∧ w' = w.alloc (.cells ((Lib.splitB sep 0 (Lib.countB s sep) s).map Value.string).toArray 9) := Any.strings_Split Lay.lays146 (by kernel_rfl) s sep m w hs hm h1
open Go.RowKit Go.Sort in
theorem Lay.slices_Sort_string_none (p : Option Addr) (cap : Nat) (w : World) :
    Calls Tryz.prog 79 #[.slice p 0 cap] w fun e w' => e = .returned (.tuple #[]) ∧ w' = w := Any.slices_Sort_string_none Lay.lays190 p cap w
end Go.Proofs.YtcbagpippmbmfaaGreatDoor
