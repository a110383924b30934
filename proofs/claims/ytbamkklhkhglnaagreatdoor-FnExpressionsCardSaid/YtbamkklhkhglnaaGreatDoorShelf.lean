import Derived.Shelf.Strings.Builder1
import Derived.Shelf.Strings.Builder2
import Derived.Shelf.Strings.OnBuilder
import Derived.Shelf.Small.Strs
import Derived.Shelf.Strconv.Itoa0
import Derived.Shelf.Strconv.Itoa1
import Derived.Shelf.LaysM
import Derived.Shelf.Strconv.Itoa2
import Derived.Shelf.Strconv.Itoa3
import Derived.Shelf.Strconv.Itoa4
import Derived.Shelf.Strconv.ParseIntEmpty
import Derived.Shelf.Strconv.Clone
import Derived.Shelf.Strconv.SyntaxError
import Derived.Shelf.LaysC
import Derived.Shelf.Strconv.ToError
import Derived.Shelf.Strconv.Lower
import Derived.Shelf.Strconv.ParseUint10
import Derived.Shelf.Strconv.ParseUint10Empty
import Derived.Shelf.Strconv.ParseUint10Any
import Derived.Shelf.Strconv.ParseInt10
import Derived.Shelf.Strconv.RangeError
import Derived.Shelf.Strconv.ToErrorRange
import Derived.Shelf.Strconv.ParseUintEmpty
import Derived.Shelf.Strconv.ParseUint10b64
import Derived.Shelf.Strconv.ParseUint10b32
import Derived.Shelf.Strconv.ParseUint10b16
import Derived.Shelf.Strconv.ParseUint10b8
import Derived.Shelf.Strconv.ParseUint10At
import Derived.Shelf.Strconv.ParseInt10At64
import Derived.Shelf.Strconv.ParseInt10At32
import Derived.Shelf.Strconv.ParseInt10At16
import Derived.Shelf.Strconv.ParseInt10At8
import Derived.Shelf.Strconv.ParseInt10All
import Derived.Shelf.Strconv.ParseIntPublic10
import Derived.Shelf.Strconv.ErrVarParseInt
import Derived.Shelf.Strings.Search1
import Derived.Shelf.Strings.Search2
import Derived.Shelf.Strings.Search3
import Derived.Shelf.Strings.Cut
import Derived.Shelf.Strings.Count
import Derived.Shelf.Strings.Shaped
import Derived.Shelf.Sort.Plain
import Derived.Shelf.Strings.Split
import Derived.Shelf.Strings.SplitShaped
import Derived.Shelf.Unicode.Decode
import Derived.Shelf.Strings.RuneCount
import Derived.Shelf.Strings.Explode
import Derived.Shelf.Unicode.DecodeSlow
import Derived.Shelf.Slices.CompactS
import Derived.Shelf.Slices.Cells
import Derived.Shelf.Slices.In.SortNone
import Derived.Test.YtbamkklhkhglnaaGreatDoorProg
namespace Go.Proofs
open Go.Shelf
def Tryz.lays156_ren : Go.Shelf.Ren := ⟨fun | 156 => 124 | 165 => 162 | 166 => 163 | 169 => 164 | 240 => 188 | 241 => 189 | 276 => 199 | 277 => 200 | n => n, fun | 31 => 35 | 9 => 9 | 3 => 3 | 4 => 4 | 0 => 0 | 20 => 20 | 72 => 194 | 76 => 196 | 70 => 192 | 37 => 22 | 75 => 137 | 127 => 217 | 164 => 233 | 5 => 5 | 80 => 198 | n => n, fun | n => n⟩
theorem Tryz.lays156 : Go.Proofs.Lays.n156 Tryz.prog Tryz.lays156_ren := {
  mixed := by kernel_rfl
  f156 := Tryz.func124.trans (congrArg some (by kernel_rfl))
  f165 := Tryz.func162.trans (congrArg some (by kernel_rfl))
  f166 := Tryz.func163.trans (congrArg some (by kernel_rfl))
  f169 := Tryz.func164.trans (congrArg some (by kernel_rfl))
  f240 := Tryz.func188.trans (congrArg some (by kernel_rfl))
  f241 := Tryz.func189.trans (congrArg some (by kernel_rfl))
  f276 := Tryz.func199.trans (congrArg some (by kernel_rfl))
  f277 := Tryz.func200.trans (congrArg some (by kernel_rfl))
  t0 := Tryz.underlying0
  a0 := Tryz.isAgg0
  z0 := Tryz.sizeOf0
  v0 := Tryz.zeroValue0
  t3 := Tryz.underlying3
  a3 := Tryz.isAgg3
  z3 := Tryz.sizeOf3
  v3 := Tryz.zeroValue3
  t4 := Tryz.underlying4
  a4 := Tryz.isAgg4
  z4 := Tryz.sizeOf4
  v4 := Tryz.zeroValue4
  t9 := Tryz.underlying9
  a9 := Tryz.isAgg9
  z9 := Tryz.sizeOf9
  v9 := Tryz.zeroValue9
  t20 := Tryz.underlying20
  a20 := Tryz.isAgg20
  z20 := Tryz.sizeOf20
  v20 := Tryz.zeroValue20
  t31 := Tryz.underlying35
  a31 := Tryz.isAgg35
  z31 := Tryz.sizeOf35
  v31 := Tryz.zeroValue35
  t37 := Tryz.underlying22
  a37 := Tryz.isAgg22
  z37 := Tryz.sizeOf22
  v37 := Tryz.zeroValue22
  t70 := Tryz.underlying192
  a70 := Tryz.isAgg192
  z70 := Tryz.sizeOf192
  v70 := Tryz.zeroValue192
  t72 := Tryz.underlying194
  a72 := Tryz.isAgg194
  z72 := Tryz.sizeOf194
  v72 := Tryz.zeroValue194
  t75 := Tryz.underlying137
  a75 := Tryz.isAgg137
  z75 := Tryz.sizeOf137
  v75 := Tryz.zeroValue137
  t76 := Tryz.underlying196
  a76 := Tryz.isAgg196
  z76 := Tryz.sizeOf196
  v76 := Tryz.zeroValue196
  t127 := Tryz.underlying217
  a127 := Tryz.isAgg217
  z127 := Tryz.sizeOf217
  v127 := Tryz.zeroValue217
  t164 := Tryz.underlying233
  a164 := Tryz.isAgg233
  z164 := Tryz.sizeOf233
  v164 := Tryz.zeroValue233 }
theorem Tryz.Builder_Extra_156 : Builder.Extra Tryz.prog Tryz.lays156_ren := {
  sizeBuilder := by kernel_rfl
  liesBuilder := by kernel_rfl
  t5 := Tryz.underlying5
  a5 := Tryz.isAgg5
  z5 := Tryz.sizeOf5
  v5 := Tryz.zeroValue5
  infoByte := by kernel_rfl
  cellsByte := by kernel_rfl
  sizeByte := by kernel_rfl
  neB5 := by decide }
open Go.RowKit in
theorem Tryz.strings_Join_none (a : Option Addr) (c : Nat) (sep : ByteArray) (w : World) :
    Calls Tryz.prog 124 #[.slice a 0 c, .string sep] w fun e w' => e = .returned (.string ⟨#[]⟩) ∧ w' = w := Any.strings_Join_none Tryz.lays156 Tryz.Builder_Extra_156 a c sep w
open Go.RowKit in
theorem Tryz.strings_Join (bk o c : Nat) (xs : List ByteArray) (sep : ByteArray) (w : World) (hcells : ∀ (j : Nat) x, xs[j]? = some x → w.cell? ⟨bk, o + j, none⟩ = some (.string x)) (hbk : bk < w.heap.size) (hN : xs.length ≤ 140737488355328) (hcap : xs.length ≤ c) (hlen : (Lib.join (xs.map (·.data.toList)) sep.data.toList).length ≤ 140737488355328) :
    Calls Tryz.prog 124 #[.slice (some ⟨bk, o, none⟩) xs.length c, .string sep] w fun e w' => e = .returned (.string ⟨(Lib.join (xs.map (·.data.toList)) sep.data.toList).toArray⟩) ∧ Below w.heap.size w w' := Any.strings_Join Tryz.lays156 Tryz.Builder_Extra_156 bk o c xs sep w hcells hbk hN hcap hlen
def Tryz.lays137_ren : Go.Shelf.Ren := ⟨fun | 137 => 93 | 217 => 112 | 266 => 147 | n => n, fun | 9 => 9 | 5 => 5 | 3 => 3 | n => n, fun | n => n⟩
theorem Tryz.lays137 : Go.Proofs.Lays.n137 Tryz.prog Tryz.lays137_ren := {
  mixed := by kernel_rfl
  f137 := Tryz.func93.trans (congrArg some (by kernel_rfl))
  f217 := Tryz.func112.trans (congrArg some (by kernel_rfl))
  f266 := Tryz.func147.trans (congrArg some (by kernel_rfl))
  t3 := Tryz.underlying3
  a3 := Tryz.isAgg3
  z3 := Tryz.sizeOf3
  v3 := Tryz.zeroValue3
  t5 := Tryz.underlying5
  a5 := Tryz.isAgg5
  z5 := Tryz.sizeOf5
  v5 := Tryz.zeroValue5
  t9 := Tryz.underlying9
  a9 := Tryz.isAgg9
  z9 := Tryz.sizeOf9
  v9 := Tryz.zeroValue9 }
open Go.RowKit in
theorem Tryz.strings_IndexByte (s : ByteArray) (c : Int) (w : World) :
    Calls Tryz.prog 93 #[.string s, .int .u8 c] w fun e w' => e = .returned (.int .i64 (Lib.indexByte s.data.toList c.toNat.toUInt8)) ∧ w' = w := Any.strings_IndexByte Tryz.lays137 s c w
def Tryz.lays173_ren : Go.Shelf.Ren := ⟨fun | 173 => 123 | 246 => 161 | 283 => 184 | 284 => 185 | 285 => 186 | 286 => 187 | 129 => 74 | 317 => 195 | 318 => 196 | 319 => 197 | 320 => 198 | 337 => 202 | 338 => 203 | n => n, fun | 2 => 2 | 3 => 3 | 9 => 9 | 4 => 4 | 171 => 213 | 0 => 0 | 53 => 108 | 37 => 22 | 5 => 5 | 173 => 215 | 212 => 230 | 51 => 106 | 20 => 20 | 213 => 231 | 46 => 81 | 232 => 237 | 233 => 238 | n => n, fun | 17 => 5 | 18 => 6 | 19 => 7 | n => n⟩
theorem Tryz.lays173 : Go.Proofs.Lays.n173 Tryz.prog Tryz.lays173_ren := {
  mixed := by kernel_rfl
  f129 := Tryz.func74.trans (congrArg some (by kernel_rfl))
  f173 := Tryz.func123.trans (congrArg some (by kernel_rfl))
  f246 := Tryz.func161.trans (congrArg some (by kernel_rfl))
  f283 := Tryz.func184.trans (congrArg some (by kernel_rfl))
  f284 := Tryz.func185.trans (congrArg some (by kernel_rfl))
  f285 := Tryz.func186.trans (congrArg some (by kernel_rfl))
  f286 := Tryz.func187.trans (congrArg some (by kernel_rfl))
  f317 := Tryz.func195.trans (congrArg some (by kernel_rfl))
  f318 := Tryz.func196.trans (congrArg some (by kernel_rfl))
  f319 := Tryz.func197.trans (congrArg some (by kernel_rfl))
  f320 := Tryz.func198.trans (congrArg some (by kernel_rfl))
  f337 := Tryz.func202.trans (congrArg some (by kernel_rfl))
  f338 := Tryz.func203.trans (congrArg some (by kernel_rfl))
  t0 := Tryz.underlying0
  a0 := Tryz.isAgg0
  z0 := Tryz.sizeOf0
  v0 := Tryz.zeroValue0
  t2 := Tryz.underlying2
  a2 := Tryz.isAgg2
  z2 := Tryz.sizeOf2
  v2 := Tryz.zeroValue2
  t3 := Tryz.underlying3
  a3 := Tryz.isAgg3
  z3 := Tryz.sizeOf3
  v3 := Tryz.zeroValue3
  t4 := Tryz.underlying4
  a4 := Tryz.isAgg4
  z4 := Tryz.sizeOf4
  v4 := Tryz.zeroValue4
  t5 := Tryz.underlying5
  a5 := Tryz.isAgg5
  z5 := Tryz.sizeOf5
  v5 := Tryz.zeroValue5
  t9 := Tryz.underlying9
  a9 := Tryz.isAgg9
  z9 := Tryz.sizeOf9
  v9 := Tryz.zeroValue9
  t20 := Tryz.underlying20
  a20 := Tryz.isAgg20
  z20 := Tryz.sizeOf20
  v20 := Tryz.zeroValue20
  t37 := Tryz.underlying22
  a37 := Tryz.isAgg22
  z37 := Tryz.sizeOf22
  v37 := Tryz.zeroValue22
  t46 := Tryz.underlying81
  a46 := Tryz.isAgg81
  z46 := Tryz.sizeOf81
  v46 := Tryz.zeroValue81
  t51 := Tryz.underlying106
  a51 := Tryz.isAgg106
  z51 := Tryz.sizeOf106
  v51 := Tryz.zeroValue106
  t53 := Tryz.underlying108
  a53 := Tryz.isAgg108
  z53 := Tryz.sizeOf108
  v53 := Tryz.zeroValue108
  t171 := Tryz.underlying213
  a171 := Tryz.isAgg213
  z171 := Tryz.sizeOf213
  v171 := Tryz.zeroValue213
  t173 := Tryz.underlying215
  a173 := Tryz.isAgg215
  z173 := Tryz.sizeOf215
  v173 := Tryz.zeroValue215
  t212 := Tryz.underlying230
  a212 := Tryz.isAgg230
  z212 := Tryz.sizeOf230
  v212 := Tryz.zeroValue230
  t213 := Tryz.underlying231
  a213 := Tryz.isAgg231
  z213 := Tryz.sizeOf231
  t232 := Tryz.underlying237
  a232 := Tryz.isAgg237
  z232 := Tryz.sizeOf237
  v232 := Tryz.zeroValue237
  t233 := Tryz.underlying238
  a233 := Tryz.isAgg238
  z233 := Tryz.sizeOf238
  v233 := Tryz.zeroValue238
  g17 := by kernel_rfl
  g18 := by kernel_rfl
  g19 := by kernel_rfl }
open Go.RowKit Go.Sort Go.Lib in
theorem Tryz.strconv_FormatInt_10_small (i : Nat) (hi : i < 100) (w : World) :
    Calls Tryz.prog 123 #[.int .i64 i, .int .i64 10] w fun e w' => e = .returned (.string ⟨(Lib.decDigits i).toArray⟩) ∧ w' = w := Any.strconv_FormatInt_10_small Tryz.lays173 i hi w
def Tryz.laysC174_ren : Go.Shelf.Ren := ⟨fun | 174 => 96 | 247 => 115 | 245 => 116 | 287 => 153 | 279 => 154 | 280 => 155 | 281 => 156 | 282 => 157 | 321 => 176 | 322 => 177 | 316 => 178 | 171 => 180 | 205 => 179 | 243 => 193 | 246 => 161 | 283 => 184 | 284 => 185 | 285 => 186 | 286 => 187 | 129 => 74 | 317 => 195 | 318 => 196 | 319 => 197 | 320 => 198 | 337 => 202 | 338 => 203 | n => n, fun | 9 => 9 | 3 => 3 | 2 => 2 | 75 => 137 | 85 => 138 | 4 => 4 | 167 => 184 | 5 => 5 | 53 => 108 | 175 => 185 | 46 => 81 | 168 => 187 | 37 => 22 | 0 => 0 | 210 => 210 | 21 => 21 | 127 => 217 | 145 => 226 | 143 => 224 | 171 => 213 | 173 => 215 | 212 => 230 | 51 => 106 | 20 => 20 | 213 => 231 | 232 => 237 | 233 => 238 | 80 => 198 | n => n, fun | 15 => 1 | 16 => 2 | 17 => 5 | 18 => 6 | 19 => 7 | n => n⟩
theorem Tryz.laysC174 : Go.Proofs.LaysC.n174 Tryz.prog Tryz.laysC174_ren := {
  mixed := by kernel_rfl
  f129 := Tryz.func74.trans (congrArg some (by kernel_rfl))
  f171 := Tryz.func180.trans (congrArg some (by kernel_rfl))
  f174 := Tryz.func96.trans (congrArg some (by kernel_rfl))
  f205 := Tryz.func179.trans (congrArg some (by kernel_rfl))
  f243 := Tryz.func193.trans (congrArg some (by kernel_rfl))
  f245 := Tryz.func116.trans (congrArg some (by kernel_rfl))
  f246 := Tryz.func161.trans (congrArg some (by kernel_rfl))
  f247 := Tryz.func115.trans (congrArg some (by kernel_rfl))
  f279 := Tryz.func154.trans (congrArg some (by kernel_rfl))
  f280 := Tryz.func155.trans (congrArg some (by kernel_rfl))
  f281 := Tryz.func156.trans (congrArg some (by kernel_rfl))
  f282 := Tryz.func157.trans (congrArg some (by kernel_rfl))
  f283 := Tryz.func184.trans (congrArg some (by kernel_rfl))
  f284 := Tryz.func185.trans (congrArg some (by kernel_rfl))
  f285 := Tryz.func186.trans (congrArg some (by kernel_rfl))
  f286 := Tryz.func187.trans (congrArg some (by kernel_rfl))
  f287 := Tryz.func153.trans (congrArg some (by kernel_rfl))
  f316 := Tryz.func178.trans (congrArg some (by kernel_rfl))
  f317 := Tryz.func195.trans (congrArg some (by kernel_rfl))
  f318 := Tryz.func196.trans (congrArg some (by kernel_rfl))
  f319 := Tryz.func197.trans (congrArg some (by kernel_rfl))
  f320 := Tryz.func198.trans (congrArg some (by kernel_rfl))
  f321 := Tryz.func176.trans (congrArg some (by kernel_rfl))
  f322 := Tryz.func177.trans (congrArg some (by kernel_rfl))
  f337 := Tryz.func202.trans (congrArg some (by kernel_rfl))
  f338 := Tryz.func203.trans (congrArg some (by kernel_rfl))
  t0 := Tryz.underlying0
  a0 := Tryz.isAgg0
  z0 := Tryz.sizeOf0
  v0 := Tryz.zeroValue0
  t2 := Tryz.underlying2
  a2 := Tryz.isAgg2
  z2 := Tryz.sizeOf2
  v2 := Tryz.zeroValue2
  t3 := Tryz.underlying3
  a3 := Tryz.isAgg3
  z3 := Tryz.sizeOf3
  v3 := Tryz.zeroValue3
  t4 := Tryz.underlying4
  a4 := Tryz.isAgg4
  z4 := Tryz.sizeOf4
  v4 := Tryz.zeroValue4
  t5 := Tryz.underlying5
  a5 := Tryz.isAgg5
  z5 := Tryz.sizeOf5
  v5 := Tryz.zeroValue5
  t9 := Tryz.underlying9
  a9 := Tryz.isAgg9
  z9 := Tryz.sizeOf9
  v9 := Tryz.zeroValue9
  t20 := Tryz.underlying20
  a20 := Tryz.isAgg20
  z20 := Tryz.sizeOf20
  v20 := Tryz.zeroValue20
  t21 := Tryz.underlying21
  a21 := Tryz.isAgg21
  z21 := Tryz.sizeOf21
  v21 := Tryz.zeroValue21
  t37 := Tryz.underlying22
  a37 := Tryz.isAgg22
  z37 := Tryz.sizeOf22
  v37 := Tryz.zeroValue22
  t46 := Tryz.underlying81
  a46 := Tryz.isAgg81
  z46 := Tryz.sizeOf81
  v46 := Tryz.zeroValue81
  t51 := Tryz.underlying106
  a51 := Tryz.isAgg106
  z51 := Tryz.sizeOf106
  v51 := Tryz.zeroValue106
  t53 := Tryz.underlying108
  a53 := Tryz.isAgg108
  z53 := Tryz.sizeOf108
  v53 := Tryz.zeroValue108
  t75 := Tryz.underlying137
  a75 := Tryz.isAgg137
  z75 := Tryz.sizeOf137
  v75 := Tryz.zeroValue137
  t85 := Tryz.underlying138
  a85 := Tryz.isAgg138
  z85 := Tryz.sizeOf138
  v85 := Tryz.zeroValue138
  t127 := Tryz.underlying217
  a127 := Tryz.isAgg217
  z127 := Tryz.sizeOf217
  v127 := Tryz.zeroValue217
  t143 := Tryz.underlying224
  a143 := Tryz.isAgg224
  z143 := Tryz.sizeOf224
  v143 := Tryz.zeroValue224
  t145 := Tryz.underlying226
  a145 := Tryz.isAgg226
  z145 := Tryz.sizeOf226
  v145 := Tryz.zeroValue226
  t167 := Tryz.underlying184
  a167 := Tryz.isAgg184
  z167 := Tryz.sizeOf184
  v167 := Tryz.zeroValue184
  t168 := Tryz.underlying187
  a168 := Tryz.isAgg187
  z168 := Tryz.sizeOf187
  v168 := Tryz.zeroValue187
  t171 := Tryz.underlying213
  a171 := Tryz.isAgg213
  z171 := Tryz.sizeOf213
  v171 := Tryz.zeroValue213
  t173 := Tryz.underlying215
  a173 := Tryz.isAgg215
  z173 := Tryz.sizeOf215
  v173 := Tryz.zeroValue215
  t175 := Tryz.underlying185
  a175 := Tryz.isAgg185
  z175 := Tryz.sizeOf185
  v175 := Tryz.zeroValue185
  t210 := Tryz.underlying210
  a210 := Tryz.isAgg210
  z210 := Tryz.sizeOf210
  v210 := Tryz.zeroValue210
  t212 := Tryz.underlying230
  a212 := Tryz.isAgg230
  z212 := Tryz.sizeOf230
  v212 := Tryz.zeroValue230
  t213 := Tryz.underlying231
  a213 := Tryz.isAgg231
  z213 := Tryz.sizeOf231
  t232 := Tryz.underlying237
  a232 := Tryz.isAgg237
  z232 := Tryz.sizeOf237
  v232 := Tryz.zeroValue237
  t233 := Tryz.underlying238
  a233 := Tryz.isAgg238
  z233 := Tryz.sizeOf238
  v233 := Tryz.zeroValue238
  g15 := by kernel_rfl
  g16 := by kernel_rfl
  g17 := by kernel_rfl
  g18 := by kernel_rfl
  g19 := by kernel_rfl
  t80 := Tryz.underlying198
  a80 := Tryz.isAgg198
  z80 := Tryz.sizeOf198
  v80 := Tryz.zeroValue198
  i0 := by kernel_rfl
  i2 := by kernel_rfl
  i3 := by kernel_rfl
  i4 := by kernel_rfl
  i5 := by kernel_rfl
  i9 := by kernel_rfl
  i20 := by kernel_rfl
  i21 := by kernel_rfl
  i37 := by kernel_rfl
  i46 := by kernel_rfl
  i51 := by kernel_rfl
  i53 := by kernel_rfl
  i75 := by kernel_rfl
  i80 := by kernel_rfl
  i85 := by kernel_rfl
  i127 := by kernel_rfl
  i143 := by kernel_rfl
  i145 := by kernel_rfl
  i167 := by kernel_rfl
  i168 := by kernel_rfl
  i171 := by kernel_rfl
  i173 := by kernel_rfl
  i175 := by kernel_rfl
  i210 := by kernel_rfl
  i212 := by kernel_rfl
  i232 := by kernel_rfl
  i233 := by kernel_rfl
  m15 := by kernel_rfl
  m16 := by kernel_rfl
  m17 := by kernel_rfl
  m18 := by kernel_rfl
  m19 := by kernel_rfl
  c0 := by kernel_rfl
  c2 := by kernel_rfl
  c3 := by kernel_rfl
  c4 := by kernel_rfl
  c5 := by kernel_rfl
  c9 := by kernel_rfl
  c20 := by kernel_rfl
  c21 := by kernel_rfl
  c37 := by kernel_rfl
  c46 := by kernel_rfl
  c51 := by kernel_rfl
  c53 := by kernel_rfl
  c75 := by kernel_rfl
  c80 := by kernel_rfl
  c85 := by kernel_rfl
  c127 := by kernel_rfl
  c143 := by kernel_rfl
  c145 := by kernel_rfl
  c167 := by kernel_rfl
  c168 := by kernel_rfl
  c171 := by kernel_rfl
  c173 := by kernel_rfl
  c175 := by kernel_rfl
  c210 := by kernel_rfl
  c212 := by kernel_rfl
  c213 := by kernel_rfl
  c232 := by kernel_rfl
  c233 := by kernel_rfl }
open Go.RowKit in
theorem Tryz.strconv_ParseInt_10_at64_ok (s : ByteArray) (hmax : s.size ≤ 9223372036854775806) (v : Int) (h : Lib.parseIntB 64 s.data.toList = .ok v) (w : World) :
    Calls Tryz.prog 96 #[.string s, .int .i64 10, .int .i64 64] w fun e w' => e = .returned (.tuple #[.int .i64 v, .nilIface]) ∧ (w' = w ∨ ∃ t, w' = Lib.bytesWorld w 5 t) := Any.strconv_ParseInt_10_at64_ok Tryz.laysC174 s hmax v h w
open Go.RowKit in
theorem Tryz.strconv_ParseInt_bad (s : ByteArray) (hlim : s.size ≤ 281474976710656) (h : Lib.parseIntB 64 s.data.toList = Lib.parseIntB 64 []) (tp : TypeId) (p : Value) (w : World) (hvar : w.var? Tryz.prog "strconv.ErrSyntax" = some #[.iface tp p]) :
    Calls Tryz.prog 96 #[.string s, .int .i64 10, .int .i64 64] w fun e w' => ∃ N, e = .returned (.tuple #[.int .i64 (0), .iface 187 (.pointer (some ⟨N, 0, none⟩))]) ∧ w.heap.size ≤ N ∧ w'.heap[N]? = some (.cells #[.string ⟨#[80, 97, 114, 115, 101, 73, 110, 116]⟩, .string s, .iface tp p] 210 (0, 0)) ∧ Below w.heap.size w w' := Any.strconv_ParseInt_10_at64_syntax_var Tryz.laysC174 s hlim (h.trans rfl) tp p w hvar
open Go.RowKit in
theorem Tryz.strconv_ParseInt_10_at64_range_var (s : ByteArray) (hlim : s.size ≤ 281474976710656) (h : Lib.parseIntB 64 s.data.toList = .range) (tp : TypeId) (p : Value) (w : World) (hvar : w.var? Tryz.prog "strconv.ErrRange" = some #[.iface tp p]) :
    Calls Tryz.prog 96 #[.string s, .int .i64 10, .int .i64 64] w fun e w' => ∃ N, e = .returned (.tuple #[.int .i64 (Lib.intSat 64 s.data.toList), .iface 187 (.pointer (some ⟨N, 0, none⟩))]) ∧ w.heap.size ≤ N ∧ w'.heap[N]? = some (.cells #[.string ⟨#[80, 97, 114, 115, 101, 73, 110, 116]⟩, .string s, .iface tp p] 210 (0, 0)) ∧ Below w.heap.size w w' := Any.strconv_ParseInt_10_at64_range_var Tryz.laysC174 s hlim h tp p w hvar
def Tryz.lays143_ren : Go.Shelf.Ren := ⟨fun | 143 => 150 | 219 => 158 | 217 => 112 | 225 => 181 | 224 => 182 | 267 => 183 | 266 => 147 | 314 => 194 | n => n, fun | 9 => 9 | 3 => 3 | 4 => 4 | 5 => 5 | 46 => 81 | 146 => 227 | 51 => 106 | n => n, fun | 1 => 0 | n => n⟩
theorem Tryz.lays143 : Go.Proofs.Lays.n143 Tryz.prog Tryz.lays143_ren := {
  mixed := by kernel_rfl
  f143 := Tryz.func150.trans (congrArg some (by kernel_rfl))
  f217 := Tryz.func112.trans (congrArg some (by kernel_rfl))
  f219 := Tryz.func158.trans (congrArg some (by kernel_rfl))
  f224 := Tryz.func182.trans (congrArg some (by kernel_rfl))
  f225 := Tryz.func181.trans (congrArg some (by kernel_rfl))
  f266 := Tryz.func147.trans (congrArg some (by kernel_rfl))
  f267 := Tryz.func183.trans (congrArg some (by kernel_rfl))
  f314 := Tryz.func194.trans (congrArg some (by kernel_rfl))
  t3 := Tryz.underlying3
  a3 := Tryz.isAgg3
  z3 := Tryz.sizeOf3
  v3 := Tryz.zeroValue3
  t4 := Tryz.underlying4
  a4 := Tryz.isAgg4
  z4 := Tryz.sizeOf4
  v4 := Tryz.zeroValue4
  t5 := Tryz.underlying5
  a5 := Tryz.isAgg5
  z5 := Tryz.sizeOf5
  v5 := Tryz.zeroValue5
  t9 := Tryz.underlying9
  a9 := Tryz.isAgg9
  z9 := Tryz.sizeOf9
  v9 := Tryz.zeroValue9
  t46 := Tryz.underlying81
  a46 := Tryz.isAgg81
  z46 := Tryz.sizeOf81
  v46 := Tryz.zeroValue81
  t51 := Tryz.underlying106
  a51 := Tryz.isAgg106
  z51 := Tryz.sizeOf106
  v51 := Tryz.zeroValue106
  t146 := Tryz.underlying227
  a146 := Tryz.isAgg227
  z146 := Tryz.sizeOf227
  v146 := Tryz.zeroValue227
  g1 := by kernel_rfl }
open Go.RowKit Go.Lib in
theorem Tryz.strings_Index_one (s : ByteArray) (c : UInt8) (w : World) :
    Calls Tryz.prog 150 #[.string s, .string ⟨#[c]⟩] w fun e w' => e = .returned (.int .i64 (Lib.indexByte s.data.toList c)) ∧ w' = w := Any.strings_Index_one Tryz.lays143 s c w
open Go.RowKit Go.Lib in
theorem Tryz.strings_Index (s sub : ByteArray) (m : Int) (w : World) (hs : s.size < 4294967281) (hm : w.cell? ⟨0, 0, none⟩ = some (.int .i64 m)) :
    Calls Tryz.prog 150 #[.string s, .string sub] w fun e w' => e = .returned (.int .i64 (Lib.index s.data.toList sub.data.toList)) ∧ w' = w := Any.strings_Index Tryz.lays143 s sub m w hs hm
def Tryz.lays145_ren : Go.Shelf.Ren := ⟨fun | 145 => 98 | 220 => 119 | 219 => 158 | 217 => 112 | 225 => 181 | 224 => 182 | 267 => 183 | 266 => 147 | 314 => 194 | n => n, fun | 9 => 9 | 4 => 4 | 59 => 141 | 3 => 3 | 5 => 5 | 46 => 81 | 146 => 227 | 51 => 106 | n => n, fun | 1 => 0 | n => n⟩
theorem Tryz.lays145 : Go.Proofs.Lays.n145 Tryz.prog Tryz.lays145_ren := {
  mixed := by kernel_rfl
  f145 := Tryz.func98.trans (congrArg some (by kernel_rfl))
  f217 := Tryz.func112.trans (congrArg some (by kernel_rfl))
  f219 := Tryz.func158.trans (congrArg some (by kernel_rfl))
  f220 := Tryz.func119.trans (congrArg some (by kernel_rfl))
  f224 := Tryz.func182.trans (congrArg some (by kernel_rfl))
  f225 := Tryz.func181.trans (congrArg some (by kernel_rfl))
  f266 := Tryz.func147.trans (congrArg some (by kernel_rfl))
  f267 := Tryz.func183.trans (congrArg some (by kernel_rfl))
  f314 := Tryz.func194.trans (congrArg some (by kernel_rfl))
  t3 := Tryz.underlying3
  a3 := Tryz.isAgg3
  z3 := Tryz.sizeOf3
  v3 := Tryz.zeroValue3
  t4 := Tryz.underlying4
  a4 := Tryz.isAgg4
  z4 := Tryz.sizeOf4
  v4 := Tryz.zeroValue4
  t5 := Tryz.underlying5
  a5 := Tryz.isAgg5
  z5 := Tryz.sizeOf5
  v5 := Tryz.zeroValue5
  t9 := Tryz.underlying9
  a9 := Tryz.isAgg9
  z9 := Tryz.sizeOf9
  v9 := Tryz.zeroValue9
  t46 := Tryz.underlying81
  a46 := Tryz.isAgg81
  z46 := Tryz.sizeOf81
  v46 := Tryz.zeroValue81
  t51 := Tryz.underlying106
  a51 := Tryz.isAgg106
  z51 := Tryz.sizeOf106
  v51 := Tryz.zeroValue106
  t59 := Tryz.underlying141
  a59 := Tryz.isAgg141
  z59 := Tryz.sizeOf141
  v59 := Tryz.zeroValue141
  t146 := Tryz.underlying227
  a146 := Tryz.isAgg227
  z146 := Tryz.sizeOf227
  v146 := Tryz.zeroValue227
  g1 := by kernel_rfl }
open Go.RowKit Go.Lib in
theorem Tryz.strings_Cut (s sep : ByteArray) (m : Int) (w : World) (hs : s.size < 4294967281) (hm : w.cell? ⟨0, 0, none⟩ = some (.int .i64 m)) :
    Calls Tryz.prog 98 #[.string s, .string sep] w fun e w' => e = .returned (.tuple #[.string ⟨(Lib.cut s.data.toList sep.data.toList).1.toArray⟩, .string ⟨(Lib.cut s.data.toList sep.data.toList).2.1.toArray⟩, .bool (Lib.cut s.data.toList sep.data.toList).2.2]) ∧ ∃ n, w' = w.drewN n := Any.strings_Cut Tryz.lays145 s sep m w hs hm
def Tryz.lays190_ren : Go.Shelf.Ren := ⟨fun | 190 => 37 | 125 => 51 | 258 => 50 | 128 => 73 | 129 => 74 | 302 => 64 | 303 => 65 | 304 => 66 | 305 => 67 | 306 => 68 | 307 => 69 | 308 => 70 | 309 => 71 | 310 => 72 | 333 => 87 | 329 => 88 | 330 => 89 | 334 => 90 | 335 => 91 | 336 => 92 | 344 => 111 | n => n, fun | 31 => 35 | 9 => 9 | 3 => 3 | 46 => 81 | 0 => 0 | 51 => 106 | 53 => 108 | 4 => 4 | 183 => 98 | 182 => 97 | 131 => 103 | 5 => 5 | 218 => 125 | 222 => 129 | 228 => 156 | 229 => 157 | n => n, fun | n => n⟩
theorem Tryz.lays190 : Go.Proofs.Lays.n190 Tryz.prog Tryz.lays190_ren := {
  mixed := by kernel_rfl
  f125 := Tryz.func51.trans (congrArg some (by kernel_rfl))
  f128 := Tryz.func73.trans (congrArg some (by kernel_rfl))
  f129 := Tryz.func74.trans (congrArg some (by kernel_rfl))
  f190 := Tryz.func37.trans (congrArg some (by kernel_rfl))
  f258 := Tryz.func50.trans (congrArg some (by kernel_rfl))
  f302 := Tryz.func64.trans (congrArg some (by kernel_rfl))
  f303 := Tryz.func65.trans (congrArg some (by kernel_rfl))
  f304 := Tryz.func66.trans (congrArg some (by kernel_rfl))
  f305 := Tryz.func67.trans (congrArg some (by kernel_rfl))
  f306 := Tryz.func68.trans (congrArg some (by kernel_rfl))
  f307 := Tryz.func69.trans (congrArg some (by kernel_rfl))
  f308 := Tryz.func70.trans (congrArg some (by kernel_rfl))
  f309 := Tryz.func71.trans (congrArg some (by kernel_rfl))
  f310 := Tryz.func72.trans (congrArg some (by kernel_rfl))
  f329 := Tryz.func88.trans (congrArg some (by kernel_rfl))
  f330 := Tryz.func89.trans (congrArg some (by kernel_rfl))
  f333 := Tryz.func87.trans (congrArg some (by kernel_rfl))
  f334 := Tryz.func90.trans (congrArg some (by kernel_rfl))
  f335 := Tryz.func91.trans (congrArg some (by kernel_rfl))
  f336 := Tryz.func92.trans (congrArg some (by kernel_rfl))
  f344 := Tryz.func111.trans (congrArg some (by kernel_rfl))
  t0 := Tryz.underlying0
  a0 := Tryz.isAgg0
  z0 := Tryz.sizeOf0
  v0 := Tryz.zeroValue0
  t3 := Tryz.underlying3
  a3 := Tryz.isAgg3
  z3 := Tryz.sizeOf3
  v3 := Tryz.zeroValue3
  t4 := Tryz.underlying4
  a4 := Tryz.isAgg4
  z4 := Tryz.sizeOf4
  v4 := Tryz.zeroValue4
  t5 := Tryz.underlying5
  a5 := Tryz.isAgg5
  z5 := Tryz.sizeOf5
  v5 := Tryz.zeroValue5
  t9 := Tryz.underlying9
  a9 := Tryz.isAgg9
  z9 := Tryz.sizeOf9
  v9 := Tryz.zeroValue9
  t31 := Tryz.underlying35
  a31 := Tryz.isAgg35
  z31 := Tryz.sizeOf35
  v31 := Tryz.zeroValue35
  t46 := Tryz.underlying81
  a46 := Tryz.isAgg81
  z46 := Tryz.sizeOf81
  v46 := Tryz.zeroValue81
  t51 := Tryz.underlying106
  a51 := Tryz.isAgg106
  z51 := Tryz.sizeOf106
  v51 := Tryz.zeroValue106
  t53 := Tryz.underlying108
  a53 := Tryz.isAgg108
  z53 := Tryz.sizeOf108
  v53 := Tryz.zeroValue108
  t131 := Tryz.underlying103
  a131 := Tryz.isAgg103
  z131 := Tryz.sizeOf103
  v131 := Tryz.zeroValue103
  t182 := Tryz.underlying97
  a182 := Tryz.isAgg97
  z182 := Tryz.sizeOf97
  v182 := Tryz.zeroValue97
  t183 := Tryz.underlying98
  a183 := Tryz.isAgg98
  z183 := Tryz.sizeOf98
  v183 := Tryz.zeroValue98
  t218 := Tryz.underlying125
  a218 := Tryz.isAgg125
  z218 := Tryz.sizeOf125
  v218 := Tryz.zeroValue125
  t222 := Tryz.underlying129
  a222 := Tryz.isAgg129
  z222 := Tryz.sizeOf129
  v222 := Tryz.zeroValue129
  t228 := Tryz.underlying156
  a228 := Tryz.isAgg156
  z228 := Tryz.sizeOf156
  v228 := Tryz.zeroValue156
  t229 := Tryz.underlying157
  a229 := Tryz.isAgg157
  z229 := Tryz.sizeOf157
  v229 := Tryz.zeroValue157 }
open Go.Sort Go.RowKit in
theorem Tryz.slices_Sort_string (blk off cap : Nat) (ss : List (List UInt8)) (w : World) (hH : Holds encStr w blk off ss.toArray) (hblk : blk < w.heap.size) (hsz : ss.length < 4611686018427387904) :
    Calls Tryz.prog 37 #[.slice (some ⟨blk, off, none⟩) ss.length cap] w fun e w' =>
      e = .returned (.tuple #[]) ∧ ∃ n os, w' = grow (putRow encStr (Sort.ahead w n) blk off (ss.mergeSort fun x y => decide (x ≤ y)).toArray) os := Any.slices_Sort_string Tryz.lays190 blk off cap ss w hH hblk hsz
def Tryz.lays146_ren : Go.Shelf.Ren := ⟨fun | 146 => 95 | 221 => 114 | 268 => 151 | 138 => 152 | 143 => 150 | 195 => 174 | 197 => 149 | 218 => 175 | 219 => 158 | 260 => 173 | 217 => 112 | 225 => 181 | 224 => 182 | 267 => 183 | 266 => 147 | 314 => 194 | n => n, fun | 9 => 9 | 31 => 35 | 3 => 3 | 4 => 4 | 0 => 0 | 105 => 180 | 21 => 21 | 5 => 5 | 46 => 81 | 119 => 220 | 139 => 223 | 138 => 222 | 146 => 227 | 51 => 106 | n => n, fun | 1 => 0 | 3 => 3 | 4 => 4 | n => n⟩
theorem Tryz.lays146 : Go.Proofs.Lays.n146 Tryz.prog Tryz.lays146_ren := {
  mixed := by kernel_rfl
  f138 := Tryz.func152.trans (congrArg some (by kernel_rfl))
  f143 := Tryz.func150.trans (congrArg some (by kernel_rfl))
  f146 := Tryz.func95.trans (congrArg some (by kernel_rfl))
  f195 := Tryz.func174.trans (congrArg some (by kernel_rfl))
  f197 := Tryz.func149.trans (congrArg some (by kernel_rfl))
  f217 := Tryz.func112.trans (congrArg some (by kernel_rfl))
  f218 := Tryz.func175.trans (congrArg some (by kernel_rfl))
  f219 := Tryz.func158.trans (congrArg some (by kernel_rfl))
  f221 := Tryz.func114.trans (congrArg some (by kernel_rfl))
  f224 := Tryz.func182.trans (congrArg some (by kernel_rfl))
  f225 := Tryz.func181.trans (congrArg some (by kernel_rfl))
  f260 := Tryz.func173.trans (congrArg some (by kernel_rfl))
  f266 := Tryz.func147.trans (congrArg some (by kernel_rfl))
  f267 := Tryz.func183.trans (congrArg some (by kernel_rfl))
  f268 := Tryz.func151.trans (congrArg some (by kernel_rfl))
  f314 := Tryz.func194.trans (congrArg some (by kernel_rfl))
  t0 := Tryz.underlying0
  a0 := Tryz.isAgg0
  z0 := Tryz.sizeOf0
  v0 := Tryz.zeroValue0
  t3 := Tryz.underlying3
  a3 := Tryz.isAgg3
  z3 := Tryz.sizeOf3
  v3 := Tryz.zeroValue3
  t4 := Tryz.underlying4
  a4 := Tryz.isAgg4
  z4 := Tryz.sizeOf4
  v4 := Tryz.zeroValue4
  t5 := Tryz.underlying5
  a5 := Tryz.isAgg5
  z5 := Tryz.sizeOf5
  v5 := Tryz.zeroValue5
  t9 := Tryz.underlying9
  a9 := Tryz.isAgg9
  z9 := Tryz.sizeOf9
  v9 := Tryz.zeroValue9
  t21 := Tryz.underlying21
  a21 := Tryz.isAgg21
  z21 := Tryz.sizeOf21
  v21 := Tryz.zeroValue21
  t31 := Tryz.underlying35
  a31 := Tryz.isAgg35
  z31 := Tryz.sizeOf35
  v31 := Tryz.zeroValue35
  t46 := Tryz.underlying81
  a46 := Tryz.isAgg81
  z46 := Tryz.sizeOf81
  v46 := Tryz.zeroValue81
  t51 := Tryz.underlying106
  a51 := Tryz.isAgg106
  z51 := Tryz.sizeOf106
  v51 := Tryz.zeroValue106
  t105 := Tryz.underlying180
  a105 := Tryz.isAgg180
  z105 := Tryz.sizeOf180
  v105 := Tryz.zeroValue180
  t119 := Tryz.underlying220
  a119 := Tryz.isAgg220
  z119 := Tryz.sizeOf220
  t138 := Tryz.underlying222
  a138 := Tryz.isAgg222
  z138 := Tryz.sizeOf222
  v138 := Tryz.zeroValue222
  t139 := Tryz.underlying223
  a139 := Tryz.isAgg223
  z139 := Tryz.sizeOf223
  v139 := Tryz.zeroValue223
  t146 := Tryz.underlying227
  a146 := Tryz.isAgg227
  z146 := Tryz.sizeOf227
  v146 := Tryz.zeroValue227
  g1 := by kernel_rfl
  g3 := by kernel_rfl
  g4 := by kernel_rfl }
open Go.RowKit Go.Lib in
theorem Tryz.strings_Split (s sep : ByteArray) (m : Int) (w : World) (hs : s.size < 4294967281) (hm : w.cell? ⟨0, 0, none⟩ = some (.int .i64 m)) (h1 : 1 ≤ sep.size) :
    Calls Tryz.prog 95 #[.string s, .string sep] w fun e w' =>
      e = .returned (.slice (some ⟨w.heap.size, 0, none⟩) (Lib.countB s sep + 1) (Lib.countB s sep + 1)) ∧ w' = w.alloc (.cells ((Lib.splitB sep 0 (Lib.countB s sep) s).map Value.string).toArray 9) := Any.strings_Split Tryz.lays146 (by kernel_rfl) s sep m w hs hm h1
def Tryz.lays194_ren : Go.Shelf.Ren := ⟨fun | 194 => 38 | n => n, fun | 31 => 35 | 9 => 9 | 3 => 3 | 4 => 4 | 0 => 0 | n => n, fun | n => n⟩
theorem Tryz.lays194 : Go.Proofs.Lays.n194 Tryz.prog Tryz.lays194_ren := {
  mixed := by kernel_rfl
  f194 := Tryz.func38.trans (congrArg some (by kernel_rfl))
  t0 := Tryz.underlying0
  a0 := Tryz.isAgg0
  z0 := Tryz.sizeOf0
  v0 := Tryz.zeroValue0
  t3 := Tryz.underlying3
  a3 := Tryz.isAgg3
  z3 := Tryz.sizeOf3
  v3 := Tryz.zeroValue3
  t4 := Tryz.underlying4
  a4 := Tryz.isAgg4
  z4 := Tryz.sizeOf4
  v4 := Tryz.zeroValue4
  t9 := Tryz.underlying9
  a9 := Tryz.isAgg9
  z9 := Tryz.sizeOf9
  v9 := Tryz.zeroValue9
  t31 := Tryz.underlying35
  a31 := Tryz.isAgg35
  z31 := Tryz.sizeOf35
  v31 := Tryz.zeroValue35 }
open Go.RowKit Go.Lib Go.Sort in
theorem Tryz.slices_Compact_string_empty (a : Option Addr) (cap : Nat) (w : World) :
    Calls Tryz.prog 38 #[.slice a 0 cap] w fun e w' => e = .returned (.slice a 0 cap) ∧ w' = w := Any.slices_Compact_string_empty Tryz.lays194 a cap w
open Go.RowKit Go.Lib Go.Sort in
theorem Tryz.slices_Compact_string_cells (b off n c : Nat) (Sx : Nat → ByteArray) (w : World) (hbig : n ≤ 9223372036854775807) (hcap : n ≤ c) (hc : ∀ i, i < n → w.cell? ⟨b, off + i, none⟩ = some (.string (Sx i))) (hf : ∀ j, j < n → w.frozen? ⟨b, off + j, none⟩ = false) :
    Calls Tryz.prog 38 #[.slice (some ⟨b, off, none⟩) n c] w fun e w' => e = .returned (.slice (some ⟨b, off, none⟩) (Lib.compact (Lib.strsOf Sx n)).length c) ∧ ∃ q, w' = (w.drewN q).setCells b off ((Lib.compact (Lib.strsOf Sx n) ++ List.replicate (n - (Lib.compact (Lib.strsOf Sx n)).length) []).map encStr) := Any.slices_Compact_string_cells Tryz.lays194 b off n c Sx w hbig hcap hc hf
open Go.RowKit Go.Sort in
theorem Tryz.slices_Sort_string_none (p : Option Addr) (cap : Nat) (w : World) :
    Calls Tryz.prog 37 #[.slice p 0 cap] w fun e w' => e = .returned (.tuple #[]) ∧ w' = w := Any.slices_Sort_string_none Tryz.lays190 p cap w
end Go.Proofs
