/- The library's contracts that these proofs use, at this translation's numbers (laid by the shelf's own plain mode, what isn't used struck). -/
import Derived.Shelf.Strings.Builder1
import Derived.Shelf.Strings.Trim
import Derived.Shelf.Small.Utf8
import Derived.Shelf.Small.Strs
import Derived.Shelf.Strings.BuilderF
import Derived.Shelf.Strings.BuilderK
import Derived.Shelf.Utf8.RuneCount
import Derived.Shelf.Strconv.Atoi
import Derived.Shelf.Strconv.Itoa0
import Derived.Shelf.Strconv.Itoa1
import Derived.Shelf.LaysM
import Derived.Shelf.Strconv.Itoa2
import Derived.Shelf.Strconv.Itoa3
import Derived.Shelf.Strconv.AtoiErrFast
import Derived.Shelf.Strconv.ParseIntEmpty
import Derived.Shelf.Strconv.AtoiFail
import Derived.Shelf.Strconv.Clone
import Derived.Shelf.Strconv.SyntaxError
import Derived.Shelf.LaysC
import Derived.Shelf.Strconv.ToError
import Derived.Shelf.Strconv.Lower
import Derived.Shelf.Strconv.ParseUint10
import Derived.Shelf.Strconv.ParseUint10Empty
import Derived.Shelf.Strconv.ParseUint10Any
import Derived.Shelf.Strconv.ParseInt10
import Derived.Shelf.Strconv.AtoiLong
import Derived.Shelf.Strconv.AtoiInnerAll
import Derived.Shelf.Strconv.RangeError
import Derived.Shelf.Strconv.ToErrorRange
import Derived.Shelf.Strconv.AtoiAll
import Derived.Shelf.Strconv.ErrVarAll
import Derived.Shelf.Strings.Search1
import Derived.Shelf.Strings.Search2
import Derived.Shelf.Strings.Search3
import Derived.Shelf.Strings.Cut
import Derived.Shelf.Strings.Count
import Derived.Shelf.Strings.Shaped
import Derived.Shelf.Strings.LastIndex
import Derived.Shelf.Strings.LastIndexAll
import Derived.Shelf.Strings.Prefix
import Derived.Shelf.Strings.Split
import Derived.Shelf.Strings.SplitShaped
import Derived.Shelf.Unicode.Decode
import Derived.Shelf.Strings.Runes
import Derived.Shelf.Strings.RuneCount
import Derived.Shelf.Strings.AsciiSet
import Derived.Shelf.Strings.Explode
import Derived.Shelf.Unicode.DecodeSlow
import Derived.Shelf.Unicode.DecodeAny
import Derived.Shelf.Unicode.DecodeLast
import Derived.Shelf.Strings.BuilderCap
import Derived.Test.YtdgipencedlbmaaGreatDoorProg
namespace Go.Proofs
open Go.Shelf
def Tryz.lays170_ren : Go.Shelf.Ren := ⟨fun | 170 => 61 | n => n, fun | 70 => 100 | 3 => 3 | 0 => 0 | 72 => 102 | 37 => 82 | 5 => 5 | n => n, fun | n => n⟩
theorem Tryz.lays170 : Go.Proofs.Lays.n170 Tryz.prog Tryz.lays170_ren := {
  mixed := by kernel_rfl
  f170 := Tryz.func61.trans (congrArg some (by kernel_rfl))
  t0 := Tryz.underlying0
  a0 := Tryz.isAgg0
  z0 := Tryz.sizeOf0
  v0 := Tryz.zeroValue0
  t3 := Tryz.underlying3
  a3 := Tryz.isAgg3
  z3 := Tryz.sizeOf3
  v3 := Tryz.zeroValue3
  t37 := Tryz.underlying82
  a37 := Tryz.isAgg82
  z37 := Tryz.sizeOf82
  v37 := Tryz.zeroValue82
  t70 := Tryz.underlying100
  a70 := Tryz.isAgg100
  z70 := Tryz.sizeOf100
  v70 := Tryz.zeroValue100
  t72 := Tryz.underlying102
  a72 := Tryz.isAgg102
  z72 := Tryz.sizeOf102
  v72 := Tryz.zeroValue102 }
open Go.RowKit in
theorem Tryz.Builder_Len (B b : Nat) (bs : List Value) (w : World) (h : Lib.IsBuilder 102 5 B b bs w) :
    Calls Tryz.prog 61 #[.pointer (some ⟨b, 0, none⟩)] w fun e w' => e = .returned (.int .i64 bs.length) ∧ w' = w := Any.Builder_Len Tryz.lays170 B b bs w h
def Tryz.lays169_ren : Go.Shelf.Ren := ⟨fun | 169 => 62 | n => n, fun | 70 => 100 | 9 => 9 | 0 => 0 | 72 => 102 | 37 => 82 | 127 => 144 | 3 => 3 | 5 => 5 | n => n, fun | n => n⟩
theorem Tryz.lays169 : Go.Proofs.Lays.n169 Tryz.prog Tryz.lays169_ren := {
  mixed := by kernel_rfl
  f169 := Tryz.func62.trans (congrArg some (by kernel_rfl))
  t0 := Tryz.underlying0
  a0 := Tryz.isAgg0
  z0 := Tryz.sizeOf0
  v0 := Tryz.zeroValue0
  t3 := Tryz.underlying3
  a3 := Tryz.isAgg3
  z3 := Tryz.sizeOf3
  v3 := Tryz.zeroValue3
  t9 := Tryz.underlying9
  a9 := Tryz.isAgg9
  z9 := Tryz.sizeOf9
  v9 := Tryz.zeroValue9
  t37 := Tryz.underlying82
  a37 := Tryz.isAgg82
  z37 := Tryz.sizeOf82
  v37 := Tryz.zeroValue82
  t70 := Tryz.underlying100
  a70 := Tryz.isAgg100
  z70 := Tryz.sizeOf100
  v70 := Tryz.zeroValue100
  t72 := Tryz.underlying102
  a72 := Tryz.isAgg102
  z72 := Tryz.sizeOf102
  v72 := Tryz.zeroValue102
  t127 := Tryz.underlying144
  a127 := Tryz.isAgg144
  z127 := Tryz.sizeOf144
  v127 := Tryz.zeroValue144 }
theorem Tryz.Builder_Extra_169 : Builder.Extra Tryz.prog Tryz.lays169_ren := {
  sizeBuilder := by kernel_rfl
  liesBuilder := by kernel_rfl
  t5 := Tryz.underlying5
  a5 := Tryz.isAgg5
  z5 := Tryz.sizeOf5
  v5 := Tryz.zeroValue5
  infoByte := by kernel_rfl
  cellsByte := by kernel_rfl
  sizeByte := by kernel_rfl
  neB5 := by decide }
open Go.RowKit in
theorem Tryz.Builder_String_any (B b : Nat) (l : List UInt8) (w : World) (h : Lib.IsBuilder 102 5 B b (Lib.byteCells l) w) (hBw : B ≤ w.heap.size) :
    Calls Tryz.prog 62 #[.pointer (some ⟨b, 0, none⟩)] w fun e w' => e = .returned (.string ⟨l.toArray⟩) ∧ Below B w w' := Any.Builder_String_any Tryz.lays169 Tryz.Builder_Extra_169 B b l w h hBw
def Tryz.lays106_ren : Go.Shelf.Ren := ⟨fun | 106 => 99 | 213 => 118 | 265 => 139 | n => n, fun | 9 => 9 | 3 => 3 | n => n, fun | n => n⟩
theorem Tryz.lays106 : Go.Proofs.Lays.n106 Tryz.prog Tryz.lays106_ren := {
  mixed := by kernel_rfl
  f106 := Tryz.func99.trans (congrArg some (by kernel_rfl))
  f213 := Tryz.func118.trans (congrArg some (by kernel_rfl))
  f265 := Tryz.func139.trans (congrArg some (by kernel_rfl))
  t3 := Tryz.underlying3
  a3 := Tryz.isAgg3
  z3 := Tryz.sizeOf3
  v3 := Tryz.zeroValue3
  t9 := Tryz.underlying9
  a9 := Tryz.isAgg9
  z9 := Tryz.sizeOf9
  v9 := Tryz.zeroValue9 }
open Go.RowKit in
theorem Tryz.strings_Compare (a b : ByteArray) (w : World) :
    Calls Tryz.prog 99 #[.string a, .string b] w fun e w' => e = .returned (.int .i64 (Lib.compareBytes a.data.toList b.data.toList)) ∧ w' = w := Any.strings_Compare Tryz.lays106 a b w
def Tryz.laysM171_ren : Go.Shelf.Ren := ⟨fun | 171 => 60 | 243 => 105 | 246 => 126 | 283 => 154 | 284 => 155 | 285 => 156 | 286 => 157 | 129 => 188 | 317 => 187 | 318 => 189 | 319 => 190 | 320 => 191 | 337 => 209 | 338 => 210 | n => n, fun | 3 => 3 | 9 => 9 | 2 => 2 | 4 => 4 | 171 => 187 | 0 => 0 | 53 => 188 | 37 => 82 | 5 => 5 | 173 => 191 | 212 => 224 | 51 => 151 | 20 => 20 | 213 => 225 | 46 => 155 | 232 => 251 | 233 => 252 | n => n, fun | 17 => 3 | 18 => 6 | 19 => 7 | n => n⟩
theorem Tryz.laysM171 : Go.Proofs.LaysM.n171 Tryz.prog Tryz.laysM171_ren := {
  mixed := by kernel_rfl
  f129 := Tryz.func188.trans (congrArg some (by kernel_rfl))
  f171 := Tryz.func60.trans (congrArg some (by kernel_rfl))
  f243 := Tryz.func105.trans (congrArg some (by kernel_rfl))
  f246 := Tryz.func126.trans (congrArg some (by kernel_rfl))
  f283 := Tryz.func154.trans (congrArg some (by kernel_rfl))
  f284 := Tryz.func155.trans (congrArg some (by kernel_rfl))
  f285 := Tryz.func156.trans (congrArg some (by kernel_rfl))
  f286 := Tryz.func157.trans (congrArg some (by kernel_rfl))
  f317 := Tryz.func187.trans (congrArg some (by kernel_rfl))
  f318 := Tryz.func189.trans (congrArg some (by kernel_rfl))
  f319 := Tryz.func190.trans (congrArg some (by kernel_rfl))
  f320 := Tryz.func191.trans (congrArg some (by kernel_rfl))
  f337 := Tryz.func209.trans (congrArg some (by kernel_rfl))
  f338 := Tryz.func210.trans (congrArg some (by kernel_rfl))
  t0 := Tryz.underlying0
  a0 := Tryz.isAgg0
  z0 := Tryz.sizeOf0
  v0 := Tryz.zeroValue0
  t2 := Tryz.underlying2
  a2 := Tryz.isAgg2
  z2 := Tryz.sizeOf2
  v2 := Tryz.zeroValue2
  t3 := Tryz.underlying3
  a3 := Tryz.isAgg3
  z3 := Tryz.sizeOf3
  v3 := Tryz.zeroValue3
  t4 := Tryz.underlying4
  a4 := Tryz.isAgg4
  z4 := Tryz.sizeOf4
  v4 := Tryz.zeroValue4
  t5 := Tryz.underlying5
  a5 := Tryz.isAgg5
  z5 := Tryz.sizeOf5
  v5 := Tryz.zeroValue5
  t9 := Tryz.underlying9
  a9 := Tryz.isAgg9
  z9 := Tryz.sizeOf9
  v9 := Tryz.zeroValue9
  t20 := Tryz.underlying20
  a20 := Tryz.isAgg20
  z20 := Tryz.sizeOf20
  v20 := Tryz.zeroValue20
  t37 := Tryz.underlying82
  a37 := Tryz.isAgg82
  z37 := Tryz.sizeOf82
  v37 := Tryz.zeroValue82
  t46 := Tryz.underlying155
  a46 := Tryz.isAgg155
  z46 := Tryz.sizeOf155
  v46 := Tryz.zeroValue155
  t51 := Tryz.underlying151
  a51 := Tryz.isAgg151
  z51 := Tryz.sizeOf151
  v51 := Tryz.zeroValue151
  t53 := Tryz.underlying188
  a53 := Tryz.isAgg188
  z53 := Tryz.sizeOf188
  v53 := Tryz.zeroValue188
  t171 := Tryz.underlying187
  a171 := Tryz.isAgg187
  z171 := Tryz.sizeOf187
  v171 := Tryz.zeroValue187
  t173 := Tryz.underlying191
  a173 := Tryz.isAgg191
  z173 := Tryz.sizeOf191
  v173 := Tryz.zeroValue191
  t212 := Tryz.underlying224
  a212 := Tryz.isAgg224
  z212 := Tryz.sizeOf224
  v212 := Tryz.zeroValue224
  t213 := Tryz.underlying225
  a213 := Tryz.isAgg225
  z213 := Tryz.sizeOf225
  t232 := Tryz.underlying251
  a232 := Tryz.isAgg251
  z232 := Tryz.sizeOf251
  v232 := Tryz.zeroValue251
  t233 := Tryz.underlying252
  a233 := Tryz.isAgg252
  z233 := Tryz.sizeOf252
  v233 := Tryz.zeroValue252
  g17 := by kernel_rfl
  g18 := by kernel_rfl
  g19 := by kernel_rfl
  i0 := by kernel_rfl
  i2 := by kernel_rfl
  i3 := by kernel_rfl
  i4 := by kernel_rfl
  i5 := by kernel_rfl
  i9 := by kernel_rfl
  i20 := by kernel_rfl
  i37 := by kernel_rfl
  i46 := by kernel_rfl
  i51 := by kernel_rfl
  i53 := by kernel_rfl
  i171 := by kernel_rfl
  i173 := by kernel_rfl
  i212 := by kernel_rfl
  i232 := by kernel_rfl
  i233 := by kernel_rfl
  m17 := by kernel_rfl
  m18 := by kernel_rfl
  m19 := by kernel_rfl }
open Go.RowKit Go.Sort Go.Lib in
theorem Tryz.strconv_Itoa (n : Int) (h0 : -9223372036854775808 ≤ n) (h1 : n ≤ 9223372036854775807) (w : World) (htab : Lib.TabIs Tryz.prog w "internal/strconv.uint64pow10" .u64 Lib.pow10Tab) :
    Calls Tryz.prog 60 #[.int .i64 n] w fun e w' => e = .returned (.string ⟨(Lib.itoa n).toArray⟩) ∧ ∃ k os, w' = grow (w.drewN k) os := Any.strconv_Itoa Tryz.laysM171 n h0 h1 w htab
def Tryz.laysC172_ren : Go.Shelf.Ren := ⟨fun | 172 => 68 | 244 => 109 | 245 => 110 | 247 => 128 | 279 => 129 | 280 => 130 | 281 => 131 | 282 => 132 | 287 => 159 | 316 => 160 | 171 => 60 | 205 => 161 | 321 => 193 | 322 => 194 | 243 => 105 | 246 => 126 | 283 => 154 | 284 => 155 | 285 => 156 | 286 => 157 | 129 => 188 | 317 => 187 | 318 => 189 | 319 => 190 | 320 => 191 | 337 => 209 | 338 => 210 | n => n, fun | 9 => 9 | 3 => 3 | 75 => 104 | 76 => 105 | 4 => 4 | 5 => 5 | 167 => 170 | 37 => 82 | 0 => 0 | 85 => 171 | 2 => 2 | 168 => 173 | 53 => 188 | 175 => 195 | 46 => 155 | 210 => 198 | 127 => 144 | 145 => 231 | 143 => 229 | 21 => 21 | 171 => 187 | 173 => 191 | 212 => 224 | 51 => 151 | 20 => 20 | 213 => 225 | 232 => 251 | 233 => 252 | 80 => 109 | n => n, fun | 15 => 1 | 16 => 2 | 17 => 3 | 18 => 6 | 19 => 7 | n => n⟩
theorem Tryz.laysC172 : Go.Proofs.LaysC.n172 Tryz.prog Tryz.laysC172_ren := {
  mixed := by kernel_rfl
  f129 := Tryz.func188.trans (congrArg some (by kernel_rfl))
  f171 := Tryz.func60.trans (congrArg some (by kernel_rfl))
  f172 := Tryz.func68.trans (congrArg some (by kernel_rfl))
  f205 := Tryz.func161.trans (congrArg some (by kernel_rfl))
  f243 := Tryz.func105.trans (congrArg some (by kernel_rfl))
  f244 := Tryz.func109.trans (congrArg some (by kernel_rfl))
  f245 := Tryz.func110.trans (congrArg some (by kernel_rfl))
  f246 := Tryz.func126.trans (congrArg some (by kernel_rfl))
  f247 := Tryz.func128.trans (congrArg some (by kernel_rfl))
  f279 := Tryz.func129.trans (congrArg some (by kernel_rfl))
  f280 := Tryz.func130.trans (congrArg some (by kernel_rfl))
  f281 := Tryz.func131.trans (congrArg some (by kernel_rfl))
  f282 := Tryz.func132.trans (congrArg some (by kernel_rfl))
  f283 := Tryz.func154.trans (congrArg some (by kernel_rfl))
  f284 := Tryz.func155.trans (congrArg some (by kernel_rfl))
  f285 := Tryz.func156.trans (congrArg some (by kernel_rfl))
  f286 := Tryz.func157.trans (congrArg some (by kernel_rfl))
  f287 := Tryz.func159.trans (congrArg some (by kernel_rfl))
  f316 := Tryz.func160.trans (congrArg some (by kernel_rfl))
  f317 := Tryz.func187.trans (congrArg some (by kernel_rfl))
  f318 := Tryz.func189.trans (congrArg some (by kernel_rfl))
  f319 := Tryz.func190.trans (congrArg some (by kernel_rfl))
  f320 := Tryz.func191.trans (congrArg some (by kernel_rfl))
  f321 := Tryz.func193.trans (congrArg some (by kernel_rfl))
  f322 := Tryz.func194.trans (congrArg some (by kernel_rfl))
  f337 := Tryz.func209.trans (congrArg some (by kernel_rfl))
  f338 := Tryz.func210.trans (congrArg some (by kernel_rfl))
  t0 := Tryz.underlying0
  a0 := Tryz.isAgg0
  z0 := Tryz.sizeOf0
  v0 := Tryz.zeroValue0
  t2 := Tryz.underlying2
  a2 := Tryz.isAgg2
  z2 := Tryz.sizeOf2
  v2 := Tryz.zeroValue2
  t3 := Tryz.underlying3
  a3 := Tryz.isAgg3
  z3 := Tryz.sizeOf3
  v3 := Tryz.zeroValue3
  t4 := Tryz.underlying4
  a4 := Tryz.isAgg4
  z4 := Tryz.sizeOf4
  v4 := Tryz.zeroValue4
  t5 := Tryz.underlying5
  a5 := Tryz.isAgg5
  z5 := Tryz.sizeOf5
  v5 := Tryz.zeroValue5
  t9 := Tryz.underlying9
  a9 := Tryz.isAgg9
  z9 := Tryz.sizeOf9
  v9 := Tryz.zeroValue9
  t20 := Tryz.underlying20
  a20 := Tryz.isAgg20
  z20 := Tryz.sizeOf20
  v20 := Tryz.zeroValue20
  t21 := Tryz.underlying21
  a21 := Tryz.isAgg21
  z21 := Tryz.sizeOf21
  v21 := Tryz.zeroValue21
  t37 := Tryz.underlying82
  a37 := Tryz.isAgg82
  z37 := Tryz.sizeOf82
  v37 := Tryz.zeroValue82
  t46 := Tryz.underlying155
  a46 := Tryz.isAgg155
  z46 := Tryz.sizeOf155
  v46 := Tryz.zeroValue155
  t51 := Tryz.underlying151
  a51 := Tryz.isAgg151
  z51 := Tryz.sizeOf151
  v51 := Tryz.zeroValue151
  t53 := Tryz.underlying188
  a53 := Tryz.isAgg188
  z53 := Tryz.sizeOf188
  v53 := Tryz.zeroValue188
  t75 := Tryz.underlying104
  a75 := Tryz.isAgg104
  z75 := Tryz.sizeOf104
  v75 := Tryz.zeroValue104
  t76 := Tryz.underlying105
  a76 := Tryz.isAgg105
  z76 := Tryz.sizeOf105
  v76 := Tryz.zeroValue105
  t85 := Tryz.underlying171
  a85 := Tryz.isAgg171
  z85 := Tryz.sizeOf171
  v85 := Tryz.zeroValue171
  t127 := Tryz.underlying144
  a127 := Tryz.isAgg144
  z127 := Tryz.sizeOf144
  v127 := Tryz.zeroValue144
  t143 := Tryz.underlying229
  a143 := Tryz.isAgg229
  z143 := Tryz.sizeOf229
  v143 := Tryz.zeroValue229
  t145 := Tryz.underlying231
  a145 := Tryz.isAgg231
  z145 := Tryz.sizeOf231
  v145 := Tryz.zeroValue231
  t167 := Tryz.underlying170
  a167 := Tryz.isAgg170
  z167 := Tryz.sizeOf170
  v167 := Tryz.zeroValue170
  t168 := Tryz.underlying173
  a168 := Tryz.isAgg173
  z168 := Tryz.sizeOf173
  v168 := Tryz.zeroValue173
  t171 := Tryz.underlying187
  a171 := Tryz.isAgg187
  z171 := Tryz.sizeOf187
  v171 := Tryz.zeroValue187
  t173 := Tryz.underlying191
  a173 := Tryz.isAgg191
  z173 := Tryz.sizeOf191
  v173 := Tryz.zeroValue191
  t175 := Tryz.underlying195
  a175 := Tryz.isAgg195
  z175 := Tryz.sizeOf195
  v175 := Tryz.zeroValue195
  t210 := Tryz.underlying198
  a210 := Tryz.isAgg198
  z210 := Tryz.sizeOf198
  v210 := Tryz.zeroValue198
  t212 := Tryz.underlying224
  a212 := Tryz.isAgg224
  z212 := Tryz.sizeOf224
  v212 := Tryz.zeroValue224
  t213 := Tryz.underlying225
  a213 := Tryz.isAgg225
  z213 := Tryz.sizeOf225
  t232 := Tryz.underlying251
  a232 := Tryz.isAgg251
  z232 := Tryz.sizeOf251
  v232 := Tryz.zeroValue251
  t233 := Tryz.underlying252
  a233 := Tryz.isAgg252
  z233 := Tryz.sizeOf252
  v233 := Tryz.zeroValue252
  g15 := by kernel_rfl
  g16 := by kernel_rfl
  g17 := by kernel_rfl
  g18 := by kernel_rfl
  g19 := by kernel_rfl
  t80 := Tryz.underlying109
  a80 := Tryz.isAgg109
  z80 := Tryz.sizeOf109
  v80 := Tryz.zeroValue109
  i0 := by kernel_rfl
  i2 := by kernel_rfl
  i3 := by kernel_rfl
  i4 := by kernel_rfl
  i5 := by kernel_rfl
  i9 := by kernel_rfl
  i20 := by kernel_rfl
  i21 := by kernel_rfl
  i37 := by kernel_rfl
  i46 := by kernel_rfl
  i51 := by kernel_rfl
  i53 := by kernel_rfl
  i75 := by kernel_rfl
  i76 := by kernel_rfl
  i80 := by kernel_rfl
  i85 := by kernel_rfl
  i127 := by kernel_rfl
  i143 := by kernel_rfl
  i145 := by kernel_rfl
  i167 := by kernel_rfl
  i168 := by kernel_rfl
  i171 := by kernel_rfl
  i173 := by kernel_rfl
  i175 := by kernel_rfl
  i210 := by kernel_rfl
  i212 := by kernel_rfl
  i232 := by kernel_rfl
  i233 := by kernel_rfl
  m15 := by kernel_rfl
  m16 := by kernel_rfl
  m17 := by kernel_rfl
  m18 := by kernel_rfl
  m19 := by kernel_rfl
  c0 := by kernel_rfl
  c2 := by kernel_rfl
  c3 := by kernel_rfl
  c4 := by kernel_rfl
  c5 := by kernel_rfl
  c9 := by kernel_rfl
  c20 := by kernel_rfl
  c21 := by kernel_rfl
  c37 := by kernel_rfl
  c46 := by kernel_rfl
  c51 := by kernel_rfl
  c53 := by kernel_rfl
  c75 := by kernel_rfl
  c76 := by kernel_rfl
  c80 := by kernel_rfl
  c85 := by kernel_rfl
  c127 := by kernel_rfl
  c143 := by kernel_rfl
  c145 := by kernel_rfl
  c167 := by kernel_rfl
  c168 := by kernel_rfl
  c171 := by kernel_rfl
  c173 := by kernel_rfl
  c175 := by kernel_rfl
  c210 := by kernel_rfl
  c212 := by kernel_rfl
  c213 := by kernel_rfl
  c232 := by kernel_rfl
  c233 := by kernel_rfl }
open Go.RowKit in
theorem Tryz.strconv_Atoi_ok (s : ByteArray) (hmax : s.size ≤ 9223372036854775806) (v : Int) (h : Lib.atoiAll s.data.toList = .ok v) (w : World) :
    Calls Tryz.prog 68 #[.string s] w fun e w' => e = .returned (.tuple #[.int .i64 v, .nilIface]) ∧ (w' = w ∨ ∃ t, w' = Lib.bytesWorld w 5 t) := Any.strconv_Atoi_ok Tryz.laysC172 s hmax v h w
open Go.RowKit in
theorem Tryz.strconv_Atoi_range_var (s : ByteArray) (hlim : s.size ≤ 281474976710656) (h : Lib.atoiAll s.data.toList = .range) (tp : TypeId) (p : Value) (w : World) (hvar : w.var? Tryz.prog "strconv.ErrRange" = some #[.iface tp p]) :
    Calls Tryz.prog 68 #[.string s] w fun e w' => ∃ N, e = .returned (.tuple #[.int .i64 (Lib.atoiSat s.data.toList), .iface 173 (.pointer (some ⟨N, 0, none⟩))]) ∧ w.heap.size ≤ N ∧ w'.heap[N]? = some (.cells #[.string ⟨#[65, 116, 111, 105]⟩, .string s, .iface tp p] 198 (0, 0)) ∧ Below w.heap.size w w' := Any.strconv_Atoi_range_var Tryz.laysC172 s hlim h tp p w hvar
def Tryz.lays145_ren : Go.Shelf.Ren := ⟨fun | 145 => 133 | 220 => 162 | 219 => 114 | 217 => 134 | 225 => 135 | 224 => 136 | 267 => 137 | 266 => 163 | 314 => 164 | n => n, fun | 9 => 9 | 4 => 4 | 59 => 149 | 3 => 3 | 5 => 5 | 46 => 155 | 146 => 152 | 51 => 151 | n => n, fun | 1 => 0 | n => n⟩
theorem Tryz.lays145 : Go.Proofs.Lays.n145 Tryz.prog Tryz.lays145_ren := {
  mixed := by kernel_rfl
  f145 := Tryz.func133.trans (congrArg some (by kernel_rfl))
  f217 := Tryz.func134.trans (congrArg some (by kernel_rfl))
  f219 := Tryz.func114.trans (congrArg some (by kernel_rfl))
  f220 := Tryz.func162.trans (congrArg some (by kernel_rfl))
  f224 := Tryz.func136.trans (congrArg some (by kernel_rfl))
  f225 := Tryz.func135.trans (congrArg some (by kernel_rfl))
  f266 := Tryz.func163.trans (congrArg some (by kernel_rfl))
  f267 := Tryz.func137.trans (congrArg some (by kernel_rfl))
  f314 := Tryz.func164.trans (congrArg some (by kernel_rfl))
  t3 := Tryz.underlying3
  a3 := Tryz.isAgg3
  z3 := Tryz.sizeOf3
  v3 := Tryz.zeroValue3
  t4 := Tryz.underlying4
  a4 := Tryz.isAgg4
  z4 := Tryz.sizeOf4
  v4 := Tryz.zeroValue4
  t5 := Tryz.underlying5
  a5 := Tryz.isAgg5
  z5 := Tryz.sizeOf5
  v5 := Tryz.zeroValue5
  t9 := Tryz.underlying9
  a9 := Tryz.isAgg9
  z9 := Tryz.sizeOf9
  v9 := Tryz.zeroValue9
  t46 := Tryz.underlying155
  a46 := Tryz.isAgg155
  z46 := Tryz.sizeOf155
  v46 := Tryz.zeroValue155
  t51 := Tryz.underlying151
  a51 := Tryz.isAgg151
  z51 := Tryz.sizeOf151
  v51 := Tryz.zeroValue151
  t59 := Tryz.underlying149
  a59 := Tryz.isAgg149
  z59 := Tryz.sizeOf149
  v59 := Tryz.zeroValue149
  t146 := Tryz.underlying152
  a146 := Tryz.isAgg152
  z146 := Tryz.sizeOf152
  v146 := Tryz.zeroValue152
  g1 := by kernel_rfl }
open Go.RowKit Go.Lib in
theorem Tryz.strings_Cut (s sep : ByteArray) (m : Int) (w : World) (hs : s.size < 4294967281) (hm : w.cell? ⟨0, 0, none⟩ = some (.int .i64 m)) :
    Calls Tryz.prog 133 #[.string s, .string sep] w fun e w' => e = .returned (.tuple #[.string ⟨(Lib.cut s.data.toList sep.data.toList).1.toArray⟩, .string ⟨(Lib.cut s.data.toList sep.data.toList).2.1.toArray⟩, .bool (Lib.cut s.data.toList sep.data.toList).2.2]) ∧ ∃ n, w' = w.drewN n := Any.strings_Cut Tryz.lays145 s sep m w hs hm
def Tryz.lays138_ren : Go.Shelf.Ren := ⟨fun | 138 => 45 | 195 => 75 | 218 => 76 | 143 => 77 | 219 => 114 | 217 => 134 | 225 => 135 | 224 => 136 | 267 => 137 | 266 => 163 | 314 => 164 | n => n, fun | 9 => 9 | 3 => 3 | 4 => 4 | 5 => 5 | 0 => 0 | 46 => 155 | 146 => 152 | 51 => 151 | n => n, fun | 1 => 0 | n => n⟩
theorem Tryz.lays138 : Go.Proofs.Lays.n138 Tryz.prog Tryz.lays138_ren := {
  mixed := by kernel_rfl
  f138 := Tryz.func45.trans (congrArg some (by kernel_rfl))
  f143 := Tryz.func77.trans (congrArg some (by kernel_rfl))
  f195 := Tryz.func75.trans (congrArg some (by kernel_rfl))
  f217 := Tryz.func134.trans (congrArg some (by kernel_rfl))
  f218 := Tryz.func76.trans (congrArg some (by kernel_rfl))
  f219 := Tryz.func114.trans (congrArg some (by kernel_rfl))
  f224 := Tryz.func136.trans (congrArg some (by kernel_rfl))
  f225 := Tryz.func135.trans (congrArg some (by kernel_rfl))
  f266 := Tryz.func163.trans (congrArg some (by kernel_rfl))
  f267 := Tryz.func137.trans (congrArg some (by kernel_rfl))
  f314 := Tryz.func164.trans (congrArg some (by kernel_rfl))
  t0 := Tryz.underlying0
  a0 := Tryz.isAgg0
  z0 := Tryz.sizeOf0
  v0 := Tryz.zeroValue0
  t3 := Tryz.underlying3
  a3 := Tryz.isAgg3
  z3 := Tryz.sizeOf3
  v3 := Tryz.zeroValue3
  t4 := Tryz.underlying4
  a4 := Tryz.isAgg4
  z4 := Tryz.sizeOf4
  v4 := Tryz.zeroValue4
  t5 := Tryz.underlying5
  a5 := Tryz.isAgg5
  z5 := Tryz.sizeOf5
  v5 := Tryz.zeroValue5
  t9 := Tryz.underlying9
  a9 := Tryz.isAgg9
  z9 := Tryz.sizeOf9
  v9 := Tryz.zeroValue9
  t46 := Tryz.underlying155
  a46 := Tryz.isAgg155
  z46 := Tryz.sizeOf155
  v46 := Tryz.zeroValue155
  t51 := Tryz.underlying151
  a51 := Tryz.isAgg151
  z51 := Tryz.sizeOf151
  v51 := Tryz.zeroValue151
  t146 := Tryz.underlying152
  a146 := Tryz.isAgg152
  z146 := Tryz.sizeOf152
  v146 := Tryz.zeroValue152
  g1 := by kernel_rfl }
open Go.RowKit Go.Lib in
theorem Tryz.strings_Count_one (s : ByteArray) (c : UInt8) (w : World) :
    Calls Tryz.prog 45 #[.string s, .string ⟨#[c]⟩] w fun e w' => e = .returned (.int .i64 (Lib.countByte s.data.toList c)) ∧ w' = w := Any.strings_Count_one Tryz.lays138 s c w
def Tryz.lays148_ren : Go.Shelf.Ren := ⟨fun | 148 => 46 | 222 => 78 | 223 => 79 | 269 => 115 | n => n, fun | 9 => 9 | 3 => 3 | 4 => 4 | 5 => 5 | 146 => 152 | 51 => 151 | 46 => 155 | n => n, fun | n => n⟩
theorem Tryz.lays148 : Go.Proofs.Lays.n148 Tryz.prog Tryz.lays148_ren := {
  mixed := by kernel_rfl
  f148 := Tryz.func46.trans (congrArg some (by kernel_rfl))
  f222 := Tryz.func78.trans (congrArg some (by kernel_rfl))
  f223 := Tryz.func79.trans (congrArg some (by kernel_rfl))
  f269 := Tryz.func115.trans (congrArg some (by kernel_rfl))
  t3 := Tryz.underlying3
  a3 := Tryz.isAgg3
  z3 := Tryz.sizeOf3
  v3 := Tryz.zeroValue3
  t4 := Tryz.underlying4
  a4 := Tryz.isAgg4
  z4 := Tryz.sizeOf4
  v4 := Tryz.zeroValue4
  t5 := Tryz.underlying5
  a5 := Tryz.isAgg5
  z5 := Tryz.sizeOf5
  v5 := Tryz.zeroValue5
  t9 := Tryz.underlying9
  a9 := Tryz.isAgg9
  z9 := Tryz.sizeOf9
  v9 := Tryz.zeroValue9
  t46 := Tryz.underlying155
  a46 := Tryz.isAgg155
  z46 := Tryz.sizeOf155
  v46 := Tryz.zeroValue155
  t51 := Tryz.underlying151
  a51 := Tryz.isAgg151
  z51 := Tryz.sizeOf151
  v51 := Tryz.zeroValue151
  t146 := Tryz.underlying152
  a146 := Tryz.isAgg152
  z146 := Tryz.sizeOf152
  v146 := Tryz.zeroValue152 }
open Go.RowKit Go.Lib in
theorem Tryz.strings_LastIndex (s sub : ByteArray) (hs : s.size < 4611686018427387904) (w : World) :
    Calls Tryz.prog 46 #[.string s, .string sub] w fun e w' => e = .returned (.int .i64 (Lib.lastIndex s.data.toList sub.data.toList)) ∧ w' = w := Any.strings_LastIndex Tryz.lays148 s sub hs w
def Tryz.lays99_ren : Go.Shelf.Ren := ⟨fun | 99 => 144 | 206 => 178 | n => n, fun | 9 => 9 | 4 => 4 | 3 => 3 | n => n, fun | n => n⟩
theorem Tryz.lays99 : Go.Proofs.Lays.n99 Tryz.prog Tryz.lays99_ren := {
  mixed := by kernel_rfl
  f99 := Tryz.func144.trans (congrArg some (by kernel_rfl))
  f206 := Tryz.func178.trans (congrArg some (by kernel_rfl))
  t3 := Tryz.underlying3
  a3 := Tryz.isAgg3
  z3 := Tryz.sizeOf3
  v3 := Tryz.zeroValue3
  t4 := Tryz.underlying4
  a4 := Tryz.isAgg4
  z4 := Tryz.sizeOf4
  v4 := Tryz.zeroValue4
  t9 := Tryz.underlying9
  a9 := Tryz.isAgg9
  z9 := Tryz.sizeOf9
  v9 := Tryz.zeroValue9 }
open Go.RowKit Go.Lib in
theorem Tryz.strings_HasPrefix (s p : ByteArray) (w : World) :
    Calls Tryz.prog 144 #[.string s, .string p] w fun e w' => e = .returned (.bool (Lib.hasPrefix s.data.toList p.data.toList)) ∧ w' = w := Any.strings_HasPrefix Tryz.lays99 s p w
def Tryz.lays101_ren : Go.Shelf.Ren := ⟨fun | 101 => 140 | 208 => 166 | 206 => 178 | n => n, fun | 9 => 9 | 4 => 4 | 3 => 3 | n => n, fun | n => n⟩
theorem Tryz.lays101 : Go.Proofs.Lays.n101 Tryz.prog Tryz.lays101_ren := {
  mixed := by kernel_rfl
  f101 := Tryz.func140.trans (congrArg some (by kernel_rfl))
  f206 := Tryz.func178.trans (congrArg some (by kernel_rfl))
  f208 := Tryz.func166.trans (congrArg some (by kernel_rfl))
  t3 := Tryz.underlying3
  a3 := Tryz.isAgg3
  z3 := Tryz.sizeOf3
  v3 := Tryz.zeroValue3
  t4 := Tryz.underlying4
  a4 := Tryz.isAgg4
  z4 := Tryz.sizeOf4
  v4 := Tryz.zeroValue4
  t9 := Tryz.underlying9
  a9 := Tryz.isAgg9
  z9 := Tryz.sizeOf9
  v9 := Tryz.zeroValue9 }
open Go.RowKit Go.Lib in
theorem Tryz.strings_TrimPrefix (s p : ByteArray) (w : World) :
    Calls Tryz.prog 140 #[.string s, .string p] w fun e w' => e = .returned (.string ⟨(Lib.trimPrefix s.data.toList p.data.toList).toArray⟩) ∧ w' = w := Any.strings_TrimPrefix Tryz.lays101 s p w
def Tryz.lays146_ren : Go.Shelf.Ren := ⟨fun | 146 => 65 | 221 => 108 | 268 => 127 | 138 => 45 | 143 => 77 | 195 => 75 | 197 => 158 | 218 => 76 | 219 => 114 | 260 => 192 | 217 => 134 | 225 => 135 | 224 => 136 | 267 => 137 | 266 => 163 | 314 => 164 | n => n, fun | 9 => 9 | 31 => 112 | 3 => 3 | 4 => 4 | 0 => 0 | 105 => 193 | 21 => 21 | 5 => 5 | 46 => 155 | 119 => 243 | 139 => 246 | 138 => 245 | 146 => 152 | 51 => 151 | n => n, fun | 1 => 0 | 3 => 4 | 4 => 5 | n => n⟩
theorem Tryz.lays146 : Go.Proofs.Lays.n146 Tryz.prog Tryz.lays146_ren := {
  mixed := by kernel_rfl
  f138 := Tryz.func45.trans (congrArg some (by kernel_rfl))
  f143 := Tryz.func77.trans (congrArg some (by kernel_rfl))
  f146 := Tryz.func65.trans (congrArg some (by kernel_rfl))
  f195 := Tryz.func75.trans (congrArg some (by kernel_rfl))
  f197 := Tryz.func158.trans (congrArg some (by kernel_rfl))
  f217 := Tryz.func134.trans (congrArg some (by kernel_rfl))
  f218 := Tryz.func76.trans (congrArg some (by kernel_rfl))
  f219 := Tryz.func114.trans (congrArg some (by kernel_rfl))
  f221 := Tryz.func108.trans (congrArg some (by kernel_rfl))
  f224 := Tryz.func136.trans (congrArg some (by kernel_rfl))
  f225 := Tryz.func135.trans (congrArg some (by kernel_rfl))
  f260 := Tryz.func192.trans (congrArg some (by kernel_rfl))
  f266 := Tryz.func163.trans (congrArg some (by kernel_rfl))
  f267 := Tryz.func137.trans (congrArg some (by kernel_rfl))
  f268 := Tryz.func127.trans (congrArg some (by kernel_rfl))
  f314 := Tryz.func164.trans (congrArg some (by kernel_rfl))
  t0 := Tryz.underlying0
  a0 := Tryz.isAgg0
  z0 := Tryz.sizeOf0
  v0 := Tryz.zeroValue0
  t3 := Tryz.underlying3
  a3 := Tryz.isAgg3
  z3 := Tryz.sizeOf3
  v3 := Tryz.zeroValue3
  t4 := Tryz.underlying4
  a4 := Tryz.isAgg4
  z4 := Tryz.sizeOf4
  v4 := Tryz.zeroValue4
  t5 := Tryz.underlying5
  a5 := Tryz.isAgg5
  z5 := Tryz.sizeOf5
  v5 := Tryz.zeroValue5
  t9 := Tryz.underlying9
  a9 := Tryz.isAgg9
  z9 := Tryz.sizeOf9
  v9 := Tryz.zeroValue9
  t21 := Tryz.underlying21
  a21 := Tryz.isAgg21
  z21 := Tryz.sizeOf21
  v21 := Tryz.zeroValue21
  t31 := Tryz.underlying112
  a31 := Tryz.isAgg112
  z31 := Tryz.sizeOf112
  v31 := Tryz.zeroValue112
  t46 := Tryz.underlying155
  a46 := Tryz.isAgg155
  z46 := Tryz.sizeOf155
  v46 := Tryz.zeroValue155
  t51 := Tryz.underlying151
  a51 := Tryz.isAgg151
  z51 := Tryz.sizeOf151
  v51 := Tryz.zeroValue151
  t105 := Tryz.underlying193
  a105 := Tryz.isAgg193
  z105 := Tryz.sizeOf193
  v105 := Tryz.zeroValue193
  t119 := Tryz.underlying243
  a119 := Tryz.isAgg243
  z119 := Tryz.sizeOf243
  t138 := Tryz.underlying245
  a138 := Tryz.isAgg245
  z138 := Tryz.sizeOf245
  v138 := Tryz.zeroValue245
  t139 := Tryz.underlying246
  a139 := Tryz.isAgg246
  z139 := Tryz.sizeOf246
  v139 := Tryz.zeroValue246
  t146 := Tryz.underlying152
  a146 := Tryz.isAgg152
  z146 := Tryz.sizeOf152
  v146 := Tryz.zeroValue152
  g1 := by kernel_rfl
  g3 := by kernel_rfl
  g4 := by kernel_rfl }
open Go.RowKit Go.Lib in
theorem Tryz.strings_Split (s sep : ByteArray) (m : Int) (w : World) (hs : s.size < 4294967281) (hm : w.cell? ⟨0, 0, none⟩ = some (.int .i64 m)) (h1 : 1 ≤ sep.size) :
    Calls Tryz.prog 65 #[.string s, .string sep] w fun e w' =>
      e = .returned (.slice (some ⟨w.heap.size, 0, none⟩) (Lib.countB s sep + 1) (Lib.countB s sep + 1)) ∧ w' = w.alloc (.cells ((Lib.splitB sep 0 (Lib.countB s sep) s).map Value.string).toArray 9) := Any.strings_Split Tryz.lays146 (by kernel_rfl) s sep m w hs hm h1
end Go.Proofs
