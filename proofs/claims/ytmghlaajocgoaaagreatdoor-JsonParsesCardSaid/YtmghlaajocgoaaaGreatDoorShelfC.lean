/-
  DERIVED: THE SHELF's CONTRACTS AT THIS DUMP, IN PLAIN WORDS (tools/lay-plain.mjs out of 'YtmghlaajocgoaaaGreatDoorShelfC.lean', which tools/lay-shelf.mjs wrote): THE SAME DECLARATIONS UNDER THE SAME NAMES: 'import', 'namespace', 'open', 'def', 'theorem' AND NOTHING ELSE: no command of the shelf's: FOR A HAND-IN. Each laying: the table of numbers ('.._ren') and one theorem, a field a fact of the dump's own or the kernel's comparison; each contract: ONE APPLICATION.
-/
import Derived.Shelf.Strings.Builder1
import Derived.Shelf.Strings.Trim
import Derived.Shelf.Small.Utf8
import Derived.Shelf.Small.Strs
import Derived.Shelf.Small.Wraps
import Derived.Shelf.Strings.BuilderF
import Derived.Shelf.Strings.BuilderK
import Derived.Shelf.Strings.BuilderRune
import Derived.Shelf.Strconv.Itoa0
import Derived.Shelf.Strconv.Itoa1
import Derived.Shelf.LaysM
import Derived.Shelf.Strconv.Itoa2
import Derived.Shelf.Strconv.Itoa3
import Derived.Shelf.Strconv.Clone
import Derived.Shelf.Strconv.SyntaxError
import Derived.Shelf.LaysC
import Derived.Shelf.Strconv.ToError
import Derived.Shelf.Strconv.Lower
import Derived.Shelf.Strconv.ParseUint10
import Derived.Shelf.Strconv.ParseUint10Empty
import Derived.Shelf.Strconv.ParseUint10Any
import Derived.Shelf.Strconv.RangeError
import Derived.Shelf.Strconv.ToErrorRange
import Derived.Shelf.Strconv.ParseUintEmpty
import Derived.Shelf.Strconv.ParseUint10b64
import Derived.Shelf.Strconv.ParseUint10b32
import Derived.Shelf.Strconv.ParseUint10b16
import Derived.Shelf.Strconv.ParseUint10b8
import Derived.Shelf.Strconv.ParseUint10At
import Derived.Shelf.Strings.Search1
import Derived.Shelf.Strings.Prefix
import Derived.Shelf.Unicode.Decode
import Derived.Shelf.Strings.Runes
import Derived.Shelf.Strings.IndexAny
import Derived.Shelf.Strings.AsciiSet
import Derived.Shelf.Strings.IndexAnyAll
import Derived.Shelf.Unicode.DecodeSlow
import Derived.Shelf.Unicode.DecodeAny
import Derived.Shelf.Unicode.DecodeLast
import Derived.Shelf.Strings.BuilderCap
import Derived.Test.YtmghlaajocgoaaaGreatDoorProg
namespace Go.Proofs
open Go.Shelf
def Tryz.laysC245_ren : Go.Shelf.Ren := ⟨fun | 245 => 116 | 279 => 120 | 280 => 121 | 281 => 122 | 282 => 123 | 316 => 124 | 171 => 126 | 205 => 125 | 243 => 127 | 246 => 128 | 283 => 129 | 284 => 130 | 285 => 131 | 286 => 132 | 129 => 134 | 317 => 133 | 318 => 135 | 319 => 136 | 320 => 137 | 337 => 138 | 338 => 139 | n => n, fun | 9 => 9 | 3 => 3 | 75 => 114 | 167 => 152 | 4 => 4 | 168 => 154 | 210 => 159 | 37 => 108 | 0 => 0 | 127 => 130 | 145 => 163 | 143 => 161 | 2 => 2 | 171 => 165 | 53 => 148 | 5 => 5 | 173 => 168 | 212 => 171 | 51 => 137 | 20 => 20 | 213 => 172 | 46 => 142 | 232 => 175 | 233 => 176 | 80 => 111 | n => n, fun | 15 => 3 | 16 => 4 | 17 => 5 | 18 => 6 | 19 => 7 | n => n⟩
theorem Tryz.laysC245 : Go.Proofs.LaysC.n245 Tryz.prog Tryz.laysC245_ren := {
  mixed := by kernel_rfl
  f129 := Tryz.func134.trans (congrArg some (by kernel_rfl))
  f171 := Tryz.func126.trans (congrArg some (by kernel_rfl))
  f205 := Tryz.func125.trans (congrArg some (by kernel_rfl))
  f243 := Tryz.func127.trans (congrArg some (by kernel_rfl))
  f245 := Tryz.func116.trans (congrArg some (by kernel_rfl))
  f246 := Tryz.func128.trans (congrArg some (by kernel_rfl))
  f279 := Tryz.func120.trans (congrArg some (by kernel_rfl))
  f280 := Tryz.func121.trans (congrArg some (by kernel_rfl))
  f281 := Tryz.func122.trans (congrArg some (by kernel_rfl))
  f282 := Tryz.func123.trans (congrArg some (by kernel_rfl))
  f283 := Tryz.func129.trans (congrArg some (by kernel_rfl))
  f284 := Tryz.func130.trans (congrArg some (by kernel_rfl))
  f285 := Tryz.func131.trans (congrArg some (by kernel_rfl))
  f286 := Tryz.func132.trans (congrArg some (by kernel_rfl))
  f316 := Tryz.func124.trans (congrArg some (by kernel_rfl))
  f317 := Tryz.func133.trans (congrArg some (by kernel_rfl))
  f318 := Tryz.func135.trans (congrArg some (by kernel_rfl))
  f319 := Tryz.func136.trans (congrArg some (by kernel_rfl))
  f320 := Tryz.func137.trans (congrArg some (by kernel_rfl))
  f337 := Tryz.func138.trans (congrArg some (by kernel_rfl))
  f338 := Tryz.func139.trans (congrArg some (by kernel_rfl))
  t0 := Tryz.underlying0
  a0 := Tryz.isAgg0
  z0 := Tryz.sizeOf0
  v0 := Tryz.zeroValue0
  t2 := Tryz.underlying2
  a2 := Tryz.isAgg2
  z2 := Tryz.sizeOf2
  v2 := Tryz.zeroValue2
  t3 := Tryz.underlying3
  a3 := Tryz.isAgg3
  z3 := Tryz.sizeOf3
  v3 := Tryz.zeroValue3
  t4 := Tryz.underlying4
  a4 := Tryz.isAgg4
  z4 := Tryz.sizeOf4
  v4 := Tryz.zeroValue4
  t5 := Tryz.underlying5
  a5 := Tryz.isAgg5
  z5 := Tryz.sizeOf5
  v5 := Tryz.zeroValue5
  t9 := Tryz.underlying9
  a9 := Tryz.isAgg9
  z9 := Tryz.sizeOf9
  v9 := Tryz.zeroValue9
  t20 := Tryz.underlying20
  a20 := Tryz.isAgg20
  z20 := Tryz.sizeOf20
  v20 := Tryz.zeroValue20
  t37 := Tryz.underlying108
  a37 := Tryz.isAgg108
  z37 := Tryz.sizeOf108
  v37 := Tryz.zeroValue108
  t46 := Tryz.underlying142
  a46 := Tryz.isAgg142
  z46 := Tryz.sizeOf142
  v46 := Tryz.zeroValue142
  t51 := Tryz.underlying137
  a51 := Tryz.isAgg137
  z51 := Tryz.sizeOf137
  v51 := Tryz.zeroValue137
  t53 := Tryz.underlying148
  a53 := Tryz.isAgg148
  z53 := Tryz.sizeOf148
  v53 := Tryz.zeroValue148
  t75 := Tryz.underlying114
  a75 := Tryz.isAgg114
  z75 := Tryz.sizeOf114
  v75 := Tryz.zeroValue114
  t127 := Tryz.underlying130
  a127 := Tryz.isAgg130
  z127 := Tryz.sizeOf130
  v127 := Tryz.zeroValue130
  t143 := Tryz.underlying161
  a143 := Tryz.isAgg161
  z143 := Tryz.sizeOf161
  v143 := Tryz.zeroValue161
  t145 := Tryz.underlying163
  a145 := Tryz.isAgg163
  z145 := Tryz.sizeOf163
  v145 := Tryz.zeroValue163
  t167 := Tryz.underlying152
  a167 := Tryz.isAgg152
  z167 := Tryz.sizeOf152
  v167 := Tryz.zeroValue152
  t168 := Tryz.underlying154
  a168 := Tryz.isAgg154
  z168 := Tryz.sizeOf154
  v168 := Tryz.zeroValue154
  t171 := Tryz.underlying165
  a171 := Tryz.isAgg165
  z171 := Tryz.sizeOf165
  v171 := Tryz.zeroValue165
  t173 := Tryz.underlying168
  a173 := Tryz.isAgg168
  z173 := Tryz.sizeOf168
  v173 := Tryz.zeroValue168
  t210 := Tryz.underlying159
  a210 := Tryz.isAgg159
  z210 := Tryz.sizeOf159
  v210 := Tryz.zeroValue159
  t212 := Tryz.underlying171
  a212 := Tryz.isAgg171
  z212 := Tryz.sizeOf171
  v212 := Tryz.zeroValue171
  t213 := Tryz.underlying172
  a213 := Tryz.isAgg172
  z213 := Tryz.sizeOf172
  t232 := Tryz.underlying175
  a232 := Tryz.isAgg175
  z232 := Tryz.sizeOf175
  v232 := Tryz.zeroValue175
  t233 := Tryz.underlying176
  a233 := Tryz.isAgg176
  z233 := Tryz.sizeOf176
  v233 := Tryz.zeroValue176
  g15 := by kernel_rfl
  g16 := by kernel_rfl
  g17 := by kernel_rfl
  g18 := by kernel_rfl
  g19 := by kernel_rfl
  t80 := Tryz.underlying111
  a80 := Tryz.isAgg111
  z80 := Tryz.sizeOf111
  v80 := Tryz.zeroValue111
  i0 := by kernel_rfl
  i2 := by kernel_rfl
  i3 := by kernel_rfl
  i4 := by kernel_rfl
  i5 := by kernel_rfl
  i9 := by kernel_rfl
  i20 := by kernel_rfl
  i37 := by kernel_rfl
  i46 := by kernel_rfl
  i51 := by kernel_rfl
  i53 := by kernel_rfl
  i75 := by kernel_rfl
  i80 := by kernel_rfl
  i127 := by kernel_rfl
  i143 := by kernel_rfl
  i145 := by kernel_rfl
  i167 := by kernel_rfl
  i168 := by kernel_rfl
  i171 := by kernel_rfl
  i173 := by kernel_rfl
  i210 := by kernel_rfl
  i212 := by kernel_rfl
  i232 := by kernel_rfl
  i233 := by kernel_rfl
  m15 := by kernel_rfl
  m16 := by kernel_rfl
  m17 := by kernel_rfl
  m18 := by kernel_rfl
  m19 := by kernel_rfl
  c0 := by kernel_rfl
  c2 := by kernel_rfl
  c3 := by kernel_rfl
  c4 := by kernel_rfl
  c5 := by kernel_rfl
  c9 := by kernel_rfl
  c20 := by kernel_rfl
  c37 := by kernel_rfl
  c46 := by kernel_rfl
  c51 := by kernel_rfl
  c53 := by kernel_rfl
  c75 := by kernel_rfl
  c80 := by kernel_rfl
  c127 := by kernel_rfl
  c143 := by kernel_rfl
  c145 := by kernel_rfl
  c167 := by kernel_rfl
  c168 := by kernel_rfl
  c171 := by kernel_rfl
  c173 := by kernel_rfl
  c210 := by kernel_rfl
  c212 := by kernel_rfl
  c213 := by kernel_rfl
  c232 := by kernel_rfl
  c233 := by kernel_rfl }
open Go.RowKit in
/-- strconv.toError, at the inner package's ErrSyntax: 'syntaxError(fn, s)' as an error: A *NumError IN A NEW BLOCK. (LAID: no walk: one application.) -/
theorem Tryz.strconv_toError_syntax (fn s : ByteArray) (base bits : Int) (ev : Value) (w : World) (hlim : s.size ≤ 281474976710656) (hv : w.cell? ⟨3, 0, none⟩ = some ev) (hev : ev = .nilIface ∨ ∃ te pe, ev = .iface te pe) :
    Calls Tryz.prog 116 #[.string fn, .string s, .int .i64 base, .int .i64 bits, .iface 152 (.int .i64 2)] w fun e w' => ∃ N, e = .returned (.iface 154 (.pointer (some ⟨N, 0, none⟩))) ∧ w.heap.size ≤ N ∧ w'.heap[N]? = some (.cells #[.string fn, .string s, ev] 159 (0, 0)) ∧ Below w.heap.size w w' := Any.strconv_toError_syntax Tryz.laysC245 fn s base bits ev w hlim hv hev
def Tryz.lays152_ren : Go.Shelf.Ren := ⟨fun | 152 => 105 | 137 => 54 | 119 => 109 | 224 => 110 | 225 => 111 | 217 => 66 | 266 => 78 | n => n, fun | 9 => 9 | 21 => 21 | 3 => 3 | 4 => 4 | 5 => 5 | 0 => 0 | 46 => 142 | n => n, fun | n => n⟩
theorem Tryz.lays152 : Go.Proofs.Lays.n152 Tryz.prog Tryz.lays152_ren := {
  mixed := by kernel_rfl
  f119 := Tryz.func109.trans (congrArg some (by kernel_rfl))
  f137 := Tryz.func54.trans (congrArg some (by kernel_rfl))
  f152 := Tryz.func105.trans (congrArg some (by kernel_rfl))
  f217 := Tryz.func66.trans (congrArg some (by kernel_rfl))
  f224 := Tryz.func110.trans (congrArg some (by kernel_rfl))
  f225 := Tryz.func111.trans (congrArg some (by kernel_rfl))
  f266 := Tryz.func78.trans (congrArg some (by kernel_rfl))
  t0 := Tryz.underlying0
  a0 := Tryz.isAgg0
  z0 := Tryz.sizeOf0
  v0 := Tryz.zeroValue0
  t3 := Tryz.underlying3
  a3 := Tryz.isAgg3
  z3 := Tryz.sizeOf3
  v3 := Tryz.zeroValue3
  t4 := Tryz.underlying4
  a4 := Tryz.isAgg4
  z4 := Tryz.sizeOf4
  v4 := Tryz.zeroValue4
  t5 := Tryz.underlying5
  a5 := Tryz.isAgg5
  z5 := Tryz.sizeOf5
  v5 := Tryz.zeroValue5
  t9 := Tryz.underlying9
  a9 := Tryz.isAgg9
  z9 := Tryz.sizeOf9
  v9 := Tryz.zeroValue9
  t21 := Tryz.underlying21
  a21 := Tryz.isAgg21
  z21 := Tryz.sizeOf21
  v21 := Tryz.zeroValue21
  t46 := Tryz.underlying142
  a46 := Tryz.isAgg142
  z46 := Tryz.sizeOf142
  v46 := Tryz.zeroValue142 }
open Go.RowKit Go.Lib in
theorem Tryz.strings_IndexRune_ascii (s : ByteArray) (r : Int) (w : World) (h0 : 0 ≤ r) (h1 : r < 128) :
    Calls Tryz.prog 105 #[.string s, .int .i32 r] w fun e w' => e = .returned (.int .i64 (Lib.indexByte s.data.toList r.toNat.toUInt8)) ∧ w' = w := Any.strings_IndexRune_ascii Tryz.lays152 s r w h0 h1
def Tryz.lays226_ren : Go.Shelf.Ren := ⟨fun | 226 => 117 | n => n, fun | 3 => 3 | 4 => 4 | n => n, fun | n => n⟩
theorem Tryz.lays226 : Go.Proofs.Lays.n226 Tryz.prog Tryz.lays226_ren := {
  mixed := by kernel_rfl
  f226 := Tryz.func117.trans (congrArg some (by kernel_rfl))
  t3 := Tryz.underlying3
  a3 := Tryz.isAgg3
  z3 := Tryz.sizeOf3
  v3 := Tryz.zeroValue3
  t4 := Tryz.underlying4
  a4 := Tryz.isAgg4
  z4 := Tryz.sizeOf4
  v4 := Tryz.zeroValue4 }
open Go.RowKit Go.Lib in
theorem Tryz.strings_shouldUseASCIISet (n : Int) (w : World) :
    Calls Tryz.prog 117 #[.int .i64 n] w fun e w' => e = .returned (.bool (decide (8 < n))) ∧ w' = w := Any.strings_shouldUseASCIISet Tryz.lays226 n w
end Go.Proofs
