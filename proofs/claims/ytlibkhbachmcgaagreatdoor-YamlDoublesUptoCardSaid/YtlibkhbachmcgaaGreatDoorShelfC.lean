/-
  DERIVED: THE SHELF's CONTRACTS AT THIS DUMP, IN PLAIN WORDS (tools/lay-plain.mjs out of 'YtlibkhbachmcgaaGreatDoorShelfC.lean', which tools/lay-shelf.mjs wrote): THE SAME DECLARATIONS UNDER THE SAME NAMES: 'import', 'namespace', 'open', 'def', 'theorem' AND NOTHING ELSE: no command of the shelf's: FOR A HAND-IN. Each laying: the table of numbers ('.._ren') and one theorem, a field a fact of the dump's own or the kernel's comparison; each contract: ONE APPLICATION.
-/
import Derived.Shelf.Strings.Builder1
import Derived.Shelf.Strings.Builder2
import Derived.Shelf.Strings.OnBuilder
import Derived.Shelf.Strings.Trim
import Derived.Shelf.Small.Utf8
import Derived.Shelf.Small.Strs
import Derived.Shelf.Small.Wraps
import Derived.Shelf.Strings.BuilderF
import Derived.Shelf.Strings.BuilderK
import Derived.Shelf.Strings.BuilderRune
import Derived.Shelf.Utf8.RuneCount
import Derived.Shelf.Strings.Builder2Cap
import Derived.Shelf.Strconv.Itoa0
import Derived.Shelf.Strconv.Itoa1
import Derived.Shelf.LaysM
import Derived.Shelf.Strconv.Itoa2
import Derived.Shelf.Strconv.Itoa3
import Derived.Shelf.Strconv.ParseIntEmpty
import Derived.Shelf.Strconv.Clone
import Derived.Shelf.Strconv.SyntaxError
import Derived.Shelf.LaysC
import Derived.Shelf.Strconv.ToError
import Derived.Shelf.Strconv.Lower
import Derived.Shelf.Strconv.ParseUint10
import Derived.Shelf.Strconv.ParseUint10Empty
import Derived.Shelf.Strconv.ParseUint10Any
import Derived.Shelf.Strconv.ParseInt10
import Derived.Shelf.Strconv.RangeError
import Derived.Shelf.Strconv.ToErrorRange
import Derived.Shelf.Strconv.ParseUintEmpty
import Derived.Shelf.Strconv.ParseUint10b64
import Derived.Shelf.Strconv.ParseUint10b32
import Derived.Shelf.Strconv.ParseUint10b16
import Derived.Shelf.Strconv.ParseUint10b8
import Derived.Shelf.Strconv.ParseUint10At
import Derived.Shelf.Strconv.ParseInt10At64
import Derived.Shelf.Strconv.ParseInt10At32
import Derived.Shelf.Strconv.ParseInt10At16
import Derived.Shelf.Strconv.ParseInt10At8
import Derived.Shelf.Strconv.ParseInt10All
import Derived.Shelf.Strconv.ParseIntPublic10
import Derived.Shelf.Strconv.ErrVarParseInt
import Derived.Shelf.Strings.Search1
import Derived.Shelf.Strings.Search2
import Derived.Shelf.Strings.Search3
import Derived.Shelf.Strings.Count
import Derived.Shelf.Strings.Shaped
import Derived.Shelf.Strings.Prefix
import Derived.Shelf.Strings.Split
import Derived.Shelf.Strings.Replace
import Derived.Shelf.Strings.SplitShaped
import Derived.Shelf.Unicode.Decode
import Derived.Shelf.Strings.Runes
import Derived.Shelf.Strings.RuneCount
import Derived.Shelf.Strings.IndexAny
import Derived.Shelf.Strings.AsciiSet
import Derived.Shelf.Strings.IndexAnyAll
import Derived.Shelf.Bits.Mul64
import Derived.Shelf.Strings.Repeat
import Derived.Shelf.Unicode.DecodeSlow
import Derived.Shelf.Unicode.DecodeAny
import Derived.Shelf.Unicode.DecodeLast
import Derived.Shelf.Strings.BuilderCap
import Derived.Test.YtlibkhbachmcgaaGreatDoorProg
namespace Go.Proofs
open Go.Shelf
def Tryz.laysC245_ren:Go.Shelf.Ren:=⟨fun | 245=>211 | 279=>243 | 280=>244 | 281=>245 | 282=>246 | 316=>265 | 171=>95 | 205=>266 | 243=>145 | 246=>180 | 283=>216 | 284=>217 | 285=>218 | 286=>219 | 129=>251 | 317=>250 | 318=>252 | 319=>253 | 320=>254 | 337=>267 | 338=>268 | n=>n,fun | 9=>9 | 3=>3 | 75=>109 | 167=>238 | 4=>4 | 168=>241 | 210=>257 | 37=>83 | 0=>0 | 127=>142 | 145=>268 | 143=>266 | 2=>2 | 171=>219 | 53=>196 | 5=>5 | 173=>222 | 212=>246 | 51=>218 | 20=>20 | 213=>247 | 46=>157 | 232=>269 | 233=>270 | 80=>112 | n=>n,fun | 15=>4 | 16=>5 | 17=>3 | 18=>6 | 19=>7 | n=>n⟩
theorem Tryz.laysC245:Go.Proofs.LaysC.n245 Tryz.prog Tryz.laysC245_ren:= {
  mixed:=by kernel_rfl
  f129:=Tryz.func251.trans (congrArg some (by kernel_rfl))
  f171:=Tryz.func95.trans (congrArg some (by kernel_rfl))
  f205:=Tryz.func266.trans (congrArg some (by kernel_rfl))
  f243:=Tryz.func145.trans (congrArg some (by kernel_rfl))
  f245:=Tryz.func211.trans (congrArg some (by kernel_rfl))
  f246:=Tryz.func180.trans (congrArg some (by kernel_rfl))
  f279:=Tryz.func243.trans (congrArg some (by kernel_rfl))
  f280:=Tryz.func244.trans (congrArg some (by kernel_rfl))
  f281:=Tryz.func245.trans (congrArg some (by kernel_rfl))
  f282:=Tryz.func246.trans (congrArg some (by kernel_rfl))
  f283:=Tryz.func216.trans (congrArg some (by kernel_rfl))
  f284:=Tryz.func217.trans (congrArg some (by kernel_rfl))
  f285:=Tryz.func218.trans (congrArg some (by kernel_rfl))
  f286:=Tryz.func219.trans (congrArg some (by kernel_rfl))
  f316:=Tryz.func265.trans (congrArg some (by kernel_rfl))
  f317:=Tryz.func250.trans (congrArg some (by kernel_rfl))
  f318:=Tryz.func252.trans (congrArg some (by kernel_rfl))
  f319:=Tryz.func253.trans (congrArg some (by kernel_rfl))
  f320:=Tryz.func254.trans (congrArg some (by kernel_rfl))
  f337:=Tryz.func267.trans (congrArg some (by kernel_rfl))
  f338:=Tryz.func268.trans (congrArg some (by kernel_rfl))
  t0:=Tryz.underlying0
  a0:=Tryz.isAgg0
  z0:=Tryz.sizeOf0
  v0:=Tryz.zeroValue0
  t2:=Tryz.underlying2
  a2:=Tryz.isAgg2
  z2:=Tryz.sizeOf2
  v2:=Tryz.zeroValue2
  t3:=Tryz.underlying3
  a3:=Tryz.isAgg3
  z3:=Tryz.sizeOf3
  v3:=Tryz.zeroValue3
  t4:=Tryz.underlying4
  a4:=Tryz.isAgg4
  z4:=Tryz.sizeOf4
  v4:=Tryz.zeroValue4
  t5:=Tryz.underlying5
  a5:=Tryz.isAgg5
  z5:=Tryz.sizeOf5
  v5:=Tryz.zeroValue5
  t9:=Tryz.underlying9
  a9:=Tryz.isAgg9
  z9:=Tryz.sizeOf9
  v9:=Tryz.zeroValue9
  t20:=Tryz.underlying20
  a20:=Tryz.isAgg20
  z20:=Tryz.sizeOf20
  v20:=Tryz.zeroValue20
  t37:=Tryz.underlying83
  a37:=Tryz.isAgg83
  z37:=Tryz.sizeOf83
  v37:=Tryz.zeroValue83
  t46:=Tryz.underlying157
  a46:=Tryz.isAgg157
  z46:=Tryz.sizeOf157
  v46:=Tryz.zeroValue157
  t51:=Tryz.underlying218
  a51:=Tryz.isAgg218
  z51:=Tryz.sizeOf218
  v51:=Tryz.zeroValue218
  t53:=Tryz.underlying196
  a53:=Tryz.isAgg196
  z53:=Tryz.sizeOf196
  v53:=Tryz.zeroValue196
  t75:=Tryz.underlying109
  a75:=Tryz.isAgg109
  z75:=Tryz.sizeOf109
  v75:=Tryz.zeroValue109
  t127:=Tryz.underlying142
  a127:=Tryz.isAgg142
  z127:=Tryz.sizeOf142
  v127:=Tryz.zeroValue142
  t143:=Tryz.underlying266
  a143:=Tryz.isAgg266
  z143:=Tryz.sizeOf266
  v143:=Tryz.zeroValue266
  t145:=Tryz.underlying268
  a145:=Tryz.isAgg268
  z145:=Tryz.sizeOf268
  v145:=Tryz.zeroValue268
  t167:=Tryz.underlying238
  a167:=Tryz.isAgg238
  z167:=Tryz.sizeOf238
  v167:=Tryz.zeroValue238
  t168:=Tryz.underlying241
  a168:=Tryz.isAgg241
  z168:=Tryz.sizeOf241
  v168:=Tryz.zeroValue241
  t171:=Tryz.underlying219
  a171:=Tryz.isAgg219
  z171:=Tryz.sizeOf219
  v171:=Tryz.zeroValue219
  t173:=Tryz.underlying222
  a173:=Tryz.isAgg222
  z173:=Tryz.sizeOf222
  v173:=Tryz.zeroValue222
  t210:=Tryz.underlying257
  a210:=Tryz.isAgg257
  z210:=Tryz.sizeOf257
  v210:=Tryz.zeroValue257
  t212:=Tryz.underlying246
  a212:=Tryz.isAgg246
  z212:=Tryz.sizeOf246
  v212:=Tryz.zeroValue246
  t213:=Tryz.underlying247
  a213:=Tryz.isAgg247
  z213:=Tryz.sizeOf247
  t232:=Tryz.underlying269
  a232:=Tryz.isAgg269
  z232:=Tryz.sizeOf269
  v232:=Tryz.zeroValue269
  t233:=Tryz.underlying270
  a233:=Tryz.isAgg270
  z233:=Tryz.sizeOf270
  v233:=Tryz.zeroValue270
  g15:=by kernel_rfl
  g16:=by kernel_rfl
  g17:=by kernel_rfl
  g18:=by kernel_rfl
  g19:=by kernel_rfl
  t80:=Tryz.underlying112
  a80:=Tryz.isAgg112
  z80:=Tryz.sizeOf112
  v80:=Tryz.zeroValue112
  i0:=by kernel_rfl
  i2:=by kernel_rfl
  i3:=by kernel_rfl
  i4:=by kernel_rfl
  i5:=by kernel_rfl
  i9:=by kernel_rfl
  i20:=by kernel_rfl
  i37:=by kernel_rfl
  i46:=by kernel_rfl
  i51:=by kernel_rfl
  i53:=by kernel_rfl
  i75:=by kernel_rfl
  i80:=by kernel_rfl
  i127:=by kernel_rfl
  i143:=by kernel_rfl
  i145:=by kernel_rfl
  i167:=by kernel_rfl
  i168:=by kernel_rfl
  i171:=by kernel_rfl
  i173:=by kernel_rfl
  i210:=by kernel_rfl
  i212:=by kernel_rfl
  i232:=by kernel_rfl
  i233:=by kernel_rfl
  m15:=by kernel_rfl
  m16:=by kernel_rfl
  m17:=by kernel_rfl
  m18:=by kernel_rfl
  m19:=by kernel_rfl
  c0:=by kernel_rfl
  c2:=by kernel_rfl
  c3:=by kernel_rfl
  c4:=by kernel_rfl
  c5:=by kernel_rfl
  c9:=by kernel_rfl
  c20:=by kernel_rfl
  c37:=by kernel_rfl
  c46:=by kernel_rfl
  c51:=by kernel_rfl
  c53:=by kernel_rfl
  c75:=by kernel_rfl
  c80:=by kernel_rfl
  c127:=by kernel_rfl
  c143:=by kernel_rfl
  c145:=by kernel_rfl
  c167:=by kernel_rfl
  c168:=by kernel_rfl
  c171:=by kernel_rfl
  c173:=by kernel_rfl
  c210:=by kernel_rfl
  c212:=by kernel_rfl
  c213:=by kernel_rfl
  c232:=by kernel_rfl
  c233:=by kernel_rfl }
open Go.RowKit in
/--strconv.toError,at the inner package's ErrSyntax:'syntaxError(fn,s)' as an error:A*NumError IN A NEW BLOCK. (LAID:no walk:one application.) -/
theorem Tryz.strconv_toError_syntax (fn s:ByteArray) (base bits:Int) (ev:Value) (w:World) (hlim:s.size≤281474976710656) (hv:w.cell? ⟨4,0,none⟩=some ev) (hev:ev= .nilIface∨ ∃te pe,ev= .iface te pe):
    Calls Tryz.prog 211 #[.string fn, .string s, .int .i64 base, .int .i64 bits, .iface 238 (.int .i64 2)] w fun e w'=> ∃N,e= .returned (.iface 241 (.pointer (some ⟨N,0,none⟩)))∧w.heap.size≤N∧w'.heap[N]?=some (.cells #[.string fn, .string s,ev] 257 (0,0))∧Below w.heap.size w w':=Any.strconv_toError_syntax Tryz.laysC245 fn s base bits ev w hlim hv hev
def Tryz.lays152_ren:Go.Shelf.Ren:=⟨fun | 152=>161 | 137=>57 | 119=>199 | 224=>200 | 225=>201 | 217=>104 | 266=>152 | n=>n,fun | 9=>9 | 21=>21 | 3=>3 | 4=>4 | 5=>5 | 0=>0 | 46=>157 | n=>n,fun | n=>n⟩
theorem Tryz.lays152:Go.Proofs.Lays.n152 Tryz.prog Tryz.lays152_ren:= {
  mixed:=by kernel_rfl
  f119:=Tryz.func199.trans (congrArg some (by kernel_rfl))
  f137:=Tryz.func57.trans (congrArg some (by kernel_rfl))
  f152:=Tryz.func161.trans (congrArg some (by kernel_rfl))
  f217:=Tryz.func104.trans (congrArg some (by kernel_rfl))
  f224:=Tryz.func200.trans (congrArg some (by kernel_rfl))
  f225:=Tryz.func201.trans (congrArg some (by kernel_rfl))
  f266:=Tryz.func152.trans (congrArg some (by kernel_rfl))
  t0:=Tryz.underlying0
  a0:=Tryz.isAgg0
  z0:=Tryz.sizeOf0
  v0:=Tryz.zeroValue0
  t3:=Tryz.underlying3
  a3:=Tryz.isAgg3
  z3:=Tryz.sizeOf3
  v3:=Tryz.zeroValue3
  t4:=Tryz.underlying4
  a4:=Tryz.isAgg4
  z4:=Tryz.sizeOf4
  v4:=Tryz.zeroValue4
  t5:=Tryz.underlying5
  a5:=Tryz.isAgg5
  z5:=Tryz.sizeOf5
  v5:=Tryz.zeroValue5
  t9:=Tryz.underlying9
  a9:=Tryz.isAgg9
  z9:=Tryz.sizeOf9
  v9:=Tryz.zeroValue9
  t21:=Tryz.underlying21
  a21:=Tryz.isAgg21
  z21:=Tryz.sizeOf21
  v21:=Tryz.zeroValue21
  t46:=Tryz.underlying157
  a46:=Tryz.isAgg157
  z46:=Tryz.sizeOf157
  v46:=Tryz.zeroValue157 }
open Go.RowKit Go.Lib in
theorem Tryz.strings_IndexRune_ascii (s:ByteArray) (r:Int) (w:World) (h0:0≤r) (h1:r<128):
    Calls Tryz.prog 161 #[.string s, .int .i32 r] w fun e w'=>e= .returned (.int .i64 (Lib.indexByte s.data.toList r.toNat.toUInt8))∧w'=w:=Any.strings_IndexRune_ascii Tryz.lays152 s r w h0 h1
def Tryz.lays226_ren:Go.Shelf.Ren:=⟨fun | 226=>282 | n=>n,fun | 3=>3 | 4=>4 | n=>n,fun | n=>n⟩
theorem Tryz.lays226:Go.Proofs.Lays.n226 Tryz.prog Tryz.lays226_ren:= {
  mixed:=by kernel_rfl
  f226:=Tryz.func282.trans (congrArg some (by kernel_rfl))
  t3:=Tryz.underlying3
  a3:=Tryz.isAgg3
  z3:=Tryz.sizeOf3
  v3:=Tryz.zeroValue3
  t4:=Tryz.underlying4
  a4:=Tryz.isAgg4
  z4:=Tryz.sizeOf4
  v4:=Tryz.zeroValue4 }
open Go.RowKit Go.Lib in
theorem Tryz.strings_shouldUseASCIISet (n:Int) (w:World):
    Calls Tryz.prog 282 #[.int .i64 n] w fun e w'=>e= .returned (.bool (decide (8<n)))∧w'=w:=Any.strings_shouldUseASCIISet Tryz.lays226 n w
end Go.Proofs
