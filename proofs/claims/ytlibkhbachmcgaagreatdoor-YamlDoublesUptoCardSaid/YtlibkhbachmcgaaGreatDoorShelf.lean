/-
  DERIVED: THE SHELF's CONTRACTS AT THIS DUMP, IN PLAIN WORDS (tools/lay-plain.mjs out of 'YtlibkhbachmcgaaGreatDoorShelf.lean', which tools/lay-shelf.mjs wrote): THE SAME DECLARATIONS UNDER THE SAME NAMES: 'import', 'namespace', 'open', 'def', 'theorem' AND NOTHING ELSE: no command of the shelf's: FOR A HAND-IN. Each laying: the table of numbers ('.._ren') and one theorem, a field a fact of the dump's own or the kernel's comparison; each contract: ONE APPLICATION.
-/
import Derived.Shelf.Unicode.ValidAny
import Derived.Shelf.Strings.Builder1
import Derived.Shelf.Strings.Builder2
import Derived.Shelf.Strings.OnBuilder
import Derived.Shelf.Strings.Trim
import Derived.Shelf.Small.Utf8
import Derived.Shelf.Small.Strs
import Derived.Shelf.Small.Wraps
import Derived.Shelf.Strings.BuilderF
import Derived.Shelf.Strings.BuilderK
import Derived.Shelf.Strings.BuilderRune
import Derived.Shelf.Utf8.RuneCount
import Derived.Shelf.Strings.Builder2Cap
import Derived.Shelf.Strconv.Itoa0
import Derived.Shelf.Strconv.Itoa1
import Derived.Shelf.LaysM
import Derived.Shelf.Strconv.Itoa2
import Derived.Shelf.Strconv.Itoa3
import Derived.Shelf.Strconv.ParseIntEmpty
import Derived.Shelf.Strconv.Clone
import Derived.Shelf.Strconv.SyntaxError
import Derived.Shelf.LaysC
import Derived.Shelf.Strconv.ToError
import Derived.Shelf.Strconv.Lower
import Derived.Shelf.Strconv.ParseUint10
import Derived.Shelf.Strconv.ParseUint10Empty
import Derived.Shelf.Strconv.ParseUint10Any
import Derived.Shelf.Strconv.ParseInt10
import Derived.Shelf.Strconv.RangeError
import Derived.Shelf.Strconv.ToErrorRange
import Derived.Shelf.Strconv.ParseUintEmpty
import Derived.Shelf.Strconv.ParseUint10b64
import Derived.Shelf.Strconv.ParseUint10b32
import Derived.Shelf.Strconv.ParseUint10b16
import Derived.Shelf.Strconv.ParseUint10b8
import Derived.Shelf.Strconv.ParseUint10At
import Derived.Shelf.Strconv.ParseInt10At64
import Derived.Shelf.Strconv.ParseInt10At32
import Derived.Shelf.Strconv.ParseInt10At16
import Derived.Shelf.Strconv.ParseInt10At8
import Derived.Shelf.Strconv.ParseInt10All
import Derived.Shelf.Strconv.ParseIntPublic10
import Derived.Shelf.Strconv.ErrVarParseInt
import Derived.Shelf.Strings.Search1
import Derived.Shelf.Strings.Search2
import Derived.Shelf.Strings.Search3
import Derived.Shelf.Strings.Count
import Derived.Shelf.Strings.Shaped
import Derived.Shelf.Strings.Prefix
import Derived.Shelf.Strings.Split
import Derived.Shelf.Strings.Replace
import Derived.Shelf.Strings.SplitShaped
import Derived.Shelf.Unicode.Decode
import Derived.Shelf.Strings.Runes
import Derived.Shelf.Strings.RuneCount
import Derived.Shelf.Strings.IndexAny
import Derived.Shelf.Strings.AsciiSet
import Derived.Shelf.Strings.IndexAnyAll
import Derived.Shelf.Bits.Mul64
import Derived.Shelf.Strings.Repeat
import Derived.Shelf.Unicode.DecodeSlow
import Derived.Shelf.Unicode.DecodeAny
import Derived.Shelf.Unicode.DecodeLast
import Derived.Shelf.Strings.BuilderCap
import Derived.Test.YtlibkhbachmcgaaGreatDoorProg
namespace Go.Proofs
open Go.Shelf
def Tryz.lays169_ren:Go.Shelf.Ren:=⟨fun | 169=>71 | n=>n,fun | 70=>104 | 9=>9 | 0=>0 | 72=>106 | 37=>83 | 127=>142 | 3=>3 | 5=>5 | n=>n,fun | n=>n⟩
theorem Tryz.lays169:Go.Proofs.Lays.n169 Tryz.prog Tryz.lays169_ren:= {
  mixed:=by kernel_rfl
  f169:=Tryz.func71.trans (congrArg some (by kernel_rfl))
  t0:=Tryz.underlying0
  a0:=Tryz.isAgg0
  z0:=Tryz.sizeOf0
  v0:=Tryz.zeroValue0
  t3:=Tryz.underlying3
  a3:=Tryz.isAgg3
  z3:=Tryz.sizeOf3
  v3:=Tryz.zeroValue3
  t9:=Tryz.underlying9
  a9:=Tryz.isAgg9
  z9:=Tryz.sizeOf9
  v9:=Tryz.zeroValue9
  t37:=Tryz.underlying83
  a37:=Tryz.isAgg83
  z37:=Tryz.sizeOf83
  v37:=Tryz.zeroValue83
  t70:=Tryz.underlying104
  a70:=Tryz.isAgg104
  z70:=Tryz.sizeOf104
  v70:=Tryz.zeroValue104
  t72:=Tryz.underlying106
  a72:=Tryz.isAgg106
  z72:=Tryz.sizeOf106
  v72:=Tryz.zeroValue106
  t127:=Tryz.underlying142
  a127:=Tryz.isAgg142
  z127:=Tryz.sizeOf142
  v127:=Tryz.zeroValue142 }
theorem Tryz.Builder_Extra_169:Builder.Extra Tryz.prog Tryz.lays169_ren:= {
  sizeBuilder:=by kernel_rfl
  liesBuilder:=by kernel_rfl
  t5:=Tryz.underlying5
  a5:=Tryz.isAgg5
  z5:=Tryz.sizeOf5
  v5:=Tryz.zeroValue5
  infoByte:=by kernel_rfl
  cellsByte:=by kernel_rfl
  sizeByte:=by kernel_rfl
  neB5:=by decide }
def Tryz.lays161_ren:Go.Shelf.Ren:=⟨fun | 161=>38 | 231=>65 | 227=>66 | 233=>67 | 235=>68 | 228=>115 | 197=>85 | 151=>116 | 260=>130 | 152=>161 | 137=>57 | 119=>199 | 224=>200 | 225=>201 | 217=>104 | 266=>152 | n=>n,fun | 9=>9 | 4=>4 | 3=>3 | 5=>5 | 117=>100 | 116=>99 | 0=>0 | 124=>103 | 105=>122 | 21=>21 | 119=>153 | 46=>157 | 139=>156 | 138=>155 | n=>n,fun | 3=>0 | 4=>1 | n=>n⟩
theorem Tryz.lays161:Go.Proofs.Lays.n161 Tryz.prog Tryz.lays161_ren:= {
  mixed:=by kernel_rfl
  f119:=Tryz.func199.trans (congrArg some (by kernel_rfl))
  f137:=Tryz.func57.trans (congrArg some (by kernel_rfl))
  f151:=Tryz.func116.trans (congrArg some (by kernel_rfl))
  f152:=Tryz.func161.trans (congrArg some (by kernel_rfl))
  f161:=Tryz.func38.trans (congrArg some (by kernel_rfl))
  f197:=Tryz.func85.trans (congrArg some (by kernel_rfl))
  f217:=Tryz.func104.trans (congrArg some (by kernel_rfl))
  f224:=Tryz.func200.trans (congrArg some (by kernel_rfl))
  f225:=Tryz.func201.trans (congrArg some (by kernel_rfl))
  f227:=Tryz.func66.trans (congrArg some (by kernel_rfl))
  f228:=Tryz.func115.trans (congrArg some (by kernel_rfl))
  f231:=Tryz.func65.trans (congrArg some (by kernel_rfl))
  f233:=Tryz.func67.trans (congrArg some (by kernel_rfl))
  f235:=Tryz.func68.trans (congrArg some (by kernel_rfl))
  f260:=Tryz.func130.trans (congrArg some (by kernel_rfl))
  f266:=Tryz.func152.trans (congrArg some (by kernel_rfl))
  t0:=Tryz.underlying0
  a0:=Tryz.isAgg0
  z0:=Tryz.sizeOf0
  v0:=Tryz.zeroValue0
  t3:=Tryz.underlying3
  a3:=Tryz.isAgg3
  z3:=Tryz.sizeOf3
  v3:=Tryz.zeroValue3
  t4:=Tryz.underlying4
  a4:=Tryz.isAgg4
  z4:=Tryz.sizeOf4
  v4:=Tryz.zeroValue4
  t5:=Tryz.underlying5
  a5:=Tryz.isAgg5
  z5:=Tryz.sizeOf5
  v5:=Tryz.zeroValue5
  t9:=Tryz.underlying9
  a9:=Tryz.isAgg9
  z9:=Tryz.sizeOf9
  v9:=Tryz.zeroValue9
  t21:=Tryz.underlying21
  a21:=Tryz.isAgg21
  z21:=Tryz.sizeOf21
  v21:=Tryz.zeroValue21
  t46:=Tryz.underlying157
  a46:=Tryz.isAgg157
  z46:=Tryz.sizeOf157
  v46:=Tryz.zeroValue157
  t105:=Tryz.underlying122
  a105:=Tryz.isAgg122
  z105:=Tryz.sizeOf122
  v105:=Tryz.zeroValue122
  t116:=Tryz.underlying99
  a116:=Tryz.isAgg99
  z116:=Tryz.sizeOf99
  t117:=Tryz.underlying100
  a117:=Tryz.isAgg100
  z117:=Tryz.sizeOf100
  v117:=Tryz.zeroValue100
  t119:=Tryz.underlying153
  a119:=Tryz.isAgg153
  z119:=Tryz.sizeOf153
  t124:=Tryz.underlying103
  a124:=Tryz.isAgg103
  z124:=Tryz.sizeOf103
  v124:=Tryz.zeroValue103
  t138:=Tryz.underlying155
  a138:=Tryz.isAgg155
  z138:=Tryz.sizeOf155
  v138:=Tryz.zeroValue155
  t139:=Tryz.underlying156
  a139:=Tryz.isAgg156
  z139:=Tryz.sizeOf156
  v139:=Tryz.zeroValue156
  g3:=by kernel_rfl
  g4:=by kernel_rfl }
open Go.RowKit in
/--strings.TrimLeft: "TrimLeft returns a slice of the string s with all leading Unicode code points contained in cutset removed.":AT A cutset OF ONE ASCII BYTE. The world is as it was. (LAID:no walk:one application.) -/
theorem Tryz.strings_TrimLeft_one (s:ByteArray) (c:UInt8) (hc:c.toNat<128) (w:World):
    Calls Tryz.prog 38 #[.string s, .string ⟨#[c]⟩] w fun e w'=>e= .returned (.string ⟨(Lib.trimLeftB s.data.toList c).toArray⟩)∧w'=w:=Any.strings_TrimLeft_one Tryz.lays161 s c hc w
def Tryz.lays162_ren:Go.Shelf.Ren:=⟨fun | 162=>147 | 232=>131 | 227=>66 | 234=>132 | 236=>133 | 228=>115 | 271=>176 | 151=>116 | 120=>212 | 197=>85 | 152=>161 | 260=>130 | 137=>57 | 119=>199 | 224=>200 | 225=>201 | 217=>104 | 266=>152 | n=>n,fun | 9=>9 | 4=>4 | 3=>3 | 5=>5 | 117=>100 | 116=>99 | 0=>0 | 124=>103 | 21=>21 | 105=>122 | 46=>157 | 119=>153 | 139=>156 | 138=>155 | n=>n,fun | 3=>0 | 4=>1 | n=>n⟩
theorem Tryz.lays162:Go.Proofs.Lays.n162 Tryz.prog Tryz.lays162_ren:= {
  mixed:=by kernel_rfl
  f119:=Tryz.func199.trans (congrArg some (by kernel_rfl))
  f120:=Tryz.func212.trans (congrArg some (by kernel_rfl))
  f137:=Tryz.func57.trans (congrArg some (by kernel_rfl))
  f151:=Tryz.func116.trans (congrArg some (by kernel_rfl))
  f152:=Tryz.func161.trans (congrArg some (by kernel_rfl))
  f162:=Tryz.func147.trans (congrArg some (by kernel_rfl))
  f197:=Tryz.func85.trans (congrArg some (by kernel_rfl))
  f217:=Tryz.func104.trans (congrArg some (by kernel_rfl))
  f224:=Tryz.func200.trans (congrArg some (by kernel_rfl))
  f225:=Tryz.func201.trans (congrArg some (by kernel_rfl))
  f227:=Tryz.func66.trans (congrArg some (by kernel_rfl))
  f228:=Tryz.func115.trans (congrArg some (by kernel_rfl))
  f232:=Tryz.func131.trans (congrArg some (by kernel_rfl))
  f234:=Tryz.func132.trans (congrArg some (by kernel_rfl))
  f236:=Tryz.func133.trans (congrArg some (by kernel_rfl))
  f260:=Tryz.func130.trans (congrArg some (by kernel_rfl))
  f266:=Tryz.func152.trans (congrArg some (by kernel_rfl))
  f271:=Tryz.func176.trans (congrArg some (by kernel_rfl))
  t0:=Tryz.underlying0
  a0:=Tryz.isAgg0
  z0:=Tryz.sizeOf0
  v0:=Tryz.zeroValue0
  t3:=Tryz.underlying3
  a3:=Tryz.isAgg3
  z3:=Tryz.sizeOf3
  v3:=Tryz.zeroValue3
  t4:=Tryz.underlying4
  a4:=Tryz.isAgg4
  z4:=Tryz.sizeOf4
  v4:=Tryz.zeroValue4
  t5:=Tryz.underlying5
  a5:=Tryz.isAgg5
  z5:=Tryz.sizeOf5
  v5:=Tryz.zeroValue5
  t9:=Tryz.underlying9
  a9:=Tryz.isAgg9
  z9:=Tryz.sizeOf9
  v9:=Tryz.zeroValue9
  t21:=Tryz.underlying21
  a21:=Tryz.isAgg21
  z21:=Tryz.sizeOf21
  v21:=Tryz.zeroValue21
  t46:=Tryz.underlying157
  a46:=Tryz.isAgg157
  z46:=Tryz.sizeOf157
  v46:=Tryz.zeroValue157
  t105:=Tryz.underlying122
  a105:=Tryz.isAgg122
  z105:=Tryz.sizeOf122
  v105:=Tryz.zeroValue122
  t116:=Tryz.underlying99
  a116:=Tryz.isAgg99
  z116:=Tryz.sizeOf99
  t117:=Tryz.underlying100
  a117:=Tryz.isAgg100
  z117:=Tryz.sizeOf100
  v117:=Tryz.zeroValue100
  t119:=Tryz.underlying153
  a119:=Tryz.isAgg153
  z119:=Tryz.sizeOf153
  t124:=Tryz.underlying103
  a124:=Tryz.isAgg103
  z124:=Tryz.sizeOf103
  v124:=Tryz.zeroValue103
  t138:=Tryz.underlying155
  a138:=Tryz.isAgg155
  z138:=Tryz.sizeOf155
  v138:=Tryz.zeroValue155
  t139:=Tryz.underlying156
  a139:=Tryz.isAgg156
  z139:=Tryz.sizeOf156
  v139:=Tryz.zeroValue156
  g3:=by kernel_rfl
  g4:=by kernel_rfl }
open Go.RowKit in
/--strings.TrimRight: "TrimRight returns a slice of the string s, with all trailing Unicode code points contained in cutset removed.":AT A cutset OF ONE ASCII BYTE. The world is as it was. (LAID:no walk:one application.) -/
theorem Tryz.strings_TrimRight_one (s:ByteArray) (c:UInt8) (hc:c.toNat<128) (w:World) (hs:s.size≤9223372036854775807):
    Calls Tryz.prog 147 #[.string s, .string ⟨#[c]⟩] w fun e w'=>e= .returned (.string ⟨(Lib.trimRightB s.data.toList c).toArray⟩)∧w'=w:=Any.strings_TrimRight_one Tryz.lays162 s c hc w hs
def Tryz.lays160_ren:Go.Shelf.Ren:=⟨fun | 160=>87 | 232=>131 | 231=>65 | 227=>66 | 234=>132 | 233=>67 | 236=>133 | 235=>68 | 228=>115 | 271=>176 | 151=>116 | 197=>85 | 120=>212 | 152=>161 | 260=>130 | 137=>57 | 119=>199 | 224=>200 | 225=>201 | 217=>104 | 266=>152 | n=>n,fun | 9=>9 | 4=>4 | 3=>3 | 5=>5 | 117=>100 | 116=>99 | 0=>0 | 124=>103 | 21=>21 | 105=>122 | 46=>157 | 119=>153 | 139=>156 | 138=>155 | n=>n,fun | 3=>0 | 4=>1 | n=>n⟩
theorem Tryz.lays160:Go.Proofs.Lays.n160 Tryz.prog Tryz.lays160_ren:= {
  mixed:=by kernel_rfl
  f119:=Tryz.func199.trans (congrArg some (by kernel_rfl))
  f120:=Tryz.func212.trans (congrArg some (by kernel_rfl))
  f137:=Tryz.func57.trans (congrArg some (by kernel_rfl))
  f151:=Tryz.func116.trans (congrArg some (by kernel_rfl))
  f152:=Tryz.func161.trans (congrArg some (by kernel_rfl))
  f160:=Tryz.func87.trans (congrArg some (by kernel_rfl))
  f197:=Tryz.func85.trans (congrArg some (by kernel_rfl))
  f217:=Tryz.func104.trans (congrArg some (by kernel_rfl))
  f224:=Tryz.func200.trans (congrArg some (by kernel_rfl))
  f225:=Tryz.func201.trans (congrArg some (by kernel_rfl))
  f227:=Tryz.func66.trans (congrArg some (by kernel_rfl))
  f228:=Tryz.func115.trans (congrArg some (by kernel_rfl))
  f231:=Tryz.func65.trans (congrArg some (by kernel_rfl))
  f232:=Tryz.func131.trans (congrArg some (by kernel_rfl))
  f233:=Tryz.func67.trans (congrArg some (by kernel_rfl))
  f234:=Tryz.func132.trans (congrArg some (by kernel_rfl))
  f235:=Tryz.func68.trans (congrArg some (by kernel_rfl))
  f236:=Tryz.func133.trans (congrArg some (by kernel_rfl))
  f260:=Tryz.func130.trans (congrArg some (by kernel_rfl))
  f266:=Tryz.func152.trans (congrArg some (by kernel_rfl))
  f271:=Tryz.func176.trans (congrArg some (by kernel_rfl))
  t0:=Tryz.underlying0
  a0:=Tryz.isAgg0
  z0:=Tryz.sizeOf0
  v0:=Tryz.zeroValue0
  t3:=Tryz.underlying3
  a3:=Tryz.isAgg3
  z3:=Tryz.sizeOf3
  v3:=Tryz.zeroValue3
  t4:=Tryz.underlying4
  a4:=Tryz.isAgg4
  z4:=Tryz.sizeOf4
  v4:=Tryz.zeroValue4
  t5:=Tryz.underlying5
  a5:=Tryz.isAgg5
  z5:=Tryz.sizeOf5
  v5:=Tryz.zeroValue5
  t9:=Tryz.underlying9
  a9:=Tryz.isAgg9
  z9:=Tryz.sizeOf9
  v9:=Tryz.zeroValue9
  t21:=Tryz.underlying21
  a21:=Tryz.isAgg21
  z21:=Tryz.sizeOf21
  v21:=Tryz.zeroValue21
  t46:=Tryz.underlying157
  a46:=Tryz.isAgg157
  z46:=Tryz.sizeOf157
  v46:=Tryz.zeroValue157
  t105:=Tryz.underlying122
  a105:=Tryz.isAgg122
  z105:=Tryz.sizeOf122
  v105:=Tryz.zeroValue122
  t116:=Tryz.underlying99
  a116:=Tryz.isAgg99
  z116:=Tryz.sizeOf99
  t117:=Tryz.underlying100
  a117:=Tryz.isAgg100
  z117:=Tryz.sizeOf100
  v117:=Tryz.zeroValue100
  t119:=Tryz.underlying153
  a119:=Tryz.isAgg153
  z119:=Tryz.sizeOf153
  t124:=Tryz.underlying103
  a124:=Tryz.isAgg103
  z124:=Tryz.sizeOf103
  v124:=Tryz.zeroValue103
  t138:=Tryz.underlying155
  a138:=Tryz.isAgg155
  z138:=Tryz.sizeOf155
  v138:=Tryz.zeroValue155
  t139:=Tryz.underlying156
  a139:=Tryz.isAgg156
  z139:=Tryz.sizeOf156
  v139:=Tryz.zeroValue156
  g3:=by kernel_rfl
  g4:=by kernel_rfl }
open Go.RowKit in
/--strings.Trim: "Trim returns a slice of the string s with all leading and trailing Unicode code points contained in cutset removed.":AT A cutset OF ONE ASCII BYTE. THE WORLD BEHIND IT:as it was,or (where s is not empty) with ONE DRAW MORE off the tape:the statement 'return trimLeftByte(trimRightByte(s,c),c)' draws its order of evaluation. (LAID:no walk:one application.) -/
theorem Tryz.strings_Trim_one (s:ByteArray) (c:UInt8) (hc:c.toNat<128) (w:World) (hs:s.size≤9223372036854775807):
    Calls Tryz.prog 87 #[.string s, .string ⟨#[c]⟩] w fun e w'=>e= .returned (.string ⟨(Lib.trimB s.data.toList c).toArray⟩)∧(w'=w∨w'=w.drew):=Any.strings_Trim_one Tryz.lays160 s c hc w hs
def Tryz.lays137_ren:Go.Shelf.Ren:=⟨fun | 137=>57 | 217=>104 | 266=>152 | n=>n,fun | 9=>9 | 5=>5 | 3=>3 | n=>n,fun | n=>n⟩
theorem Tryz.lays137:Go.Proofs.Lays.n137 Tryz.prog Tryz.lays137_ren:= {
  mixed:=by kernel_rfl
  f137:=Tryz.func57.trans (congrArg some (by kernel_rfl))
  f217:=Tryz.func104.trans (congrArg some (by kernel_rfl))
  f266:=Tryz.func152.trans (congrArg some (by kernel_rfl))
  t3:=Tryz.underlying3
  a3:=Tryz.isAgg3
  z3:=Tryz.sizeOf3
  v3:=Tryz.zeroValue3
  t5:=Tryz.underlying5
  a5:=Tryz.isAgg5
  z5:=Tryz.sizeOf5
  v5:=Tryz.zeroValue5
  t9:=Tryz.underlying9
  a9:=Tryz.isAgg9
  z9:=Tryz.sizeOf9
  v9:=Tryz.zeroValue9 }
open Go.RowKit in
/--strings.IndexByte: "IndexByte returns the index of the first instance of c in s, or -1 if c is not present in s.":IT RETURNS 'Lib.indexByte s c';the world is as it was. (LAID:no walk:one application.) -/
theorem Tryz.strings_IndexByte (s:ByteArray) (c:Int) (w:World):
    Calls Tryz.prog 57 #[.string s, .int .u8 c] w fun e w'=>e= .returned (.int .i64 (Lib.indexByte s.data.toList c.toNat.toUInt8))∧w'=w:=Any.strings_IndexByte Tryz.lays137 s c w
def Tryz.lays103_ren:Go.Shelf.Ren:=⟨fun | 103=>183 | 210=>222 | 206=>134 | n=>n,fun | 9=>9 | 4=>4 | 24=>39 | 3=>3 | n=>n,fun | n=>n⟩
theorem Tryz.lays103:Go.Proofs.Lays.n103 Tryz.prog Tryz.lays103_ren:= {
  mixed:=by kernel_rfl
  f103:=Tryz.func183.trans (congrArg some (by kernel_rfl))
  f206:=Tryz.func134.trans (congrArg some (by kernel_rfl))
  f210:=Tryz.func222.trans (congrArg some (by kernel_rfl))
  t3:=Tryz.underlying3
  a3:=Tryz.isAgg3
  z3:=Tryz.sizeOf3
  v3:=Tryz.zeroValue3
  t4:=Tryz.underlying4
  a4:=Tryz.isAgg4
  z4:=Tryz.sizeOf4
  v4:=Tryz.zeroValue4
  t9:=Tryz.underlying9
  a9:=Tryz.isAgg9
  z9:=Tryz.sizeOf9
  v9:=Tryz.zeroValue9
  t24:=Tryz.underlying39
  a24:=Tryz.isAgg39
  z24:=Tryz.sizeOf39
  v24:=Tryz.zeroValue39 }
open Go.RowKit in
/--strings.CutPrefix: "CutPrefix returns s without the provided leading prefix string and reports whether it found the prefix. If s doesn't start with prefix, CutPrefix returns s, false. If prefix is the empty string, CutPrefix returns s, true.":IT RETURNS '(Lib.trimPrefix s p,Lib.hasPrefix s p)';the world is as it was. (LAID:no walk:one application.) -/
theorem Tryz.strings_CutPrefix (s p:ByteArray) (w:World):
    Calls Tryz.prog 183 #[.string s, .string p] w fun e w'=>e= .returned (.tuple #[.string ⟨(Lib.trimPrefix s.data.toList p.data.toList).toArray⟩, .bool (Lib.hasPrefix s.data.toList p.data.toList)])∧w'=w:=Any.strings_CutPrefix Tryz.lays103 s p w
open Go.RowKit in
/--(*strings.Builder).String: "String returns the accumulated string.":WHATEVER THE BUILDER HOLDS;THE FORM '_k':OVER 'Lib.IsBuilderF' (a builder that 'String()' may have read),AND WITH THE FRAME THAT REACHES ABOVE THE BUILDER:'Lib.OthersKept':every block that is not b and is no row of uint8's stands as it stood:the iterator of a range among them. (LAID:no walk:one application.) -/
theorem Tryz.Builder_String_any_k (B b:Nat) (l:List UInt8) (w:World) (h:Lib.IsBuilderF 106 5 B b (Lib.byteCells l) w) (hBw:B≤w.heap.size):
    Calls Tryz.prog 71 #[.pointer (some ⟨b,0,none⟩)] w fun e w'=>e= .returned (.string ⟨l.toArray⟩)∧(Lib.IsBuilderF 106 5 B b (Lib.byteCells l) w'∧Below B w w'∧Lib.OthersKept 5 (some b) w w'):=Any.Builder_String_any_k Tryz.lays169 Tryz.Builder_Extra_169 B b l w h hBw
def Tryz.laysM171_ren:Go.Shelf.Ren:=⟨fun | 171=>95 | 243=>145 | 246=>180 | 283=>216 | 284=>217 | 285=>218 | 286=>219 | 129=>251 | 317=>250 | 318=>252 | 319=>253 | 320=>254 | 337=>267 | 338=>268 | n=>n,fun | 3=>3 | 9=>9 | 2=>2 | 4=>4 | 171=>219 | 0=>0 | 53=>196 | 37=>83 | 5=>5 | 173=>222 | 212=>246 | 51=>218 | 20=>20 | 213=>247 | 46=>157 | 232=>269 | 233=>270 | n=>n,fun | 17=>3 | 18=>6 | 19=>7 | n=>n⟩
theorem Tryz.laysM171:Go.Proofs.LaysM.n171 Tryz.prog Tryz.laysM171_ren:= {
  mixed:=by kernel_rfl
  f129:=Tryz.func251.trans (congrArg some (by kernel_rfl))
  f171:=Tryz.func95.trans (congrArg some (by kernel_rfl))
  f243:=Tryz.func145.trans (congrArg some (by kernel_rfl))
  f246:=Tryz.func180.trans (congrArg some (by kernel_rfl))
  f283:=Tryz.func216.trans (congrArg some (by kernel_rfl))
  f284:=Tryz.func217.trans (congrArg some (by kernel_rfl))
  f285:=Tryz.func218.trans (congrArg some (by kernel_rfl))
  f286:=Tryz.func219.trans (congrArg some (by kernel_rfl))
  f317:=Tryz.func250.trans (congrArg some (by kernel_rfl))
  f318:=Tryz.func252.trans (congrArg some (by kernel_rfl))
  f319:=Tryz.func253.trans (congrArg some (by kernel_rfl))
  f320:=Tryz.func254.trans (congrArg some (by kernel_rfl))
  f337:=Tryz.func267.trans (congrArg some (by kernel_rfl))
  f338:=Tryz.func268.trans (congrArg some (by kernel_rfl))
  t0:=Tryz.underlying0
  a0:=Tryz.isAgg0
  z0:=Tryz.sizeOf0
  v0:=Tryz.zeroValue0
  t2:=Tryz.underlying2
  a2:=Tryz.isAgg2
  z2:=Tryz.sizeOf2
  v2:=Tryz.zeroValue2
  t3:=Tryz.underlying3
  a3:=Tryz.isAgg3
  z3:=Tryz.sizeOf3
  v3:=Tryz.zeroValue3
  t4:=Tryz.underlying4
  a4:=Tryz.isAgg4
  z4:=Tryz.sizeOf4
  v4:=Tryz.zeroValue4
  t5:=Tryz.underlying5
  a5:=Tryz.isAgg5
  z5:=Tryz.sizeOf5
  v5:=Tryz.zeroValue5
  t9:=Tryz.underlying9
  a9:=Tryz.isAgg9
  z9:=Tryz.sizeOf9
  v9:=Tryz.zeroValue9
  t20:=Tryz.underlying20
  a20:=Tryz.isAgg20
  z20:=Tryz.sizeOf20
  v20:=Tryz.zeroValue20
  t37:=Tryz.underlying83
  a37:=Tryz.isAgg83
  z37:=Tryz.sizeOf83
  v37:=Tryz.zeroValue83
  t46:=Tryz.underlying157
  a46:=Tryz.isAgg157
  z46:=Tryz.sizeOf157
  v46:=Tryz.zeroValue157
  t51:=Tryz.underlying218
  a51:=Tryz.isAgg218
  z51:=Tryz.sizeOf218
  v51:=Tryz.zeroValue218
  t53:=Tryz.underlying196
  a53:=Tryz.isAgg196
  z53:=Tryz.sizeOf196
  v53:=Tryz.zeroValue196
  t171:=Tryz.underlying219
  a171:=Tryz.isAgg219
  z171:=Tryz.sizeOf219
  v171:=Tryz.zeroValue219
  t173:=Tryz.underlying222
  a173:=Tryz.isAgg222
  z173:=Tryz.sizeOf222
  v173:=Tryz.zeroValue222
  t212:=Tryz.underlying246
  a212:=Tryz.isAgg246
  z212:=Tryz.sizeOf246
  v212:=Tryz.zeroValue246
  t213:=Tryz.underlying247
  a213:=Tryz.isAgg247
  z213:=Tryz.sizeOf247
  t232:=Tryz.underlying269
  a232:=Tryz.isAgg269
  z232:=Tryz.sizeOf269
  v232:=Tryz.zeroValue269
  t233:=Tryz.underlying270
  a233:=Tryz.isAgg270
  z233:=Tryz.sizeOf270
  v233:=Tryz.zeroValue270
  g17:=by kernel_rfl
  g18:=by kernel_rfl
  g19:=by kernel_rfl
  i0:=by kernel_rfl
  i2:=by kernel_rfl
  i3:=by kernel_rfl
  i4:=by kernel_rfl
  i5:=by kernel_rfl
  i9:=by kernel_rfl
  i20:=by kernel_rfl
  i37:=by kernel_rfl
  i46:=by kernel_rfl
  i51:=by kernel_rfl
  i53:=by kernel_rfl
  i171:=by kernel_rfl
  i173:=by kernel_rfl
  i212:=by kernel_rfl
  i232:=by kernel_rfl
  i233:=by kernel_rfl
  m17:=by kernel_rfl
  m18:=by kernel_rfl
  m19:=by kernel_rfl }
open Go.RowKit Go.Sort Go.Lib in
/--strconv.Itoa: "Itoa is equivalent to FormatInt(int64(i), 10).":i's DECIMAL NUMERAL ('Lib.itoa':a '-' where i is negative,then the digits),FOR EVERY int. The world behind the call:the world before it,new blocks behind the heap (the library's 'var a [24]byte'),draws. (LAID:no walk:one application.) -/
theorem Tryz.strconv_Itoa (n:Int) (h0: -9223372036854775808≤n) (h1:n≤9223372036854775807) (w:World) (htab:Lib.TabIs Tryz.prog w "internal/strconv.uint64pow10" .u64 Lib.pow10Tab):
    Calls Tryz.prog 95 #[.int .i64 n] w fun e w'=>e= .returned (.string ⟨(Lib.itoa n).toArray⟩)∧ ∃k os,w'=grow (w.drewN k) os:=Any.strconv_Itoa Tryz.laysM171 n h0 h1 w htab
def Tryz.laysC174_ren:Go.Shelf.Ren:=⟨fun | 174=>175 | 247=>210 | 245=>211 | 287=>242 | 279=>243 | 280=>244 | 281=>245 | 282=>246 | 321=>263 | 322=>264 | 316=>265 | 171=>95 | 205=>266 | 243=>145 | 246=>180 | 283=>216 | 284=>217 | 285=>218 | 286=>219 | 129=>251 | 317=>250 | 318=>252 | 319=>253 | 320=>254 | 337=>267 | 338=>268 | n=>n,fun | 9=>9 | 3=>3 | 2=>2 | 75=>109 | 85=>194 | 4=>4 | 167=>238 | 5=>5 | 53=>196 | 175=>239 | 46=>157 | 168=>241 | 37=>83 | 0=>0 | 210=>257 | 21=>21 | 127=>142 | 145=>268 | 143=>266 | 171=>219 | 173=>222 | 212=>246 | 51=>218 | 20=>20 | 213=>247 | 232=>269 | 233=>270 | 80=>112 | n=>n,fun | 15=>4 | 16=>5 | 17=>3 | 18=>6 | 19=>7 | n=>n⟩
theorem Tryz.laysC174:Go.Proofs.LaysC.n174 Tryz.prog Tryz.laysC174_ren:= {
  mixed:=by kernel_rfl
  f129:=Tryz.func251.trans (congrArg some (by kernel_rfl))
  f171:=Tryz.func95.trans (congrArg some (by kernel_rfl))
  f174:=Tryz.func175.trans (congrArg some (by kernel_rfl))
  f205:=Tryz.func266.trans (congrArg some (by kernel_rfl))
  f243:=Tryz.func145.trans (congrArg some (by kernel_rfl))
  f245:=Tryz.func211.trans (congrArg some (by kernel_rfl))
  f246:=Tryz.func180.trans (congrArg some (by kernel_rfl))
  f247:=Tryz.func210.trans (congrArg some (by kernel_rfl))
  f279:=Tryz.func243.trans (congrArg some (by kernel_rfl))
  f280:=Tryz.func244.trans (congrArg some (by kernel_rfl))
  f281:=Tryz.func245.trans (congrArg some (by kernel_rfl))
  f282:=Tryz.func246.trans (congrArg some (by kernel_rfl))
  f283:=Tryz.func216.trans (congrArg some (by kernel_rfl))
  f284:=Tryz.func217.trans (congrArg some (by kernel_rfl))
  f285:=Tryz.func218.trans (congrArg some (by kernel_rfl))
  f286:=Tryz.func219.trans (congrArg some (by kernel_rfl))
  f287:=Tryz.func242.trans (congrArg some (by kernel_rfl))
  f316:=Tryz.func265.trans (congrArg some (by kernel_rfl))
  f317:=Tryz.func250.trans (congrArg some (by kernel_rfl))
  f318:=Tryz.func252.trans (congrArg some (by kernel_rfl))
  f319:=Tryz.func253.trans (congrArg some (by kernel_rfl))
  f320:=Tryz.func254.trans (congrArg some (by kernel_rfl))
  f321:=Tryz.func263.trans (congrArg some (by kernel_rfl))
  f322:=Tryz.func264.trans (congrArg some (by kernel_rfl))
  f337:=Tryz.func267.trans (congrArg some (by kernel_rfl))
  f338:=Tryz.func268.trans (congrArg some (by kernel_rfl))
  t0:=Tryz.underlying0
  a0:=Tryz.isAgg0
  z0:=Tryz.sizeOf0
  v0:=Tryz.zeroValue0
  t2:=Tryz.underlying2
  a2:=Tryz.isAgg2
  z2:=Tryz.sizeOf2
  v2:=Tryz.zeroValue2
  t3:=Tryz.underlying3
  a3:=Tryz.isAgg3
  z3:=Tryz.sizeOf3
  v3:=Tryz.zeroValue3
  t4:=Tryz.underlying4
  a4:=Tryz.isAgg4
  z4:=Tryz.sizeOf4
  v4:=Tryz.zeroValue4
  t5:=Tryz.underlying5
  a5:=Tryz.isAgg5
  z5:=Tryz.sizeOf5
  v5:=Tryz.zeroValue5
  t9:=Tryz.underlying9
  a9:=Tryz.isAgg9
  z9:=Tryz.sizeOf9
  v9:=Tryz.zeroValue9
  t20:=Tryz.underlying20
  a20:=Tryz.isAgg20
  z20:=Tryz.sizeOf20
  v20:=Tryz.zeroValue20
  t21:=Tryz.underlying21
  a21:=Tryz.isAgg21
  z21:=Tryz.sizeOf21
  v21:=Tryz.zeroValue21
  t37:=Tryz.underlying83
  a37:=Tryz.isAgg83
  z37:=Tryz.sizeOf83
  v37:=Tryz.zeroValue83
  t46:=Tryz.underlying157
  a46:=Tryz.isAgg157
  z46:=Tryz.sizeOf157
  v46:=Tryz.zeroValue157
  t51:=Tryz.underlying218
  a51:=Tryz.isAgg218
  z51:=Tryz.sizeOf218
  v51:=Tryz.zeroValue218
  t53:=Tryz.underlying196
  a53:=Tryz.isAgg196
  z53:=Tryz.sizeOf196
  v53:=Tryz.zeroValue196
  t75:=Tryz.underlying109
  a75:=Tryz.isAgg109
  z75:=Tryz.sizeOf109
  v75:=Tryz.zeroValue109
  t85:=Tryz.underlying194
  a85:=Tryz.isAgg194
  z85:=Tryz.sizeOf194
  v85:=Tryz.zeroValue194
  t127:=Tryz.underlying142
  a127:=Tryz.isAgg142
  z127:=Tryz.sizeOf142
  v127:=Tryz.zeroValue142
  t143:=Tryz.underlying266
  a143:=Tryz.isAgg266
  z143:=Tryz.sizeOf266
  v143:=Tryz.zeroValue266
  t145:=Tryz.underlying268
  a145:=Tryz.isAgg268
  z145:=Tryz.sizeOf268
  v145:=Tryz.zeroValue268
  t167:=Tryz.underlying238
  a167:=Tryz.isAgg238
  z167:=Tryz.sizeOf238
  v167:=Tryz.zeroValue238
  t168:=Tryz.underlying241
  a168:=Tryz.isAgg241
  z168:=Tryz.sizeOf241
  v168:=Tryz.zeroValue241
  t171:=Tryz.underlying219
  a171:=Tryz.isAgg219
  z171:=Tryz.sizeOf219
  v171:=Tryz.zeroValue219
  t173:=Tryz.underlying222
  a173:=Tryz.isAgg222
  z173:=Tryz.sizeOf222
  v173:=Tryz.zeroValue222
  t175:=Tryz.underlying239
  a175:=Tryz.isAgg239
  z175:=Tryz.sizeOf239
  v175:=Tryz.zeroValue239
  t210:=Tryz.underlying257
  a210:=Tryz.isAgg257
  z210:=Tryz.sizeOf257
  v210:=Tryz.zeroValue257
  t212:=Tryz.underlying246
  a212:=Tryz.isAgg246
  z212:=Tryz.sizeOf246
  v212:=Tryz.zeroValue246
  t213:=Tryz.underlying247
  a213:=Tryz.isAgg247
  z213:=Tryz.sizeOf247
  t232:=Tryz.underlying269
  a232:=Tryz.isAgg269
  z232:=Tryz.sizeOf269
  v232:=Tryz.zeroValue269
  t233:=Tryz.underlying270
  a233:=Tryz.isAgg270
  z233:=Tryz.sizeOf270
  v233:=Tryz.zeroValue270
  g15:=by kernel_rfl
  g16:=by kernel_rfl
  g17:=by kernel_rfl
  g18:=by kernel_rfl
  g19:=by kernel_rfl
  t80:=Tryz.underlying112
  a80:=Tryz.isAgg112
  z80:=Tryz.sizeOf112
  v80:=Tryz.zeroValue112
  i0:=by kernel_rfl
  i2:=by kernel_rfl
  i3:=by kernel_rfl
  i4:=by kernel_rfl
  i5:=by kernel_rfl
  i9:=by kernel_rfl
  i20:=by kernel_rfl
  i21:=by kernel_rfl
  i37:=by kernel_rfl
  i46:=by kernel_rfl
  i51:=by kernel_rfl
  i53:=by kernel_rfl
  i75:=by kernel_rfl
  i80:=by kernel_rfl
  i85:=by kernel_rfl
  i127:=by kernel_rfl
  i143:=by kernel_rfl
  i145:=by kernel_rfl
  i167:=by kernel_rfl
  i168:=by kernel_rfl
  i171:=by kernel_rfl
  i173:=by kernel_rfl
  i175:=by kernel_rfl
  i210:=by kernel_rfl
  i212:=by kernel_rfl
  i232:=by kernel_rfl
  i233:=by kernel_rfl
  m15:=by kernel_rfl
  m16:=by kernel_rfl
  m17:=by kernel_rfl
  m18:=by kernel_rfl
  m19:=by kernel_rfl
  c0:=by kernel_rfl
  c2:=by kernel_rfl
  c3:=by kernel_rfl
  c4:=by kernel_rfl
  c5:=by kernel_rfl
  c9:=by kernel_rfl
  c20:=by kernel_rfl
  c21:=by kernel_rfl
  c37:=by kernel_rfl
  c46:=by kernel_rfl
  c51:=by kernel_rfl
  c53:=by kernel_rfl
  c75:=by kernel_rfl
  c80:=by kernel_rfl
  c85:=by kernel_rfl
  c127:=by kernel_rfl
  c143:=by kernel_rfl
  c145:=by kernel_rfl
  c167:=by kernel_rfl
  c168:=by kernel_rfl
  c171:=by kernel_rfl
  c173:=by kernel_rfl
  c175:=by kernel_rfl
  c210:=by kernel_rfl
  c212:=by kernel_rfl
  c213:=by kernel_rfl
  c232:=by kernel_rfl
  c233:=by kernel_rfl }
open Go.RowKit in
/--strconv.ParseInt(s,10,64),AT EVERY STRING THAT SPELLS AN int64 ('Lib.parseIntB 64 s.data.toList= .ok v'):v,AND NO ERROR. (LAID:no walk:one application.) -/
theorem Tryz.strconv_ParseInt_10_at64_ok (s:ByteArray) (hmax:s.size≤9223372036854775806) (v:Int) (h:Lib.parseIntB 64 s.data.toList= .ok v) (w:World):
    Calls Tryz.prog 175 #[.string s, .int .i64 10, .int .i64 64] w fun e w'=>e= .returned (.tuple #[.int .i64 v, .nilIface])∧(w'=w∨ ∃t,w'=Lib.bytesWorld w 5 t):=Any.strconv_ParseInt_10_at64_ok Tryz.laysC174 s hmax v h w
open Go.RowKit in
theorem Tryz.strconv_ParseInt_10_at64_range_var (s:ByteArray) (hlim:s.size≤281474976710656) (h:Lib.parseIntB 64 s.data.toList= .range) (tp:TypeId) (p:Value) (w:World) (hvar:w.var? Tryz.prog "strconv.ErrRange" =some #[.iface tp p]):
    Calls Tryz.prog 175 #[.string s, .int .i64 10, .int .i64 64] w fun e w'=> ∃N,e= .returned (.tuple #[.int .i64 (Lib.intSat 64 s.data.toList), .iface 241 (.pointer (some ⟨N,0,none⟩))])∧w.heap.size≤N∧w'.heap[N]?=some (.cells #[.string ⟨#[80,97,114,115,101,73,110,116]⟩, .string s, .iface tp p] 257 (0,0))∧Below w.heap.size w w':=Any.strconv_ParseInt_10_at64_range_var Tryz.laysC174 s hlim h tp p w hvar
def Tryz.lays143_ren:Go.Shelf.Ren:=⟨fun | 143=>136 | 219=>177 | 217=>104 | 225=>201 | 224=>200 | 267=>213 | 266=>152 | 314=>247 | n=>n,fun | 9=>9 | 3=>3 | 4=>4 | 5=>5 | 46=>157 | 146=>224 | 51=>218 | n=>n,fun | 1=>2 | n=>n⟩
theorem Tryz.lays143:Go.Proofs.Lays.n143 Tryz.prog Tryz.lays143_ren:= {
  mixed:=by kernel_rfl
  f143:=Tryz.func136.trans (congrArg some (by kernel_rfl))
  f217:=Tryz.func104.trans (congrArg some (by kernel_rfl))
  f219:=Tryz.func177.trans (congrArg some (by kernel_rfl))
  f224:=Tryz.func200.trans (congrArg some (by kernel_rfl))
  f225:=Tryz.func201.trans (congrArg some (by kernel_rfl))
  f266:=Tryz.func152.trans (congrArg some (by kernel_rfl))
  f267:=Tryz.func213.trans (congrArg some (by kernel_rfl))
  f314:=Tryz.func247.trans (congrArg some (by kernel_rfl))
  t3:=Tryz.underlying3
  a3:=Tryz.isAgg3
  z3:=Tryz.sizeOf3
  v3:=Tryz.zeroValue3
  t4:=Tryz.underlying4
  a4:=Tryz.isAgg4
  z4:=Tryz.sizeOf4
  v4:=Tryz.zeroValue4
  t5:=Tryz.underlying5
  a5:=Tryz.isAgg5
  z5:=Tryz.sizeOf5
  v5:=Tryz.zeroValue5
  t9:=Tryz.underlying9
  a9:=Tryz.isAgg9
  z9:=Tryz.sizeOf9
  v9:=Tryz.zeroValue9
  t46:=Tryz.underlying157
  a46:=Tryz.isAgg157
  z46:=Tryz.sizeOf157
  v46:=Tryz.zeroValue157
  t51:=Tryz.underlying218
  a51:=Tryz.isAgg218
  z51:=Tryz.sizeOf218
  v51:=Tryz.zeroValue218
  t146:=Tryz.underlying224
  a146:=Tryz.isAgg224
  z146:=Tryz.sizeOf224
  v146:=Tryz.zeroValue224
  g1:=by kernel_rfl }
open Go.RowKit Go.Lib in
/--strings.Index: "Index returns the index of the first instance of substr in s, or -1 if substr is not present in s.":IT RETURNS 'Lib.index s substr';the world is as it was. (LAID:no walk:one application.) -/
theorem Tryz.strings_Index (s sub:ByteArray) (m:Int) (w:World) (hs:s.size<4294967281) (hm:w.cell? ⟨2,0,none⟩=some (.int .i64 m)):
    Calls Tryz.prog 136 #[.string s, .string sub] w fun e w'=>e= .returned (.int .i64 (Lib.index s.data.toList sub.data.toList))∧w'=w:=Any.strings_Index Tryz.lays143 s sub m w hs hm
def Tryz.lays144_ren:Go.Shelf.Ren:=⟨fun | 144=>90 | 143=>136 | 219=>177 | 217=>104 | 225=>201 | 224=>200 | 267=>213 | 266=>152 | 314=>247 | n=>n,fun | 9=>9 | 4=>4 | 3=>3 | 5=>5 | 46=>157 | 146=>224 | 51=>218 | n=>n,fun | 1=>2 | n=>n⟩
theorem Tryz.lays144:Go.Proofs.Lays.n144 Tryz.prog Tryz.lays144_ren:= {
  mixed:=by kernel_rfl
  f143:=Tryz.func136.trans (congrArg some (by kernel_rfl))
  f144:=Tryz.func90.trans (congrArg some (by kernel_rfl))
  f217:=Tryz.func104.trans (congrArg some (by kernel_rfl))
  f219:=Tryz.func177.trans (congrArg some (by kernel_rfl))
  f224:=Tryz.func200.trans (congrArg some (by kernel_rfl))
  f225:=Tryz.func201.trans (congrArg some (by kernel_rfl))
  f266:=Tryz.func152.trans (congrArg some (by kernel_rfl))
  f267:=Tryz.func213.trans (congrArg some (by kernel_rfl))
  f314:=Tryz.func247.trans (congrArg some (by kernel_rfl))
  t3:=Tryz.underlying3
  a3:=Tryz.isAgg3
  z3:=Tryz.sizeOf3
  v3:=Tryz.zeroValue3
  t4:=Tryz.underlying4
  a4:=Tryz.isAgg4
  z4:=Tryz.sizeOf4
  v4:=Tryz.zeroValue4
  t5:=Tryz.underlying5
  a5:=Tryz.isAgg5
  z5:=Tryz.sizeOf5
  v5:=Tryz.zeroValue5
  t9:=Tryz.underlying9
  a9:=Tryz.isAgg9
  z9:=Tryz.sizeOf9
  v9:=Tryz.zeroValue9
  t46:=Tryz.underlying157
  a46:=Tryz.isAgg157
  z46:=Tryz.sizeOf157
  v46:=Tryz.zeroValue157
  t51:=Tryz.underlying218
  a51:=Tryz.isAgg218
  z51:=Tryz.sizeOf218
  v51:=Tryz.zeroValue218
  t146:=Tryz.underlying224
  a146:=Tryz.isAgg224
  z146:=Tryz.sizeOf224
  v146:=Tryz.zeroValue224
  g1:=by kernel_rfl }
open Go.RowKit Go.Lib in
/--strings.Contains: "Contains reports whether substr is within s.":AT A substr OF ONE BYTE c:IT RETURNS 'decide (0≤Lib.indexByte s c)';the world is as it was. (LAID:no walk:one application.) -/
theorem Tryz.strings_Contains_one (s:ByteArray) (c:UInt8) (w:World):
    Calls Tryz.prog 90 #[.string s, .string ⟨#[c]⟩] w fun e w'=>e= .returned (.bool (decide (0≤Lib.indexByte s.data.toList c)))∧w'=w:=Any.strings_Contains_one Tryz.lays144 s c w
open Go.RowKit Go.Lib in
/--strings.Contains: "Contains reports whether substr is within s.":IT RETURNS 'Lib.contains s substr';the world is as it was. (LAID:no walk:one application.) -/
theorem Tryz.strings_Contains (s sub:ByteArray) (m:Int) (w:World) (hs:s.size<4294967281) (hm:w.cell? ⟨2,0,none⟩=some (.int .i64 m)):
    Calls Tryz.prog 90 #[.string s, .string sub] w fun e w'=>e= .returned (.bool (Lib.contains s.data.toList sub.data.toList))∧w'=w:=Any.strings_Contains Tryz.lays144 s sub m w hs hm
def Tryz.lays138_ren:Go.Shelf.Ren:=⟨fun | 138=>214 | 195=>248 | 218=>249 | 143=>136 | 219=>177 | 217=>104 | 225=>201 | 224=>200 | 267=>213 | 266=>152 | 314=>247 | n=>n,fun | 9=>9 | 3=>3 | 4=>4 | 5=>5 | 0=>0 | 46=>157 | 146=>224 | 51=>218 | n=>n,fun | 1=>2 | n=>n⟩
theorem Tryz.lays138:Go.Proofs.Lays.n138 Tryz.prog Tryz.lays138_ren:= {
  mixed:=by kernel_rfl
  f138:=Tryz.func214.trans (congrArg some (by kernel_rfl))
  f143:=Tryz.func136.trans (congrArg some (by kernel_rfl))
  f195:=Tryz.func248.trans (congrArg some (by kernel_rfl))
  f217:=Tryz.func104.trans (congrArg some (by kernel_rfl))
  f218:=Tryz.func249.trans (congrArg some (by kernel_rfl))
  f219:=Tryz.func177.trans (congrArg some (by kernel_rfl))
  f224:=Tryz.func200.trans (congrArg some (by kernel_rfl))
  f225:=Tryz.func201.trans (congrArg some (by kernel_rfl))
  f266:=Tryz.func152.trans (congrArg some (by kernel_rfl))
  f267:=Tryz.func213.trans (congrArg some (by kernel_rfl))
  f314:=Tryz.func247.trans (congrArg some (by kernel_rfl))
  t0:=Tryz.underlying0
  a0:=Tryz.isAgg0
  z0:=Tryz.sizeOf0
  v0:=Tryz.zeroValue0
  t3:=Tryz.underlying3
  a3:=Tryz.isAgg3
  z3:=Tryz.sizeOf3
  v3:=Tryz.zeroValue3
  t4:=Tryz.underlying4
  a4:=Tryz.isAgg4
  z4:=Tryz.sizeOf4
  v4:=Tryz.zeroValue4
  t5:=Tryz.underlying5
  a5:=Tryz.isAgg5
  z5:=Tryz.sizeOf5
  v5:=Tryz.zeroValue5
  t9:=Tryz.underlying9
  a9:=Tryz.isAgg9
  z9:=Tryz.sizeOf9
  v9:=Tryz.zeroValue9
  t46:=Tryz.underlying157
  a46:=Tryz.isAgg157
  z46:=Tryz.sizeOf157
  v46:=Tryz.zeroValue157
  t51:=Tryz.underlying218
  a51:=Tryz.isAgg218
  z51:=Tryz.sizeOf218
  v51:=Tryz.zeroValue218
  t146:=Tryz.underlying224
  a146:=Tryz.isAgg224
  z146:=Tryz.sizeOf224
  v146:=Tryz.zeroValue224
  g1:=by kernel_rfl }
open Go.RowKit Go.Lib in
/--strings.Count AT A substr OF ONE BYTE ('hp'): "Count counts the number of non-overlapping instances of substr in s.":IT RETURNS 'Lib.countByte s (that byte)';the world is as it was. ✋ NO CONTRACT HERE YET at an empty substr (utf8.RuneCountInString) or at a longer one (a loop over strings.Index). (LAID:no walk:one application.) -/
theorem Tryz.strings_Count_one (s:ByteArray) (c:UInt8) (w:World):
    Calls Tryz.prog 214 #[.string s, .string ⟨#[c]⟩] w fun e w'=>e= .returned (.int .i64 (Lib.countByte s.data.toList c))∧w'=w:=Any.strings_Count_one Tryz.lays138 s c w
def Tryz.lays99_ren:Go.Shelf.Ren:=⟨fun | 99=>88 | 206=>134 | n=>n,fun | 9=>9 | 4=>4 | 3=>3 | n=>n,fun | n=>n⟩
theorem Tryz.lays99:Go.Proofs.Lays.n99 Tryz.prog Tryz.lays99_ren:= {
  mixed:=by kernel_rfl
  f99:=Tryz.func88.trans (congrArg some (by kernel_rfl))
  f206:=Tryz.func134.trans (congrArg some (by kernel_rfl))
  t3:=Tryz.underlying3
  a3:=Tryz.isAgg3
  z3:=Tryz.sizeOf3
  v3:=Tryz.zeroValue3
  t4:=Tryz.underlying4
  a4:=Tryz.isAgg4
  z4:=Tryz.sizeOf4
  v4:=Tryz.zeroValue4
  t9:=Tryz.underlying9
  a9:=Tryz.isAgg9
  z9:=Tryz.sizeOf9
  v9:=Tryz.zeroValue9 }
open Go.RowKit Go.Lib in
/--strings.HasPrefix: "HasPrefix reports whether the string s begins with prefix.":IT RETURNS 'Lib.hasPrefix s prefix';the world is as it was. (LAID:no walk:one application.) -/
theorem Tryz.strings_HasPrefix (s p:ByteArray) (w:World):
    Calls Tryz.prog 88 #[.string s, .string p] w fun e w'=>e= .returned (.bool (Lib.hasPrefix s.data.toList p.data.toList))∧w'=w:=Any.strings_HasPrefix Tryz.lays99 s p w
def Tryz.lays100_ren:Go.Shelf.Ren:=⟨fun | 100=>89 | 207=>135 | n=>n,fun | 9=>9 | 4=>4 | 3=>3 | n=>n,fun | n=>n⟩
theorem Tryz.lays100:Go.Proofs.Lays.n100 Tryz.prog Tryz.lays100_ren:= {
  mixed:=by kernel_rfl
  f100:=Tryz.func89.trans (congrArg some (by kernel_rfl))
  f207:=Tryz.func135.trans (congrArg some (by kernel_rfl))
  t3:=Tryz.underlying3
  a3:=Tryz.isAgg3
  z3:=Tryz.sizeOf3
  v3:=Tryz.zeroValue3
  t4:=Tryz.underlying4
  a4:=Tryz.isAgg4
  z4:=Tryz.sizeOf4
  v4:=Tryz.zeroValue4
  t9:=Tryz.underlying9
  a9:=Tryz.isAgg9
  z9:=Tryz.sizeOf9
  v9:=Tryz.zeroValue9 }
open Go.RowKit Go.Lib in
/--strings.HasSuffix: "HasSuffix reports whether the string s ends with suffix.":IT RETURNS 'Lib.hasSuffix s suffix';the world is as it was. ('hs':no Go string is longer:a caller has it of every string that it was handed.) (LAID:no walk:one application.) -/
theorem Tryz.strings_HasSuffix (s p:ByteArray) (w:World) (hs:s.size≤9223372036854775807):
    Calls Tryz.prog 89 #[.string s, .string p] w fun e w'=>e= .returned (.bool (Lib.hasSuffix s.data.toList p.data.toList))∧w'=w:=Any.strings_HasSuffix Tryz.lays100 s p w hs
def Tryz.lays101_ren:Go.Shelf.Ren:=⟨fun | 101=>185 | 208=>223 | 206=>134 | n=>n,fun | 9=>9 | 4=>4 | 3=>3 | n=>n,fun | n=>n⟩
theorem Tryz.lays101:Go.Proofs.Lays.n101 Tryz.prog Tryz.lays101_ren:= {
  mixed:=by kernel_rfl
  f101:=Tryz.func185.trans (congrArg some (by kernel_rfl))
  f206:=Tryz.func134.trans (congrArg some (by kernel_rfl))
  f208:=Tryz.func223.trans (congrArg some (by kernel_rfl))
  t3:=Tryz.underlying3
  a3:=Tryz.isAgg3
  z3:=Tryz.sizeOf3
  v3:=Tryz.zeroValue3
  t4:=Tryz.underlying4
  a4:=Tryz.isAgg4
  z4:=Tryz.sizeOf4
  v4:=Tryz.zeroValue4
  t9:=Tryz.underlying9
  a9:=Tryz.isAgg9
  z9:=Tryz.sizeOf9
  v9:=Tryz.zeroValue9 }
open Go.RowKit Go.Lib in
/--strings.TrimPrefix: "TrimPrefix returns s without the provided leading prefix string. If s doesn't start with prefix, s is returned unchanged.":IT RETURNS 'Lib.trimPrefix s prefix';the world is as it was. (LAID:no walk:one application.) -/
theorem Tryz.strings_TrimPrefix (s p:ByteArray) (w:World):
    Calls Tryz.prog 185 #[.string s, .string p] w fun e w'=>e= .returned (.string ⟨(Lib.trimPrefix s.data.toList p.data.toList).toArray⟩)∧w'=w:=Any.strings_TrimPrefix Tryz.lays101 s p w
def Tryz.lays155_ren:Go.Shelf.Ren:=⟨fun | 155=>137 | 154=>178 | 138=>214 | 165=>69 | 143=>136 | 166=>70 | 197=>85 | 169=>71 | 195=>248 | 218=>249 | 240=>117 | 241=>118 | 219=>177 | 260=>130 | 276=>162 | 277=>163 | 217=>104 | 225=>201 | 224=>200 | 267=>213 | 266=>152 | 314=>247 | n=>n,fun | 9=>9 | 3=>3 | 4=>4 | 72=>106 | 0=>0 | 76=>110 | 105=>122 | 21=>21 | 5=>5 | 70=>104 | 20=>20 | 37=>83 | 75=>109 | 127=>142 | 164=>174 | 46=>157 | 119=>153 | 139=>156 | 138=>155 | 146=>224 | 51=>218 | 80=>112 | n=>n,fun | 1=>2 | 3=>0 | 4=>1 | n=>n⟩
theorem Tryz.lays155:Go.Proofs.Lays.n155 Tryz.prog Tryz.lays155_ren:= {
  mixed:=by kernel_rfl
  f138:=Tryz.func214.trans (congrArg some (by kernel_rfl))
  f143:=Tryz.func136.trans (congrArg some (by kernel_rfl))
  f154:=Tryz.func178.trans (congrArg some (by kernel_rfl))
  f155:=Tryz.func137.trans (congrArg some (by kernel_rfl))
  f165:=Tryz.func69.trans (congrArg some (by kernel_rfl))
  f166:=Tryz.func70.trans (congrArg some (by kernel_rfl))
  f169:=Tryz.func71.trans (congrArg some (by kernel_rfl))
  f195:=Tryz.func248.trans (congrArg some (by kernel_rfl))
  f197:=Tryz.func85.trans (congrArg some (by kernel_rfl))
  f217:=Tryz.func104.trans (congrArg some (by kernel_rfl))
  f218:=Tryz.func249.trans (congrArg some (by kernel_rfl))
  f219:=Tryz.func177.trans (congrArg some (by kernel_rfl))
  f224:=Tryz.func200.trans (congrArg some (by kernel_rfl))
  f225:=Tryz.func201.trans (congrArg some (by kernel_rfl))
  f240:=Tryz.func117.trans (congrArg some (by kernel_rfl))
  f241:=Tryz.func118.trans (congrArg some (by kernel_rfl))
  f260:=Tryz.func130.trans (congrArg some (by kernel_rfl))
  f266:=Tryz.func152.trans (congrArg some (by kernel_rfl))
  f267:=Tryz.func213.trans (congrArg some (by kernel_rfl))
  f276:=Tryz.func162.trans (congrArg some (by kernel_rfl))
  f277:=Tryz.func163.trans (congrArg some (by kernel_rfl))
  f314:=Tryz.func247.trans (congrArg some (by kernel_rfl))
  t0:=Tryz.underlying0
  a0:=Tryz.isAgg0
  z0:=Tryz.sizeOf0
  v0:=Tryz.zeroValue0
  t3:=Tryz.underlying3
  a3:=Tryz.isAgg3
  z3:=Tryz.sizeOf3
  v3:=Tryz.zeroValue3
  t4:=Tryz.underlying4
  a4:=Tryz.isAgg4
  z4:=Tryz.sizeOf4
  v4:=Tryz.zeroValue4
  t5:=Tryz.underlying5
  a5:=Tryz.isAgg5
  z5:=Tryz.sizeOf5
  v5:=Tryz.zeroValue5
  t9:=Tryz.underlying9
  a9:=Tryz.isAgg9
  z9:=Tryz.sizeOf9
  v9:=Tryz.zeroValue9
  t20:=Tryz.underlying20
  a20:=Tryz.isAgg20
  z20:=Tryz.sizeOf20
  v20:=Tryz.zeroValue20
  t21:=Tryz.underlying21
  a21:=Tryz.isAgg21
  z21:=Tryz.sizeOf21
  v21:=Tryz.zeroValue21
  t37:=Tryz.underlying83
  a37:=Tryz.isAgg83
  z37:=Tryz.sizeOf83
  v37:=Tryz.zeroValue83
  t46:=Tryz.underlying157
  a46:=Tryz.isAgg157
  z46:=Tryz.sizeOf157
  v46:=Tryz.zeroValue157
  t51:=Tryz.underlying218
  a51:=Tryz.isAgg218
  z51:=Tryz.sizeOf218
  v51:=Tryz.zeroValue218
  t70:=Tryz.underlying104
  a70:=Tryz.isAgg104
  z70:=Tryz.sizeOf104
  v70:=Tryz.zeroValue104
  t72:=Tryz.underlying106
  a72:=Tryz.isAgg106
  z72:=Tryz.sizeOf106
  v72:=Tryz.zeroValue106
  t75:=Tryz.underlying109
  a75:=Tryz.isAgg109
  z75:=Tryz.sizeOf109
  v75:=Tryz.zeroValue109
  t76:=Tryz.underlying110
  a76:=Tryz.isAgg110
  z76:=Tryz.sizeOf110
  v76:=Tryz.zeroValue110
  t105:=Tryz.underlying122
  a105:=Tryz.isAgg122
  z105:=Tryz.sizeOf122
  v105:=Tryz.zeroValue122
  t119:=Tryz.underlying153
  a119:=Tryz.isAgg153
  z119:=Tryz.sizeOf153
  t127:=Tryz.underlying142
  a127:=Tryz.isAgg142
  z127:=Tryz.sizeOf142
  v127:=Tryz.zeroValue142
  t138:=Tryz.underlying155
  a138:=Tryz.isAgg155
  z138:=Tryz.sizeOf155
  v138:=Tryz.zeroValue155
  t139:=Tryz.underlying156
  a139:=Tryz.isAgg156
  z139:=Tryz.sizeOf156
  v139:=Tryz.zeroValue156
  t146:=Tryz.underlying224
  a146:=Tryz.isAgg224
  z146:=Tryz.sizeOf224
  v146:=Tryz.zeroValue224
  t164:=Tryz.underlying174
  a164:=Tryz.isAgg174
  z164:=Tryz.sizeOf174
  v164:=Tryz.zeroValue174
  g1:=by kernel_rfl
  g3:=by kernel_rfl
  g4:=by kernel_rfl }
theorem Tryz.Builder_Extra_155:Builder.Extra Tryz.prog Tryz.lays155_ren:= {
  sizeBuilder:=by kernel_rfl
  liesBuilder:=by kernel_rfl
  t5:=Tryz.underlying5
  a5:=Tryz.isAgg5
  z5:=Tryz.sizeOf5
  v5:=Tryz.zeroValue5
  infoByte:=by kernel_rfl
  cellsByte:=by kernel_rfl
  sizeByte:=by kernel_rfl
  neB5:=by decide }
open Go.RowKit Go.Lib in
/--strings.ReplaceAll: "ReplaceAll returns a copy of the string s with all non-overlapping instances of old replaced by new.":AT AN old THAT IS NOT EMPTY:'Lib.replaceAll s old new'. (LAID:no walk:one application.) -/
theorem Tryz.strings_ReplaceAll (s old new:ByteArray) (m:Int) (w:World) (hs:s.size<4294967281) (hm:w.cell? ⟨2,0,none⟩=some (.int .i64 m)) (h1:1≤old.size) (hlen:s.size+Lib.countB s old*new.size≤140737488355328):
    Calls Tryz.prog 137 #[.string s, .string old, .string new] w fun e w'=>
      e= .returned (.string ⟨(Lib.replaceAll s.data.toList old.data.toList new.data.toList).toArray⟩)∧Below w.heap.size w w':=Any.strings_ReplaceAll Tryz.lays155 Tryz.Builder_Extra_155 s old new m w hs hm h1 hlen
def Tryz.lays197_ren:Go.Shelf.Ren:=⟨fun | 197=>85 | 260=>130 | n=>n,fun | 9=>9 | 21=>21 | 3=>3 | 4=>4 | 5=>5 | 105=>122 | 119=>153 | 0=>0 | 46=>157 | 139=>156 | 138=>155 | n=>n,fun | 3=>0 | 4=>1 | n=>n⟩
theorem Tryz.lays197:Go.Proofs.Lays.n197 Tryz.prog Tryz.lays197_ren:= {
  mixed:=by kernel_rfl
  f197:=Tryz.func85.trans (congrArg some (by kernel_rfl))
  f260:=Tryz.func130.trans (congrArg some (by kernel_rfl))
  t0:=Tryz.underlying0
  a0:=Tryz.isAgg0
  z0:=Tryz.sizeOf0
  v0:=Tryz.zeroValue0
  t3:=Tryz.underlying3
  a3:=Tryz.isAgg3
  z3:=Tryz.sizeOf3
  v3:=Tryz.zeroValue3
  t4:=Tryz.underlying4
  a4:=Tryz.isAgg4
  z4:=Tryz.sizeOf4
  v4:=Tryz.zeroValue4
  t5:=Tryz.underlying5
  a5:=Tryz.isAgg5
  z5:=Tryz.sizeOf5
  v5:=Tryz.zeroValue5
  t9:=Tryz.underlying9
  a9:=Tryz.isAgg9
  z9:=Tryz.sizeOf9
  v9:=Tryz.zeroValue9
  t21:=Tryz.underlying21
  a21:=Tryz.isAgg21
  z21:=Tryz.sizeOf21
  v21:=Tryz.zeroValue21
  t46:=Tryz.underlying157
  a46:=Tryz.isAgg157
  z46:=Tryz.sizeOf157
  v46:=Tryz.zeroValue157
  t105:=Tryz.underlying122
  a105:=Tryz.isAgg122
  z105:=Tryz.sizeOf122
  v105:=Tryz.zeroValue122
  t119:=Tryz.underlying153
  a119:=Tryz.isAgg153
  z119:=Tryz.sizeOf153
  t138:=Tryz.underlying155
  a138:=Tryz.isAgg155
  z138:=Tryz.sizeOf155
  v138:=Tryz.zeroValue155
  t139:=Tryz.underlying156
  a139:=Tryz.isAgg156
  z139:=Tryz.sizeOf156
  v139:=Tryz.zeroValue156
  g3:=by kernel_rfl
  g4:=by kernel_rfl }
def Tryz.lays105_ren:Go.Shelf.Ren:=⟨fun | 105=>143 | 212=>181 | 99=>88 | 165=>69 | 166=>70 | 170=>182 | 169=>71 | 263=>220 | 264=>221 | 206=>134 | 240=>117 | 241=>118 | 276=>162 | 277=>163 | n=>n,fun | 9=>9 | 3=>3 | 4=>4 | 20=>20 | 0=>0 | 46=>157 | 109=>199 | 5=>5 | 72=>106 | 76=>110 | 51=>218 | 146=>224 | 53=>196 | 148=>226 | 70=>104 | 37=>83 | 75=>109 | 127=>142 | 164=>174 | 80=>112 | n=>n,fun | n=>n⟩
theorem Tryz.lays105:Go.Proofs.Lays.n105 Tryz.prog Tryz.lays105_ren:= {
  mixed:=by kernel_rfl
  f99:=Tryz.func88.trans (congrArg some (by kernel_rfl))
  f105:=Tryz.func143.trans (congrArg some (by kernel_rfl))
  f165:=Tryz.func69.trans (congrArg some (by kernel_rfl))
  f166:=Tryz.func70.trans (congrArg some (by kernel_rfl))
  f169:=Tryz.func71.trans (congrArg some (by kernel_rfl))
  f170:=Tryz.func182.trans (congrArg some (by kernel_rfl))
  f206:=Tryz.func134.trans (congrArg some (by kernel_rfl))
  f212:=Tryz.func181.trans (congrArg some (by kernel_rfl))
  f240:=Tryz.func117.trans (congrArg some (by kernel_rfl))
  f241:=Tryz.func118.trans (congrArg some (by kernel_rfl))
  f263:=Tryz.func220.trans (congrArg some (by kernel_rfl))
  f264:=Tryz.func221.trans (congrArg some (by kernel_rfl))
  f276:=Tryz.func162.trans (congrArg some (by kernel_rfl))
  f277:=Tryz.func163.trans (congrArg some (by kernel_rfl))
  t0:=Tryz.underlying0
  a0:=Tryz.isAgg0
  z0:=Tryz.sizeOf0
  v0:=Tryz.zeroValue0
  t3:=Tryz.underlying3
  a3:=Tryz.isAgg3
  z3:=Tryz.sizeOf3
  v3:=Tryz.zeroValue3
  t4:=Tryz.underlying4
  a4:=Tryz.isAgg4
  z4:=Tryz.sizeOf4
  v4:=Tryz.zeroValue4
  t5:=Tryz.underlying5
  a5:=Tryz.isAgg5
  z5:=Tryz.sizeOf5
  v5:=Tryz.zeroValue5
  t9:=Tryz.underlying9
  a9:=Tryz.isAgg9
  z9:=Tryz.sizeOf9
  v9:=Tryz.zeroValue9
  t20:=Tryz.underlying20
  a20:=Tryz.isAgg20
  z20:=Tryz.sizeOf20
  v20:=Tryz.zeroValue20
  t37:=Tryz.underlying83
  a37:=Tryz.isAgg83
  z37:=Tryz.sizeOf83
  v37:=Tryz.zeroValue83
  t46:=Tryz.underlying157
  a46:=Tryz.isAgg157
  z46:=Tryz.sizeOf157
  v46:=Tryz.zeroValue157
  t51:=Tryz.underlying218
  a51:=Tryz.isAgg218
  z51:=Tryz.sizeOf218
  v51:=Tryz.zeroValue218
  t53:=Tryz.underlying196
  a53:=Tryz.isAgg196
  z53:=Tryz.sizeOf196
  v53:=Tryz.zeroValue196
  t70:=Tryz.underlying104
  a70:=Tryz.isAgg104
  z70:=Tryz.sizeOf104
  v70:=Tryz.zeroValue104
  t72:=Tryz.underlying106
  a72:=Tryz.isAgg106
  z72:=Tryz.sizeOf106
  v72:=Tryz.zeroValue106
  t75:=Tryz.underlying109
  a75:=Tryz.isAgg109
  z75:=Tryz.sizeOf109
  v75:=Tryz.zeroValue109
  t76:=Tryz.underlying110
  a76:=Tryz.isAgg110
  z76:=Tryz.sizeOf110
  v76:=Tryz.zeroValue110
  t109:=Tryz.underlying199
  a109:=Tryz.isAgg199
  z109:=Tryz.sizeOf199
  v109:=Tryz.zeroValue199
  t127:=Tryz.underlying142
  a127:=Tryz.isAgg142
  z127:=Tryz.sizeOf142
  v127:=Tryz.zeroValue142
  t146:=Tryz.underlying224
  a146:=Tryz.isAgg224
  z146:=Tryz.sizeOf224
  v146:=Tryz.zeroValue224
  t148:=Tryz.underlying226
  a148:=Tryz.isAgg226
  z148:=Tryz.sizeOf226
  v148:=Tryz.zeroValue226
  t164:=Tryz.underlying174
  a164:=Tryz.isAgg174
  z164:=Tryz.sizeOf174
  v164:=Tryz.zeroValue174 }
theorem Tryz.Builder_Extra_105:Builder.Extra Tryz.prog Tryz.lays105_ren:= {
  sizeBuilder:=by kernel_rfl
  liesBuilder:=by kernel_rfl
  t5:=Tryz.underlying5
  a5:=Tryz.isAgg5
  z5:=Tryz.sizeOf5
  v5:=Tryz.zeroValue5
  infoByte:=by kernel_rfl
  cellsByte:=by kernel_rfl
  sizeByte:=by kernel_rfl
  neB5:=by decide }
open Go.RowKit Go.Lib in
/-- **strings.Repeat:count≥0,the result within one allocation:count copies of s.**(LAID:no walk:one application.) -/
theorem Tryz.strings_Repeat (s:ByteArray) (c:Nat) (w:World) (hc:c≤9223372036854775807) (hlen:s.size*c≤140737488355328):
    Calls Tryz.prog 143 #[.string s, .int .i64 c] w fun e w'=>e= .returned (.string ⟨(Lib.repeatL s.data.toList c).toArray⟩)∧Below w.heap.size w w':=Any.strings_Repeat Tryz.lays105 Tryz.Builder_Extra_105 s c w hc hlen
open Go.RowKit Go.Lib in
/-- **unicode/utf8.DecodeRuneInString AT EVERY STRING.**(LAID:no walk:one application.) -/
theorem Tryz.utf8_DecodeRuneInString (s:ByteArray) (w:World) (hT:Lib.Utf8Tabs 0 1 w):
    Calls Tryz.prog 85 #[.string s] w fun e w'=>e= .returned (.tuple #[.int .i32 (Lib.decodeGo s).1, .int .i64 (Lib.decodeGo s).2])∧Below w.heap.size w w':=Any.utf8_DecodeRuneInString Tryz.lays197 s w hT
def Tryz.laysValid_ren:Go.Shelf.Ren:=⟨fun | 196=>84 | 259=>129 | n=>n,fun | 9=>9 | 4=>4 | 3=>3 | 5=>5 | 12=>12 | 119=>153 | 0=>0 | 46=>157 | 139=>156 | 138=>155 | 53=>196 | n=>n,fun | 3=>0 | 4=>1 | n=>n⟩
theorem Tryz.laysValid:Go.Proofs.Lays.n196 Tryz.prog Tryz.laysValid_ren:= {
  mixed:=by kernel_rfl
  f196:=Tryz.func84.trans (congrArg some (by kernel_rfl))
  f259:=Tryz.func129.trans (congrArg some (by kernel_rfl))
  t0:=Tryz.underlying0
  a0:=Tryz.isAgg0
  z0:=Tryz.sizeOf0
  v0:=Tryz.zeroValue0
  t3:=Tryz.underlying3
  a3:=Tryz.isAgg3
  z3:=Tryz.sizeOf3
  v3:=Tryz.zeroValue3
  t4:=Tryz.underlying4
  a4:=Tryz.isAgg4
  z4:=Tryz.sizeOf4
  v4:=Tryz.zeroValue4
  t5:=Tryz.underlying5
  a5:=Tryz.isAgg5
  z5:=Tryz.sizeOf5
  v5:=Tryz.zeroValue5
  t9:=Tryz.underlying9
  a9:=Tryz.isAgg9
  z9:=Tryz.sizeOf9
  v9:=Tryz.zeroValue9
  t12:=Tryz.underlying12
  a12:=Tryz.isAgg12
  z12:=Tryz.sizeOf12
  v12:=Tryz.zeroValue12
  t46:=Tryz.underlying157
  a46:=Tryz.isAgg157
  z46:=Tryz.sizeOf157
  v46:=Tryz.zeroValue157
  t53:=Tryz.underlying196
  a53:=Tryz.isAgg196
  z53:=Tryz.sizeOf196
  v53:=Tryz.zeroValue196
  t119:=Tryz.underlying153
  a119:=Tryz.isAgg153
  z119:=Tryz.sizeOf153
  t138:=Tryz.underlying155
  a138:=Tryz.isAgg155
  z138:=Tryz.sizeOf155
  v138:=Tryz.zeroValue155
  t139:=Tryz.underlying156
  a139:=Tryz.isAgg156
  z139:=Tryz.sizeOf156
  v139:=Tryz.zeroValue156
  g3:=by kernel_rfl
  g4:=by kernel_rfl }
open Go.RowKit in
theorem Tryz.utf8_ValidString (s:ByteArray) (w:World) (hs:s.size≤9223372036854775807) (hT:Lib.Utf8Tabs 0 1 w):
    Calls Tryz.prog 84 #[.string s] w fun e w'=>e= .returned (.bool (Lib.validD s.data.toList))∧Below w.heap.size w w':=Any.utf8_ValidString Tryz.laysValid s w hs hT
end Go.Proofs
