import Derived.Shelf.Unicode.ValidAny
import Derived.Shelf.Strings.Builder1
import Derived.Shelf.Strings.Builder2
import Derived.Shelf.Strings.OnBuilder
import Derived.Shelf.Strings.Trim
import Derived.Shelf.Small.Utf8
import Derived.Shelf.Small.Strs
import Derived.Shelf.Small.Wraps
import Derived.Shelf.Strings.BuilderF
import Derived.Shelf.Strings.BuilderK
import Derived.Shelf.Strings.BuilderRune
import Derived.Shelf.Utf8.RuneCount
import Derived.Shelf.Strings.Builder2Cap
import Derived.Shelf.Strconv.Itoa0
import Derived.Shelf.Strconv.Itoa1
import Derived.Shelf.LaysM
import Derived.Shelf.Strconv.Itoa2
import Derived.Shelf.Strconv.Itoa3
import Derived.Shelf.Strconv.ParseIntEmpty
import Derived.Shelf.Strconv.Clone
import Derived.Shelf.Strconv.SyntaxError
import Derived.Shelf.LaysC
import Derived.Shelf.Strconv.ToError
import Derived.Shelf.Strconv.Lower
import Derived.Shelf.Strconv.ParseUint10
import Derived.Shelf.Strconv.ParseUint10Empty
import Derived.Shelf.Strconv.ParseUint10Any
import Derived.Shelf.Strconv.ParseInt10
import Derived.Shelf.Strconv.RangeError
import Derived.Shelf.Strconv.ToErrorRange
import Derived.Shelf.Strconv.ParseUintEmpty
import Derived.Shelf.Strconv.ParseUint10b64
import Derived.Shelf.Strconv.ParseUint10b32
import Derived.Shelf.Strconv.ParseUint10b16
import Derived.Shelf.Strconv.ParseUint10b8
import Derived.Shelf.Strconv.ParseUint10At
import Derived.Shelf.Strconv.ParseInt10At64
import Derived.Shelf.Strconv.ParseInt10At32
import Derived.Shelf.Strconv.ParseInt10At16
import Derived.Shelf.Strconv.ParseInt10At8
import Derived.Shelf.Strconv.ParseInt10All
import Derived.Shelf.Strconv.ParseIntPublic10
import Derived.Shelf.Strconv.ErrVarParseInt
import Derived.Shelf.Strings.Search1
import Derived.Shelf.Strings.Search2
import Derived.Shelf.Strings.Search3
import Derived.Shelf.Strings.Count
import Derived.Shelf.Strings.Shaped
import Derived.Shelf.Strings.Prefix
import Derived.Shelf.Strings.Split
import Derived.Shelf.Strings.Replace
import Derived.Shelf.Strings.SplitShaped
import Derived.Shelf.Unicode.Decode
import Derived.Shelf.Strings.Runes
import Derived.Shelf.Strings.RuneCount
import Derived.Shelf.Strings.IndexAny
import Derived.Shelf.Strings.AsciiSet
import Derived.Shelf.Strings.IndexAnyAll
import Derived.Shelf.Bits.Mul64
import Derived.Shelf.Strings.Repeat
import Derived.Shelf.Unicode.DecodeSlow
import Derived.Shelf.Unicode.DecodeAny
import Derived.Shelf.Unicode.DecodeLast
import Derived.Shelf.Strings.BuilderCap
import Derived.Test.YtlibkhbachmcgaaGreatDoorProg
namespace Go.Proofs
open Go.Shelf
def Tryz.lays169_ren:Go.Shelf.Ren:=⟨fun | 169=>71 | n=>n,fun | 70=>104 | 9=>9 | 0=>0 | 72=>106 | 37=>83 | 127=>142 | 3=>3 | 5=>5 | n=>n,fun | n=>n⟩
theorem Tryz.lays169:Go.Proofs.Lays.n169 Tryz.prog Tryz.lays169_ren:= {
  mixed:=by kernel_rfl
  f169:=Tryz.func71.trans (congrArg some (by kernel_rfl))
  t0:=Tryz.underlying0
  a0:=Tryz.isAgg0
  z0:=Tryz.sizeOf0
  v0:=Tryz.zeroValue0
  t3:=Tryz.underlying3
  a3:=Tryz.isAgg3
  z3:=Tryz.sizeOf3
  v3:=Tryz.zeroValue3
  t9:=Tryz.underlying9
  a9:=Tryz.isAgg9
  z9:=Tryz.sizeOf9
  v9:=Tryz.zeroValue9
  t37:=Tryz.underlying83
  a37:=Tryz.isAgg83
  z37:=Tryz.sizeOf83
  v37:=Tryz.zeroValue83
  t70:=Tryz.underlying104
  a70:=Tryz.isAgg104
  z70:=Tryz.sizeOf104
  v70:=Tryz.zeroValue104
  t72:=Tryz.underlying106
  a72:=Tryz.isAgg106
  z72:=Tryz.sizeOf106
  v72:=Tryz.zeroValue106
  t127:=Tryz.underlying142
  a127:=Tryz.isAgg142
  z127:=Tryz.sizeOf142
  v127:=Tryz.zeroValue142 }
theorem Tryz.Builder_Extra_169:Builder.Extra Tryz.prog Tryz.lays169_ren:= {
  sizeBuilder:=by kernel_rfl
  liesBuilder:=by kernel_rfl
  t5:=Tryz.underlying5
  a5:=Tryz.isAgg5
  z5:=Tryz.sizeOf5
  v5:=Tryz.zeroValue5
  infoByte:=by kernel_rfl
  cellsByte:=by kernel_rfl
  sizeByte:=by kernel_rfl
  neB5:=by decide }
def Tryz.lays161_ren:Go.Shelf.Ren:=⟨fun | 161=>38 | 231=>65 | 227=>66 | 233=>67 | 235=>68 | 228=>115 | 197=>85 | 151=>116 | 260=>130 | 152=>161 | 137=>57 | 119=>199 | 224=>200 | 225=>201 | 217=>104 | 266=>152 | n=>n,fun | 9=>9 | 4=>4 | 3=>3 | 5=>5 | 117=>100 | 116=>99 | 0=>0 | 124=>103 | 105=>122 | 21=>21 | 119=>153 | 46=>157 | 139=>156 | 138=>155 | n=>n,fun | 3=>0 | 4=>1 | n=>n⟩
theorem Tryz.lays161:Go.Proofs.Lays.n161 Tryz.prog Tryz.lays161_ren:= {
  mixed:=by kernel_rfl
  f119:=Tryz.func199.trans (congrArg some (by kernel_rfl))
  f137:=Tryz.func57.trans (congrArg some (by kernel_rfl))
  f151:=Tryz.func116.trans (congrArg some (by kernel_rfl))
  f152:=Tryz.func161.trans (congrArg some (by kernel_rfl))
  f161:=Tryz.func38.trans (congrArg some (by kernel_rfl))
  f197:=Tryz.func85.trans (congrArg some (by kernel_rfl))
  f217:=Tryz.func104.trans (congrArg some (by kernel_rfl))
  f224:=Tryz.func200.trans (congrArg some (by kernel_rfl))
  f225:=Tryz.func201.trans (congrArg some (by kernel_rfl))
  f227:=Tryz.func66.trans (congrArg some (by kernel_rfl))
  f228:=Tryz.func115.trans (congrArg some (by kernel_rfl))
  f231:=Tryz.func65.trans (congrArg some (by kernel_rfl))
  f233:=Tryz.func67.trans (congrArg some (by kernel_rfl))
  f235:=Tryz.func68.trans (congrArg some (by kernel_rfl))
  f260:=Tryz.func130.trans (congrArg some (by kernel_rfl))
  f266:=Tryz.func152.trans (congrArg some (by kernel_rfl))
  t0:=Tryz.underlying0
  a0:=Tryz.isAgg0
  z0:=Tryz.sizeOf0
  v0:=Tryz.zeroValue0
  t3:=Tryz.underlying3
  a3:=Tryz.isAgg3
  z3:=Tryz.sizeOf3
  v3:=Tryz.zeroValue3
  t4:=Tryz.underlying4
  a4:=Tryz.isAgg4
  z4:=Tryz.sizeOf4
  v4:=Tryz.zeroValue4
  t5:=Tryz.underlying5
  a5:=Tryz.isAgg5
  z5:=Tryz.sizeOf5
  v5:=Tryz.zeroValue5
  t9:=Tryz.underlying9
  a9:=Tryz.isAgg9
  z9:=Tryz.sizeOf9
  v9:=Tryz.zeroValue9
  t21:=Tryz.underlying21
  a21:=Tryz.isAgg21
  z21:=Tryz.sizeOf21
  v21:=Tryz.zeroValue21
  t46:=Tryz.underlying157
  a46:=Tryz.isAgg157
  z46:=Tryz.sizeOf157
  v46:=Tryz.zeroValue157
  t105:=Tryz.underlying122
  a105:=Tryz.isAgg122
  z105:=Tryz.sizeOf122
  v105:=Tryz.zeroValue122
  t116:=Tryz.underlying99
  a116:=Tryz.isAgg99
  z116:=Tryz.sizeOf99
  t117:=Tryz.underlying100
  a117:=Tryz.isAgg100
  z117:=Tryz.sizeOf100
  v117:=Tryz.zeroValue100
  t119:=Tryz.underlying153
  a119:=Tryz.isAgg153
  z119:=Tryz.sizeOf153
  t124:=Tryz.underlying103
  a124:=Tryz.isAgg103
  z124:=Tryz.sizeOf103
  v124:=Tryz.zeroValue103
  t138:=Tryz.underlying155
  a138:=Tryz.isAgg155
  z138:=Tryz.sizeOf155
  v138:=Tryz.zeroValue155
  t139:=Tryz.underlying156
  a139:=Tryz.isAgg156
  z139:=Tryz.sizeOf156
  v139:=Tryz.zeroValue156
  g3:=by kernel_rfl
  g4:=by kernel_rfl }
open Go.RowKit in
theorem Tryz.strings_TrimLeft_one (s:ByteArray) (c:UInt8) (hc:c.toNat<128) (w:World):
    Calls Tryz.prog 38 #[.string s, .string ⟨#[c]⟩] w fun e w'=>e= .returned (.string ⟨(Lib.trimLeftB s.data.toList c).toArray⟩)∧w'=w:=Any.strings_TrimLeft_one Tryz.lays161 s c hc w
def Tryz.lays162_ren:Go.Shelf.Ren:=⟨fun | 162=>147 | 232=>131 | 227=>66 | 234=>132 | 236=>133 | 228=>115 | 271=>176 | 151=>116 | 120=>212 | 197=>85 | 152=>161 | 260=>130 | 137=>57 | 119=>199 | 224=>200 | 225=>201 | 217=>104 | 266=>152 | n=>n,fun | 9=>9 | 4=>4 | 3=>3 | 5=>5 | 117=>100 | 116=>99 | 0=>0 | 124=>103 | 21=>21 | 105=>122 | 46=>157 | 119=>153 | 139=>156 | 138=>155 | n=>n,fun | 3=>0 | 4=>1 | n=>n⟩
theorem Tryz.lays162:Go.Proofs.Lays.n162 Tryz.prog Tryz.lays162_ren:= {
  mixed:=by kernel_rfl
  f119:=Tryz.func199.trans (congrArg some (by kernel_rfl))
  f120:=Tryz.func212.trans (congrArg some (by kernel_rfl))
  f137:=Tryz.func57.trans (congrArg some (by kernel_rfl))
  f151:=Tryz.func116.trans (congrArg some (by kernel_rfl))
  f152:=Tryz.func161.trans (congrArg some (by kernel_rfl))
  f162:=Tryz.func147.trans (congrArg some (by kernel_rfl))
  f197:=Tryz.func85.trans (congrArg some (by kernel_rfl))
  f217:=Tryz.func104.trans (congrArg some (by kernel_rfl))
  f224:=Tryz.func200.trans (congrArg some (by kernel_rfl))
  f225:=Tryz.func201.trans (congrArg some (by kernel_rfl))
  f227:=Tryz.func66.trans (congrArg some (by kernel_rfl))
  f228:=Tryz.func115.trans (congrArg some (by kernel_rfl))
  f232:=Tryz.func131.trans (congrArg some (by kernel_rfl))
  f234:=Tryz.func132.trans (congrArg some (by kernel_rfl))
  f236:=Tryz.func133.trans (congrArg some (by kernel_rfl))
  f260:=Tryz.func130.trans (congrArg some (by kernel_rfl))
  f266:=Tryz.func152.trans (congrArg some (by kernel_rfl))
  f271:=Tryz.func176.trans (congrArg some (by kernel_rfl))
  t0:=Tryz.underlying0
  a0:=Tryz.isAgg0
  z0:=Tryz.sizeOf0
  v0:=Tryz.zeroValue0
  t3:=Tryz.underlying3
  a3:=Tryz.isAgg3
  z3:=Tryz.sizeOf3
  v3:=Tryz.zeroValue3
  t4:=Tryz.underlying4
  a4:=Tryz.isAgg4
  z4:=Tryz.sizeOf4
  v4:=Tryz.zeroValue4
  t5:=Tryz.underlying5
  a5:=Tryz.isAgg5
  z5:=Tryz.sizeOf5
  v5:=Tryz.zeroValue5
  t9:=Tryz.underlying9
  a9:=Tryz.isAgg9
  z9:=Tryz.sizeOf9
  v9:=Tryz.zeroValue9
  t21:=Tryz.underlying21
  a21:=Tryz.isAgg21
  z21:=Tryz.sizeOf21
  v21:=Tryz.zeroValue21
  t46:=Tryz.underlying157
  a46:=Tryz.isAgg157
  z46:=Tryz.sizeOf157
  v46:=Tryz.zeroValue157
  t105:=Tryz.underlying122
  a105:=Tryz.isAgg122
  z105:=Tryz.sizeOf122
  v105:=Tryz.zeroValue122
  t116:=Tryz.underlying99
  a116:=Tryz.isAgg99
  z116:=Tryz.sizeOf99
  t117:=Tryz.underlying100
  a117:=Tryz.isAgg100
  z117:=Tryz.sizeOf100
  v117:=Tryz.zeroValue100
  t119:=Tryz.underlying153
  a119:=Tryz.isAgg153
  z119:=Tryz.sizeOf153
  t124:=Tryz.underlying103
  a124:=Tryz.isAgg103
  z124:=Tryz.sizeOf103
  v124:=Tryz.zeroValue103
  t138:=Tryz.underlying155
  a138:=Tryz.isAgg155
  z138:=Tryz.sizeOf155
  v138:=Tryz.zeroValue155
  t139:=Tryz.underlying156
  a139:=Tryz.isAgg156
  z139:=Tryz.sizeOf156
  v139:=Tryz.zeroValue156
  g3:=by kernel_rfl
  g4:=by kernel_rfl }
open Go.RowKit in
theorem Tryz.strings_TrimRight_one (s:ByteArray) (c:UInt8) (hc:c.toNat<128) (w:World) (hs:s.size≤9223372036854775807):
    Calls Tryz.prog 147 #[.string s, .string ⟨#[c]⟩] w fun e w'=>e= .returned (.string ⟨(Lib.trimRightB s.data.toList c).toArray⟩)∧w'=w:=Any.strings_TrimRight_one Tryz.lays162 s c hc w hs
def Tryz.lays160_ren:Go.Shelf.Ren:=⟨fun | 160=>87 | 232=>131 | 231=>65 | 227=>66 | 234=>132 | 233=>67 | 236=>133 | 235=>68 | 228=>115 | 271=>176 | 151=>116 | 197=>85 | 120=>212 | 152=>161 | 260=>130 | 137=>57 | 119=>199 | 224=>200 | 225=>201 | 217=>104 | 266=>152 | n=>n,fun | 9=>9 | 4=>4 | 3=>3 | 5=>5 | 117=>100 | 116=>99 | 0=>0 | 124=>103 | 21=>21 | 105=>122 | 46=>157 | 119=>153 | 139=>156 | 138=>155 | n=>n,fun | 3=>0 | 4=>1 | n=>n⟩
theorem Tryz.lays160:Go.Proofs.Lays.n160 Tryz.prog Tryz.lays160_ren:= {
  mixed:=by kernel_rfl
  f119:=Tryz.func199.trans (congrArg some (by kernel_rfl))
  f120:=Tryz.func212.trans (congrArg some (by kernel_rfl))
  f137:=Tryz.func57.trans (congrArg some (by kernel_rfl))
  f151:=Tryz.func116.trans (congrArg some (by kernel_rfl))
  f152:=Tryz.func161.trans (congrArg some (by kernel_rfl))
  f160:=Tryz.func87.trans (congrArg some (by kernel_rfl))
  f197:=Tryz.func85.trans (congrArg some (by kernel_rfl))
  f217:=Tryz.func104.trans (congrArg some (by kernel_rfl))
  f224:=Tryz.func200.trans (congrArg some (by kernel_rfl))
  f225:=Tryz.func201.trans (congrArg some (by kernel_rfl))
  f227:=Tryz.func66.trans (congrArg some (by kernel_rfl))
  f228:=Tryz.func115.trans (congrArg some (by kernel_rfl))
  f231:=Tryz.func65.trans (congrArg some (by kernel_rfl))
  f232:=Tryz.func131.trans (congrArg some (by kernel_rfl))
  f233:=Tryz.func67.trans (congrArg some (by kernel_rfl))
  f234:=Tryz.func132.trans (congrArg some (by kernel_rfl))
  f235:=Tryz.func68.trans (congrArg some (by kernel_rfl))
  f236:=Tryz.func133.trans (congrArg some (by kernel_rfl))
  f260:=Tryz.func130.trans (congrArg some (by kernel_rfl))
  f266:=Tryz.func152.trans (congrArg some (by kernel_rfl))
  f271:=Tryz.func176.trans (congrArg some (by kernel_rfl))
  t0:=Tryz.underlying0
  a0:=Tryz.isAgg0
  z0:=Tryz.sizeOf0
  v0:=Tryz.zeroValue0
  t3:=Tryz.underlying3
  a3:=Tryz.isAgg3
  z3:=Tryz.sizeOf3
  v3:=Tryz.zeroValue3
  t4:=Tryz.underlying4
  a4:=Tryz.isAgg4
  z4:=Tryz.sizeOf4
  v4:=Tryz.zeroValue4
  t5:=Tryz.underlying5
  a5:=Tryz.isAgg5
  z5:=Tryz.sizeOf5
  v5:=Tryz.zeroValue5
  t9:=Tryz.underlying9
  a9:=Tryz.isAgg9
  z9:=Tryz.sizeOf9
  v9:=Tryz.zeroValue9
  t21:=Tryz.underlying21
  a21:=Tryz.isAgg21
  z21:=Tryz.sizeOf21
  v21:=Tryz.zeroValue21
  t46:=Tryz.underlying157
  a46:=Tryz.isAgg157
  z46:=Tryz.sizeOf157
  v46:=Tryz.zeroValue157
  t105:=Tryz.underlying122
  a105:=Tryz.isAgg122
  z105:=Tryz.sizeOf122
  v105:=Tryz.zeroValue122
  t116:=Tryz.underlying99
  a116:=Tryz.isAgg99
  z116:=Tryz.sizeOf99
  t117:=Tryz.underlying100
  a117:=Tryz.isAgg100
  z117:=Tryz.sizeOf100
  v117:=Tryz.zeroValue100
  t119:=Tryz.underlying153
  a119:=Tryz.isAgg153
  z119:=Tryz.sizeOf153
  t124:=Tryz.underlying103
  a124:=Tryz.isAgg103
  z124:=Tryz.sizeOf103
  v124:=Tryz.zeroValue103
  t138:=Tryz.underlying155
  a138:=Tryz.isAgg155
  z138:=Tryz.sizeOf155
  v138:=Tryz.zeroValue155
  t139:=Tryz.underlying156
  a139:=Tryz.isAgg156
  z139:=Tryz.sizeOf156
  v139:=Tryz.zeroValue156
  g3:=by kernel_rfl
  g4:=by kernel_rfl }
open Go.RowKit in
theorem Tryz.strings_Trim_one (s:ByteArray) (c:UInt8) (hc:c.toNat<128) (w:World) (hs:s.size≤9223372036854775807):
    Calls Tryz.prog 87 #[.string s, .string ⟨#[c]⟩] w fun e w'=>e= .returned (.string ⟨(Lib.trimB s.data.toList c).toArray⟩)∧(w'=w∨w'=w.drew):=Any.strings_Trim_one Tryz.lays160 s c hc w hs
def Tryz.lays137_ren:Go.Shelf.Ren:=⟨fun | 137=>57 | 217=>104 | 266=>152 | n=>n,fun | 9=>9 | 5=>5 | 3=>3 | n=>n,fun | n=>n⟩
theorem Tryz.lays137:Go.Proofs.Lays.n137 Tryz.prog Tryz.lays137_ren:= {
  mixed:=by kernel_rfl
  f137:=Tryz.func57.trans (congrArg some (by kernel_rfl))
  f217:=Tryz.func104.trans (congrArg some (by kernel_rfl))
  f266:=Tryz.func152.trans (congrArg some (by kernel_rfl))
  t3:=Tryz.underlying3
  a3:=Tryz.isAgg3
  z3:=Tryz.sizeOf3
  v3:=Tryz.zeroValue3
  t5:=Tryz.underlying5
  a5:=Tryz.isAgg5
  z5:=Tryz.sizeOf5
  v5:=Tryz.zeroValue5
  t9:=Tryz.underlying9
  a9:=Tryz.isAgg9
  z9:=Tryz.sizeOf9
  v9:=Tryz.zeroValue9 }
open Go.RowKit in
theorem Tryz.strings_IndexByte (s:ByteArray) (c:Int) (w:World):
    Calls Tryz.prog 57 #[.string s, .int .u8 c] w fun e w'=>e= .returned (.int .i64 (Lib.indexByte s.data.toList c.toNat.toUInt8))∧w'=w:=Any.strings_IndexByte Tryz.lays137 s c w
def Tryz.lays103_ren:Go.Shelf.Ren:=⟨fun | 103=>183 | 210=>222 | 206=>134 | n=>n,fun | 9=>9 | 4=>4 | 24=>39 | 3=>3 | n=>n,fun | n=>n⟩
theorem Tryz.lays103:Go.Proofs.Lays.n103 Tryz.prog Tryz.lays103_ren:= {
  mixed:=by kernel_rfl
  f103:=Tryz.func183.trans (congrArg some (by kernel_rfl))
  f206:=Tryz.func134.trans (congrArg some (by kernel_rfl))
  f210:=Tryz.func222.trans (congrArg some (by kernel_rfl))
  t3:=Tryz.underlying3
  a3:=Tryz.isAgg3
  z3:=Tryz.sizeOf3
  v3:=Tryz.zeroValue3
  t4:=Tryz.underlying4
  a4:=Tryz.isAgg4
  z4:=Tryz.sizeOf4
  v4:=Tryz.zeroValue4
  t9:=Tryz.underlying9
  a9:=Tryz.isAgg9
  z9:=Tryz.sizeOf9
  v9:=Tryz.zeroValue9
  t24:=Tryz.underlying39
  a24:=Tryz.isAgg39
  z24:=Tryz.sizeOf39
  v24:=Tryz.zeroValue39 }
open Go.RowKit in
theorem Tryz.strings_CutPrefix (s p:ByteArray) (w:World):
    Calls Tryz.prog 183 #[.string s, .string p] w fun e w'=>e= .returned (.tuple #[.string ⟨(Lib.trimPrefix s.data.toList p.data.toList).toArray⟩, .bool (Lib.hasPrefix s.data.toList p.data.toList)])∧w'=w:=Any.strings_CutPrefix Tryz.lays103 s p w
open Go.RowKit in
theorem Tryz.Builder_String_any_k (B b:Nat) (l:List UInt8) (w:World) (h:Lib.IsBuilderF 106 5 B b (Lib.byteCells l) w) (hBw:B≤w.heap.size):
    Calls Tryz.prog 71 #[.pointer (some ⟨b,0,none⟩)] w fun e w'=>e= .returned (.string ⟨l.toArray⟩)∧(Lib.IsBuilderF 106 5 B b (Lib.byteCells l) w'∧Below B w w'∧Lib.OthersKept 5 (some b) w w'):=Any.Builder_String_any_k Tryz.lays169 Tryz.Builder_Extra_169 B b l w h hBw
def Tryz.laysM171_ren:Go.Shelf.Ren:=⟨fun | 171=>95 | 243=>145 | 246=>180 | 283=>216 | 284=>217 | 285=>218 | 286=>219 | 129=>251 | 317=>250 | 318=>252 | 319=>253 | 320=>254 | 337=>267 | 338=>268 | n=>n,fun | 3=>3 | 9=>9 | 2=>2 | 4=>4 | 171=>219 | 0=>0 | 53=>196 | 37=>83 | 5=>5 | 173=>222 | 212=>246 | 51=>218 | 20=>20 | 213=>247 | 46=>157 | 232=>269 | 233=>270 | n=>n,fun | 17=>3 | 18=>6 | 19=>7 | n=>n⟩
theorem Tryz.laysM171:Go.Proofs.LaysM.n171 Tryz.prog Tryz.laysM171_ren:= {
  mixed:=by kernel_rfl
  f129:=Tryz.func251.trans (congrArg some (by kernel_rfl))
  f171:=Tryz.func95.trans (congrArg some (by kernel_rfl))
  f243:=Tryz.func145.trans (congrArg some (by kernel_rfl))
  f246:=Tryz.func180.trans (congrArg some (by kernel_rfl))
  f283:=Tryz.func216.trans (congrArg some (by kernel_rfl))
  f284:=Tryz.func217.trans (congrArg some (by kernel_rfl))
  f285:=Tryz.func218.trans (congrArg some (by kernel_rfl))
  f286:=Tryz.func219.trans (congrArg some (by kernel_rfl))
  f317:=Tryz.func250.trans (congrArg some (by kernel_rfl))
  f318:=Tryz.func252.trans (congrArg some (by kernel_rfl))
  f319:=Tryz.func253.trans (congrArg some (by kernel_rfl))
  f320:=Tryz.func254.trans (congrArg some (by kernel_rfl))
  f337:=Tryz.func267.trans (congrArg some (by kernel_rfl))
  f338:=Tryz.func268.trans (congrArg some (by kernel_rfl))
  t0:=Tryz.underlying0
  a0:=Tryz.isAgg0
  z0:=Tryz.sizeOf0
  v0:=Tryz.zeroValue0
  t2:=Tryz.underlying2
  a2:=Tryz.isAgg2
  z2:=Tryz.sizeOf2
  v2:=Tryz.zeroValue2
  t3:=Tryz.underlying3
  a3:=Tryz.isAgg3
  z3:=Tryz.sizeOf3
  v3:=Tryz.zeroValue3
  t4:=Tryz.underlying4
  a4:=Tryz.isAgg4
  z4:=Tryz.sizeOf4
  v4:=Tryz.zeroValue4
  t5:=Tryz.underlying5
  a5:=Tryz.isAgg5
  z5:=Tryz.sizeOf5
  v5:=Tryz.zeroValue5
  t9:=Tryz.underlying9
  a9:=Tryz.isAgg9
  z9:=Tryz.sizeOf9
  v9:=Tryz.zeroValue9
  t20:=Tryz.underlying20
  a20:=Tryz.isAgg20
  z20:=Tryz.sizeOf20
  v20:=Tryz.zeroValue20
  t37:=Tryz.underlying83
  a37:=Tryz.isAgg83
  z37:=Tryz.sizeOf83
  v37:=Tryz.zeroValue83
  t46:=Tryz.underlying157
  a46:=Tryz.isAgg157
  z46:=Tryz.sizeOf157
  v46:=Tryz.zeroValue157
  t51:=Tryz.underlying218
  a51:=Tryz.isAgg218
  z51:=Tryz.sizeOf218
  v51:=Tryz.zeroValue218
  t53:=Tryz.underlying196
  a53:=Tryz.isAgg196
  z53:=Tryz.sizeOf196
  v53:=Tryz.zeroValue196
  t171:=Tryz.underlying219
  a171:=Tryz.isAgg219
  z171:=Tryz.sizeOf219
  v171:=Tryz.zeroValue219
  t173:=Tryz.underlying222
  a173:=Tryz.isAgg222
  z173:=Tryz.sizeOf222
  v173:=Tryz.zeroValue222
  t212:=Tryz.underlying246
  a212:=Tryz.isAgg246
  z212:=Tryz.sizeOf246
  v212:=Tryz.zeroValue246
  t213:=Tryz.underlying247
  a213:=Tryz.isAgg247
  z213:=Tryz.sizeOf247
  t232:=Tryz.underlying269
  a232:=Tryz.isAgg269
  z232:=Tryz.sizeOf269
  v232:=Tryz.zeroValue269
  t233:=Tryz.underlying270
  a233:=Tryz.isAgg270
  z233:=Tryz.sizeOf270
  v233:=Tryz.zeroValue270
  g17:=by kernel_rfl
  g18:=by kernel_rfl
  g19:=by kernel_rfl
  i0:=by kernel_rfl
  i2:=by kernel_rfl
  i3:=by kernel_rfl
  i4:=by kernel_rfl
  i5:=by kernel_rfl
  i9:=by kernel_rfl
  i20:=by kernel_rfl
  i37:=by kernel_rfl
  i46:=by kernel_rfl
  i51:=by kernel_rfl
  i53:=by kernel_rfl
  i171:=by kernel_rfl
  i173:=by kernel_rfl
  i212:=by kernel_rfl
  i232:=by kernel_rfl
  i233:=by kernel_rfl
  m17:=by kernel_rfl
  m18:=by kernel_rfl
  m19:=by kernel_rfl }
open Go.RowKit Go.Sort Go.Lib in
theorem Tryz.strconv_Itoa (n:Int) (h0: -9223372036854775808≤n) (h1:n≤9223372036854775807) (w:World) (htab:Lib.TabIs Tryz.prog w "internal/strconv.uint64pow10" .u64 Lib.pow10Tab):
    Calls Tryz.prog 95 #[.int .i64 n] w fun e w'=>e= .returned (.string ⟨(Lib.itoa n).toArray⟩)∧ ∃k os,w'=grow (w.drewN k) os:=Any.strconv_Itoa Tryz.laysM171 n h0 h1 w htab
def Tryz.lays143_ren:Go.Shelf.Ren:=⟨fun | 143=>136 | 219=>177 | 217=>104 | 225=>201 | 224=>200 | 267=>213 | 266=>152 | 314=>247 | n=>n,fun | 9=>9 | 3=>3 | 4=>4 | 5=>5 | 46=>157 | 146=>224 | 51=>218 | n=>n,fun | 1=>2 | n=>n⟩
theorem Tryz.lays143:Go.Proofs.Lays.n143 Tryz.prog Tryz.lays143_ren:= {
  mixed:=by kernel_rfl
  f143:=Tryz.func136.trans (congrArg some (by kernel_rfl))
  f217:=Tryz.func104.trans (congrArg some (by kernel_rfl))
  f219:=Tryz.func177.trans (congrArg some (by kernel_rfl))
  f224:=Tryz.func200.trans (congrArg some (by kernel_rfl))
  f225:=Tryz.func201.trans (congrArg some (by kernel_rfl))
  f266:=Tryz.func152.trans (congrArg some (by kernel_rfl))
  f267:=Tryz.func213.trans (congrArg some (by kernel_rfl))
  f314:=Tryz.func247.trans (congrArg some (by kernel_rfl))
  t3:=Tryz.underlying3
  a3:=Tryz.isAgg3
  z3:=Tryz.sizeOf3
  v3:=Tryz.zeroValue3
  t4:=Tryz.underlying4
  a4:=Tryz.isAgg4
  z4:=Tryz.sizeOf4
  v4:=Tryz.zeroValue4
  t5:=Tryz.underlying5
  a5:=Tryz.isAgg5
  z5:=Tryz.sizeOf5
  v5:=Tryz.zeroValue5
  t9:=Tryz.underlying9
  a9:=Tryz.isAgg9
  z9:=Tryz.sizeOf9
  v9:=Tryz.zeroValue9
  t46:=Tryz.underlying157
  a46:=Tryz.isAgg157
  z46:=Tryz.sizeOf157
  v46:=Tryz.zeroValue157
  t51:=Tryz.underlying218
  a51:=Tryz.isAgg218
  z51:=Tryz.sizeOf218
  v51:=Tryz.zeroValue218
  t146:=Tryz.underlying224
  a146:=Tryz.isAgg224
  z146:=Tryz.sizeOf224
  v146:=Tryz.zeroValue224
  g1:=by kernel_rfl }
open Go.RowKit Go.Lib in
theorem Tryz.strings_Index (s sub:ByteArray) (m:Int) (w:World) (hs:s.size<4294967281) (hm:w.cell? ⟨2,0,none⟩=some (.int .i64 m)):
    Calls Tryz.prog 136 #[.string s, .string sub] w fun e w'=>e= .returned (.int .i64 (Lib.index s.data.toList sub.data.toList))∧w'=w:=Any.strings_Index Tryz.lays143 s sub m w hs hm
def Tryz.lays144_ren:Go.Shelf.Ren:=⟨fun | 144=>90 | 143=>136 | 219=>177 | 217=>104 | 225=>201 | 224=>200 | 267=>213 | 266=>152 | 314=>247 | n=>n,fun | 9=>9 | 4=>4 | 3=>3 | 5=>5 | 46=>157 | 146=>224 | 51=>218 | n=>n,fun | 1=>2 | n=>n⟩
theorem Tryz.lays144:Go.Proofs.Lays.n144 Tryz.prog Tryz.lays144_ren:= {
  mixed:=by kernel_rfl
  f143:=Tryz.func136.trans (congrArg some (by kernel_rfl))
  f144:=Tryz.func90.trans (congrArg some (by kernel_rfl))
  f217:=Tryz.func104.trans (congrArg some (by kernel_rfl))
  f219:=Tryz.func177.trans (congrArg some (by kernel_rfl))
  f224:=Tryz.func200.trans (congrArg some (by kernel_rfl))
  f225:=Tryz.func201.trans (congrArg some (by kernel_rfl))
  f266:=Tryz.func152.trans (congrArg some (by kernel_rfl))
  f267:=Tryz.func213.trans (congrArg some (by kernel_rfl))
  f314:=Tryz.func247.trans (congrArg some (by kernel_rfl))
  t3:=Tryz.underlying3
  a3:=Tryz.isAgg3
  z3:=Tryz.sizeOf3
  v3:=Tryz.zeroValue3
  t4:=Tryz.underlying4
  a4:=Tryz.isAgg4
  z4:=Tryz.sizeOf4
  v4:=Tryz.zeroValue4
  t5:=Tryz.underlying5
  a5:=Tryz.isAgg5
  z5:=Tryz.sizeOf5
  v5:=Tryz.zeroValue5
  t9:=Tryz.underlying9
  a9:=Tryz.isAgg9
  z9:=Tryz.sizeOf9
  v9:=Tryz.zeroValue9
  t46:=Tryz.underlying157
  a46:=Tryz.isAgg157
  z46:=Tryz.sizeOf157
  v46:=Tryz.zeroValue157
  t51:=Tryz.underlying218
  a51:=Tryz.isAgg218
  z51:=Tryz.sizeOf218
  v51:=Tryz.zeroValue218
  t146:=Tryz.underlying224
  a146:=Tryz.isAgg224
  z146:=Tryz.sizeOf224
  v146:=Tryz.zeroValue224
  g1:=by kernel_rfl }
open Go.RowKit Go.Lib in
theorem Tryz.strings_Contains_one (s:ByteArray) (c:UInt8) (w:World):
    Calls Tryz.prog 90 #[.string s, .string ⟨#[c]⟩] w fun e w'=>e= .returned (.bool (decide (0≤Lib.indexByte s.data.toList c)))∧w'=w:=Any.strings_Contains_one Tryz.lays144 s c w
open Go.RowKit Go.Lib in
theorem Tryz.strings_Contains (s sub:ByteArray) (m:Int) (w:World) (hs:s.size<4294967281) (hm:w.cell? ⟨2,0,none⟩=some (.int .i64 m)):
    Calls Tryz.prog 90 #[.string s, .string sub] w fun e w'=>e= .returned (.bool (Lib.contains s.data.toList sub.data.toList))∧w'=w:=Any.strings_Contains Tryz.lays144 s sub m w hs hm
def Tryz.lays99_ren:Go.Shelf.Ren:=⟨fun | 99=>88 | 206=>134 | n=>n,fun | 9=>9 | 4=>4 | 3=>3 | n=>n,fun | n=>n⟩
theorem Tryz.lays99:Go.Proofs.Lays.n99 Tryz.prog Tryz.lays99_ren:= {
  mixed:=by kernel_rfl
  f99:=Tryz.func88.trans (congrArg some (by kernel_rfl))
  f206:=Tryz.func134.trans (congrArg some (by kernel_rfl))
  t3:=Tryz.underlying3
  a3:=Tryz.isAgg3
  z3:=Tryz.sizeOf3
  v3:=Tryz.zeroValue3
  t4:=Tryz.underlying4
  a4:=Tryz.isAgg4
  z4:=Tryz.sizeOf4
  v4:=Tryz.zeroValue4
  t9:=Tryz.underlying9
  a9:=Tryz.isAgg9
  z9:=Tryz.sizeOf9
  v9:=Tryz.zeroValue9 }
open Go.RowKit Go.Lib in
theorem Tryz.strings_HasPrefix (s p:ByteArray) (w:World):
    Calls Tryz.prog 88 #[.string s, .string p] w fun e w'=>e= .returned (.bool (Lib.hasPrefix s.data.toList p.data.toList))∧w'=w:=Any.strings_HasPrefix Tryz.lays99 s p w
def Tryz.lays100_ren:Go.Shelf.Ren:=⟨fun | 100=>89 | 207=>135 | n=>n,fun | 9=>9 | 4=>4 | 3=>3 | n=>n,fun | n=>n⟩
theorem Tryz.lays100:Go.Proofs.Lays.n100 Tryz.prog Tryz.lays100_ren:= {
  mixed:=by kernel_rfl
  f100:=Tryz.func89.trans (congrArg some (by kernel_rfl))
  f207:=Tryz.func135.trans (congrArg some (by kernel_rfl))
  t3:=Tryz.underlying3
  a3:=Tryz.isAgg3
  z3:=Tryz.sizeOf3
  v3:=Tryz.zeroValue3
  t4:=Tryz.underlying4
  a4:=Tryz.isAgg4
  z4:=Tryz.sizeOf4
  v4:=Tryz.zeroValue4
  t9:=Tryz.underlying9
  a9:=Tryz.isAgg9
  z9:=Tryz.sizeOf9
  v9:=Tryz.zeroValue9 }
open Go.RowKit Go.Lib in
theorem Tryz.strings_HasSuffix (s p:ByteArray) (w:World) (hs:s.size≤9223372036854775807):
    Calls Tryz.prog 89 #[.string s, .string p] w fun e w'=>e= .returned (.bool (Lib.hasSuffix s.data.toList p.data.toList))∧w'=w:=Any.strings_HasSuffix Tryz.lays100 s p w hs
def Tryz.lays101_ren:Go.Shelf.Ren:=⟨fun | 101=>185 | 208=>223 | 206=>134 | n=>n,fun | 9=>9 | 4=>4 | 3=>3 | n=>n,fun | n=>n⟩
theorem Tryz.lays101:Go.Proofs.Lays.n101 Tryz.prog Tryz.lays101_ren:= {
  mixed:=by kernel_rfl
  f101:=Tryz.func185.trans (congrArg some (by kernel_rfl))
  f206:=Tryz.func134.trans (congrArg some (by kernel_rfl))
  f208:=Tryz.func223.trans (congrArg some (by kernel_rfl))
  t3:=Tryz.underlying3
  a3:=Tryz.isAgg3
  z3:=Tryz.sizeOf3
  v3:=Tryz.zeroValue3
  t4:=Tryz.underlying4
  a4:=Tryz.isAgg4
  z4:=Tryz.sizeOf4
  v4:=Tryz.zeroValue4
  t9:=Tryz.underlying9
  a9:=Tryz.isAgg9
  z9:=Tryz.sizeOf9
  v9:=Tryz.zeroValue9 }
open Go.RowKit Go.Lib in
theorem Tryz.strings_TrimPrefix (s p:ByteArray) (w:World):
    Calls Tryz.prog 185 #[.string s, .string p] w fun e w'=>e= .returned (.string ⟨(Lib.trimPrefix s.data.toList p.data.toList).toArray⟩)∧w'=w:=Any.strings_TrimPrefix Tryz.lays101 s p w
def Tryz.lays197_ren:Go.Shelf.Ren:=⟨fun | 197=>85 | 260=>130 | n=>n,fun | 9=>9 | 21=>21 | 3=>3 | 4=>4 | 5=>5 | 105=>122 | 119=>153 | 0=>0 | 46=>157 | 139=>156 | 138=>155 | n=>n,fun | 3=>0 | 4=>1 | n=>n⟩
theorem Tryz.lays197:Go.Proofs.Lays.n197 Tryz.prog Tryz.lays197_ren:= {
  mixed:=by kernel_rfl
  f197:=Tryz.func85.trans (congrArg some (by kernel_rfl))
  f260:=Tryz.func130.trans (congrArg some (by kernel_rfl))
  t0:=Tryz.underlying0
  a0:=Tryz.isAgg0
  z0:=Tryz.sizeOf0
  v0:=Tryz.zeroValue0
  t3:=Tryz.underlying3
  a3:=Tryz.isAgg3
  z3:=Tryz.sizeOf3
  v3:=Tryz.zeroValue3
  t4:=Tryz.underlying4
  a4:=Tryz.isAgg4
  z4:=Tryz.sizeOf4
  v4:=Tryz.zeroValue4
  t5:=Tryz.underlying5
  a5:=Tryz.isAgg5
  z5:=Tryz.sizeOf5
  v5:=Tryz.zeroValue5
  t9:=Tryz.underlying9
  a9:=Tryz.isAgg9
  z9:=Tryz.sizeOf9
  v9:=Tryz.zeroValue9
  t21:=Tryz.underlying21
  a21:=Tryz.isAgg21
  z21:=Tryz.sizeOf21
  v21:=Tryz.zeroValue21
  t46:=Tryz.underlying157
  a46:=Tryz.isAgg157
  z46:=Tryz.sizeOf157
  v46:=Tryz.zeroValue157
  t105:=Tryz.underlying122
  a105:=Tryz.isAgg122
  z105:=Tryz.sizeOf122
  v105:=Tryz.zeroValue122
  t119:=Tryz.underlying153
  a119:=Tryz.isAgg153
  z119:=Tryz.sizeOf153
  t138:=Tryz.underlying155
  a138:=Tryz.isAgg155
  z138:=Tryz.sizeOf155
  v138:=Tryz.zeroValue155
  t139:=Tryz.underlying156
  a139:=Tryz.isAgg156
  z139:=Tryz.sizeOf156
  v139:=Tryz.zeroValue156
  g3:=by kernel_rfl
  g4:=by kernel_rfl }
open Go.RowKit Go.Lib in
theorem Tryz.utf8_DecodeRuneInString (s:ByteArray) (w:World) (hT:Lib.Utf8Tabs 0 1 w):
    Calls Tryz.prog 85 #[.string s] w fun e w'=>e= .returned (.tuple #[.int .i32 (Lib.decodeGo s).1, .int .i64 (Lib.decodeGo s).2])∧Below w.heap.size w w':=Any.utf8_DecodeRuneInString Tryz.lays197 s w hT
def Tryz.laysValid_ren:Go.Shelf.Ren:=⟨fun | 196=>84 | 259=>129 | n=>n,fun | 9=>9 | 4=>4 | 3=>3 | 5=>5 | 12=>12 | 119=>153 | 0=>0 | 46=>157 | 139=>156 | 138=>155 | 53=>196 | n=>n,fun | 3=>0 | 4=>1 | n=>n⟩
theorem Tryz.laysValid:Go.Proofs.Lays.n196 Tryz.prog Tryz.laysValid_ren:= {
  mixed:=by kernel_rfl
  f196:=Tryz.func84.trans (congrArg some (by kernel_rfl))
  f259:=Tryz.func129.trans (congrArg some (by kernel_rfl))
  t0:=Tryz.underlying0
  a0:=Tryz.isAgg0
  z0:=Tryz.sizeOf0
  v0:=Tryz.zeroValue0
  t3:=Tryz.underlying3
  a3:=Tryz.isAgg3
  z3:=Tryz.sizeOf3
  v3:=Tryz.zeroValue3
  t4:=Tryz.underlying4
  a4:=Tryz.isAgg4
  z4:=Tryz.sizeOf4
  v4:=Tryz.zeroValue4
  t5:=Tryz.underlying5
  a5:=Tryz.isAgg5
  z5:=Tryz.sizeOf5
  v5:=Tryz.zeroValue5
  t9:=Tryz.underlying9
  a9:=Tryz.isAgg9
  z9:=Tryz.sizeOf9
  v9:=Tryz.zeroValue9
  t12:=Tryz.underlying12
  a12:=Tryz.isAgg12
  z12:=Tryz.sizeOf12
  v12:=Tryz.zeroValue12
  t46:=Tryz.underlying157
  a46:=Tryz.isAgg157
  z46:=Tryz.sizeOf157
  v46:=Tryz.zeroValue157
  t53:=Tryz.underlying196
  a53:=Tryz.isAgg196
  z53:=Tryz.sizeOf196
  v53:=Tryz.zeroValue196
  t119:=Tryz.underlying153
  a119:=Tryz.isAgg153
  z119:=Tryz.sizeOf153
  t138:=Tryz.underlying155
  a138:=Tryz.isAgg155
  z138:=Tryz.sizeOf155
  v138:=Tryz.zeroValue155
  t139:=Tryz.underlying156
  a139:=Tryz.isAgg156
  z139:=Tryz.sizeOf156
  v139:=Tryz.zeroValue156
  g3:=by kernel_rfl
  g4:=by kernel_rfl }
open Go.RowKit in
theorem Tryz.utf8_ValidString (s:ByteArray) (w:World) (hs:s.size≤9223372036854775807) (hT:Lib.Utf8Tabs 0 1 w):
    Calls Tryz.prog 84 #[.string s] w fun e w'=>e= .returned (.bool (Lib.validD s.data.toList))∧Below w.heap.size w w':=Any.utf8_ValidString Tryz.laysValid s w hs hT
end Go.Proofs
