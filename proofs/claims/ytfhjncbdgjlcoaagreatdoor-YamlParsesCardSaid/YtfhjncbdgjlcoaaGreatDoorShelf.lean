import Derived.Shelf.Unicode.ValidAny
import Derived.Shelf.Strings.Builder1
import Derived.Shelf.Strings.Builder2
import Derived.Shelf.Strings.OnBuilder
import Derived.Shelf.Strings.Trim
import Derived.Shelf.Small.Utf8
import Derived.Shelf.Small.Strs
import Derived.Shelf.Small.Wraps
import Derived.Shelf.Strings.BuilderF
import Derived.Shelf.Strings.BuilderK
import Derived.Shelf.Strings.BuilderRune
import Derived.Shelf.Strings.Builder2Cap
import Derived.Shelf.Strconv.Itoa0
import Derived.Shelf.Strconv.Itoa1
import Derived.Shelf.LaysM
import Derived.Shelf.Strconv.Itoa2
import Derived.Shelf.Strconv.Itoa3
import Derived.Shelf.Strconv.Clone
import Derived.Shelf.Strconv.SyntaxError
import Derived.Shelf.LaysC
import Derived.Shelf.Strconv.ToError
import Derived.Shelf.Strconv.Lower
import Derived.Shelf.Strconv.ParseUint10
import Derived.Shelf.Strconv.ParseUint10Empty
import Derived.Shelf.Strconv.ParseUint10Any
import Derived.Shelf.Strconv.RangeError
import Derived.Shelf.Strconv.ToErrorRange
import Derived.Shelf.Strconv.ParseUintEmpty
import Derived.Shelf.Strconv.ParseUint10b64
import Derived.Shelf.Strconv.ParseUint10b32
import Derived.Shelf.Strconv.ParseUint10b16
import Derived.Shelf.Strconv.ParseUint10b8
import Derived.Shelf.Strconv.ParseUint10At
import Derived.Shelf.Strings.Search1
import Derived.Shelf.Strings.Search2
import Derived.Shelf.Strings.Search3
import Derived.Shelf.Strings.Shaped
import Derived.Shelf.Strings.Prefix
import Derived.Shelf.Unicode.Decode
import Derived.Shelf.Strings.Runes
import Derived.Shelf.Strings.IndexAny
import Derived.Shelf.Strings.AsciiSet
import Derived.Shelf.Strings.IndexAnyAll
import Derived.Shelf.Unicode.DecodeSlow
import Derived.Shelf.Unicode.DecodeAny
import Derived.Shelf.Unicode.DecodeLast
import Derived.Shelf.Strings.BuilderCap
import Derived.Test.YtfhjncbdgjlcoaaGreatDoorProg
namespace Go.Proofs
open Go.Shelf
def Tryz.lays169_ren:Go.Shelf.Ren:=⟨fun | 169=>55 | n=>n,fun | 70=>96 | 9=>9 | 0=>0 | 72=>99 | 37=>97 | 127=>130 | 3=>3 | 5=>5 | n=>n,fun | n=>n⟩
theorem Tryz.lays169:Go.Proofs.Lays.n169 Tryz.prog Tryz.lays169_ren:= {
  mixed:=by kernel_rfl
  f169:=Tryz.func55.trans (congrArg some (by kernel_rfl))
  t0:=Tryz.underlying0
  a0:=Tryz.isAgg0
  z0:=Tryz.sizeOf0
  v0:=Tryz.zeroValue0
  t3:=Tryz.underlying3
  a3:=Tryz.isAgg3
  z3:=Tryz.sizeOf3
  v3:=Tryz.zeroValue3
  t9:=Tryz.underlying9
  a9:=Tryz.isAgg9
  z9:=Tryz.sizeOf9
  v9:=Tryz.zeroValue9
  t37:=Tryz.underlying97
  a37:=Tryz.isAgg97
  z37:=Tryz.sizeOf97
  v37:=Tryz.zeroValue97
  t70:=Tryz.underlying96
  a70:=Tryz.isAgg96
  z70:=Tryz.sizeOf96
  v70:=Tryz.zeroValue96
  t72:=Tryz.underlying99
  a72:=Tryz.isAgg99
  z72:=Tryz.sizeOf99
  v72:=Tryz.zeroValue99
  t127:=Tryz.underlying130
  a127:=Tryz.isAgg130
  z127:=Tryz.sizeOf130
  v127:=Tryz.zeroValue130 }
theorem Tryz.Builder_Extra_169:Builder.Extra Tryz.prog Tryz.lays169_ren:= {
  sizeBuilder:=by kernel_rfl
  liesBuilder:=by kernel_rfl
  t5:=Tryz.underlying5
  a5:=Tryz.isAgg5
  z5:=Tryz.sizeOf5
  v5:=Tryz.zeroValue5
  infoByte:=by kernel_rfl
  cellsByte:=by kernel_rfl
  sizeByte:=by kernel_rfl
  neB5:=by decide }
def Tryz.lays161_ren:Go.Shelf.Ren:=⟨fun | 161=>29 | 231=>49 | 227=>50 | 233=>51 | 235=>52 | 228=>83 | 197=>84 | 151=>85 | 260=>120 | 152=>121 | 137=>41 | 119=>160 | 224=>161 | 225=>162 | 217=>71 | 266=>104 | n=>n,fun | 9=>9 | 4=>4 | 3=>3 | 5=>5 | 117=>92 | 116=>91 | 0=>0 | 124=>95 | 105=>127 | 21=>21 | 119=>183 | 46=>184 | 139=>187 | 138=>186 | n=>n,fun | 3=>1 | 4=>2 | n=>n⟩
theorem Tryz.lays161:Go.Proofs.Lays.n161 Tryz.prog Tryz.lays161_ren:= {
  mixed:=by kernel_rfl
  f119:=Tryz.func160.trans (congrArg some (by kernel_rfl))
  f137:=Tryz.func41.trans (congrArg some (by kernel_rfl))
  f151:=Tryz.func85.trans (congrArg some (by kernel_rfl))
  f152:=Tryz.func121.trans (congrArg some (by kernel_rfl))
  f161:=Tryz.func29.trans (congrArg some (by kernel_rfl))
  f197:=Tryz.func84.trans (congrArg some (by kernel_rfl))
  f217:=Tryz.func71.trans (congrArg some (by kernel_rfl))
  f224:=Tryz.func161.trans (congrArg some (by kernel_rfl))
  f225:=Tryz.func162.trans (congrArg some (by kernel_rfl))
  f227:=Tryz.func50.trans (congrArg some (by kernel_rfl))
  f228:=Tryz.func83.trans (congrArg some (by kernel_rfl))
  f231:=Tryz.func49.trans (congrArg some (by kernel_rfl))
  f233:=Tryz.func51.trans (congrArg some (by kernel_rfl))
  f235:=Tryz.func52.trans (congrArg some (by kernel_rfl))
  f260:=Tryz.func120.trans (congrArg some (by kernel_rfl))
  f266:=Tryz.func104.trans (congrArg some (by kernel_rfl))
  t0:=Tryz.underlying0
  a0:=Tryz.isAgg0
  z0:=Tryz.sizeOf0
  v0:=Tryz.zeroValue0
  t3:=Tryz.underlying3
  a3:=Tryz.isAgg3
  z3:=Tryz.sizeOf3
  v3:=Tryz.zeroValue3
  t4:=Tryz.underlying4
  a4:=Tryz.isAgg4
  z4:=Tryz.sizeOf4
  v4:=Tryz.zeroValue4
  t5:=Tryz.underlying5
  a5:=Tryz.isAgg5
  z5:=Tryz.sizeOf5
  v5:=Tryz.zeroValue5
  t9:=Tryz.underlying9
  a9:=Tryz.isAgg9
  z9:=Tryz.sizeOf9
  v9:=Tryz.zeroValue9
  t21:=Tryz.underlying21
  a21:=Tryz.isAgg21
  z21:=Tryz.sizeOf21
  v21:=Tryz.zeroValue21
  t46:=Tryz.underlying184
  a46:=Tryz.isAgg184
  z46:=Tryz.sizeOf184
  v46:=Tryz.zeroValue184
  t105:=Tryz.underlying127
  a105:=Tryz.isAgg127
  z105:=Tryz.sizeOf127
  v105:=Tryz.zeroValue127
  t116:=Tryz.underlying91
  a116:=Tryz.isAgg91
  z116:=Tryz.sizeOf91
  t117:=Tryz.underlying92
  a117:=Tryz.isAgg92
  z117:=Tryz.sizeOf92
  v117:=Tryz.zeroValue92
  t119:=Tryz.underlying183
  a119:=Tryz.isAgg183
  z119:=Tryz.sizeOf183
  t124:=Tryz.underlying95
  a124:=Tryz.isAgg95
  z124:=Tryz.sizeOf95
  v124:=Tryz.zeroValue95
  t138:=Tryz.underlying186
  a138:=Tryz.isAgg186
  z138:=Tryz.sizeOf186
  v138:=Tryz.zeroValue186
  t139:=Tryz.underlying187
  a139:=Tryz.isAgg187
  z139:=Tryz.sizeOf187
  v139:=Tryz.zeroValue187
  g3:=by kernel_rfl
  g4:=by kernel_rfl }
open Go.RowKit in
theorem Tryz.strings_TrimLeft_one (s:ByteArray) (c:UInt8) (hc:c.toNat<128) (w:World):
    Calls Tryz.prog 29 #[.string s, .string ⟨#[c]⟩] w fun e w'=>e= .returned (.string ⟨(Lib.trimLeftB s.data.toList c).toArray⟩)∧w'=w:=Any.strings_TrimLeft_one Tryz.lays161 s c hc w
def Tryz.lays162_ren:Go.Shelf.Ren:=⟨fun | 162=>99 | 232=>139 | 227=>50 | 234=>140 | 236=>141 | 228=>83 | 271=>177 | 151=>85 | 120=>204 | 197=>84 | 152=>121 | 260=>120 | 137=>41 | 119=>160 | 224=>161 | 225=>162 | 217=>71 | 266=>104 | n=>n,fun | 9=>9 | 4=>4 | 3=>3 | 5=>5 | 117=>92 | 116=>91 | 0=>0 | 124=>95 | 21=>21 | 105=>127 | 46=>184 | 119=>183 | 139=>187 | 138=>186 | n=>n,fun | 3=>1 | 4=>2 | n=>n⟩
theorem Tryz.lays162:Go.Proofs.Lays.n162 Tryz.prog Tryz.lays162_ren:= {
  mixed:=by kernel_rfl
  f119:=Tryz.func160.trans (congrArg some (by kernel_rfl))
  f120:=Tryz.func204.trans (congrArg some (by kernel_rfl))
  f137:=Tryz.func41.trans (congrArg some (by kernel_rfl))
  f151:=Tryz.func85.trans (congrArg some (by kernel_rfl))
  f152:=Tryz.func121.trans (congrArg some (by kernel_rfl))
  f162:=Tryz.func99.trans (congrArg some (by kernel_rfl))
  f197:=Tryz.func84.trans (congrArg some (by kernel_rfl))
  f217:=Tryz.func71.trans (congrArg some (by kernel_rfl))
  f224:=Tryz.func161.trans (congrArg some (by kernel_rfl))
  f225:=Tryz.func162.trans (congrArg some (by kernel_rfl))
  f227:=Tryz.func50.trans (congrArg some (by kernel_rfl))
  f228:=Tryz.func83.trans (congrArg some (by kernel_rfl))
  f232:=Tryz.func139.trans (congrArg some (by kernel_rfl))
  f234:=Tryz.func140.trans (congrArg some (by kernel_rfl))
  f236:=Tryz.func141.trans (congrArg some (by kernel_rfl))
  f260:=Tryz.func120.trans (congrArg some (by kernel_rfl))
  f266:=Tryz.func104.trans (congrArg some (by kernel_rfl))
  f271:=Tryz.func177.trans (congrArg some (by kernel_rfl))
  t0:=Tryz.underlying0
  a0:=Tryz.isAgg0
  z0:=Tryz.sizeOf0
  v0:=Tryz.zeroValue0
  t3:=Tryz.underlying3
  a3:=Tryz.isAgg3
  z3:=Tryz.sizeOf3
  v3:=Tryz.zeroValue3
  t4:=Tryz.underlying4
  a4:=Tryz.isAgg4
  z4:=Tryz.sizeOf4
  v4:=Tryz.zeroValue4
  t5:=Tryz.underlying5
  a5:=Tryz.isAgg5
  z5:=Tryz.sizeOf5
  v5:=Tryz.zeroValue5
  t9:=Tryz.underlying9
  a9:=Tryz.isAgg9
  z9:=Tryz.sizeOf9
  v9:=Tryz.zeroValue9
  t21:=Tryz.underlying21
  a21:=Tryz.isAgg21
  z21:=Tryz.sizeOf21
  v21:=Tryz.zeroValue21
  t46:=Tryz.underlying184
  a46:=Tryz.isAgg184
  z46:=Tryz.sizeOf184
  v46:=Tryz.zeroValue184
  t105:=Tryz.underlying127
  a105:=Tryz.isAgg127
  z105:=Tryz.sizeOf127
  v105:=Tryz.zeroValue127
  t116:=Tryz.underlying91
  a116:=Tryz.isAgg91
  z116:=Tryz.sizeOf91
  t117:=Tryz.underlying92
  a117:=Tryz.isAgg92
  z117:=Tryz.sizeOf92
  v117:=Tryz.zeroValue92
  t119:=Tryz.underlying183
  a119:=Tryz.isAgg183
  z119:=Tryz.sizeOf183
  t124:=Tryz.underlying95
  a124:=Tryz.isAgg95
  z124:=Tryz.sizeOf95
  v124:=Tryz.zeroValue95
  t138:=Tryz.underlying186
  a138:=Tryz.isAgg186
  z138:=Tryz.sizeOf186
  v138:=Tryz.zeroValue186
  t139:=Tryz.underlying187
  a139:=Tryz.isAgg187
  z139:=Tryz.sizeOf187
  v139:=Tryz.zeroValue187
  g3:=by kernel_rfl
  g4:=by kernel_rfl }
open Go.RowKit in
theorem Tryz.strings_TrimRight_one (s:ByteArray) (c:UInt8) (hc:c.toNat<128) (w:World) (hs:s.size≤9223372036854775807):
    Calls Tryz.prog 99 #[.string s, .string ⟨#[c]⟩] w fun e w'=>e= .returned (.string ⟨(Lib.trimRightB s.data.toList c).toArray⟩)∧w'=w:=Any.strings_TrimRight_one Tryz.lays162 s c hc w hs
def Tryz.lays160_ren:Go.Shelf.Ren:=⟨fun | 160=>116 | 232=>139 | 231=>49 | 227=>50 | 234=>140 | 233=>51 | 236=>141 | 235=>52 | 228=>83 | 271=>177 | 151=>85 | 197=>84 | 120=>204 | 152=>121 | 260=>120 | 137=>41 | 119=>160 | 224=>161 | 225=>162 | 217=>71 | 266=>104 | n=>n,fun | 9=>9 | 4=>4 | 3=>3 | 5=>5 | 117=>92 | 116=>91 | 0=>0 | 124=>95 | 21=>21 | 105=>127 | 46=>184 | 119=>183 | 139=>187 | 138=>186 | n=>n,fun | 3=>1 | 4=>2 | n=>n⟩
theorem Tryz.lays160:Go.Proofs.Lays.n160 Tryz.prog Tryz.lays160_ren:= {
  mixed:=by kernel_rfl
  f119:=Tryz.func160.trans (congrArg some (by kernel_rfl))
  f120:=Tryz.func204.trans (congrArg some (by kernel_rfl))
  f137:=Tryz.func41.trans (congrArg some (by kernel_rfl))
  f151:=Tryz.func85.trans (congrArg some (by kernel_rfl))
  f152:=Tryz.func121.trans (congrArg some (by kernel_rfl))
  f160:=Tryz.func116.trans (congrArg some (by kernel_rfl))
  f197:=Tryz.func84.trans (congrArg some (by kernel_rfl))
  f217:=Tryz.func71.trans (congrArg some (by kernel_rfl))
  f224:=Tryz.func161.trans (congrArg some (by kernel_rfl))
  f225:=Tryz.func162.trans (congrArg some (by kernel_rfl))
  f227:=Tryz.func50.trans (congrArg some (by kernel_rfl))
  f228:=Tryz.func83.trans (congrArg some (by kernel_rfl))
  f231:=Tryz.func49.trans (congrArg some (by kernel_rfl))
  f232:=Tryz.func139.trans (congrArg some (by kernel_rfl))
  f233:=Tryz.func51.trans (congrArg some (by kernel_rfl))
  f234:=Tryz.func140.trans (congrArg some (by kernel_rfl))
  f235:=Tryz.func52.trans (congrArg some (by kernel_rfl))
  f236:=Tryz.func141.trans (congrArg some (by kernel_rfl))
  f260:=Tryz.func120.trans (congrArg some (by kernel_rfl))
  f266:=Tryz.func104.trans (congrArg some (by kernel_rfl))
  f271:=Tryz.func177.trans (congrArg some (by kernel_rfl))
  t0:=Tryz.underlying0
  a0:=Tryz.isAgg0
  z0:=Tryz.sizeOf0
  v0:=Tryz.zeroValue0
  t3:=Tryz.underlying3
  a3:=Tryz.isAgg3
  z3:=Tryz.sizeOf3
  v3:=Tryz.zeroValue3
  t4:=Tryz.underlying4
  a4:=Tryz.isAgg4
  z4:=Tryz.sizeOf4
  v4:=Tryz.zeroValue4
  t5:=Tryz.underlying5
  a5:=Tryz.isAgg5
  z5:=Tryz.sizeOf5
  v5:=Tryz.zeroValue5
  t9:=Tryz.underlying9
  a9:=Tryz.isAgg9
  z9:=Tryz.sizeOf9
  v9:=Tryz.zeroValue9
  t21:=Tryz.underlying21
  a21:=Tryz.isAgg21
  z21:=Tryz.sizeOf21
  v21:=Tryz.zeroValue21
  t46:=Tryz.underlying184
  a46:=Tryz.isAgg184
  z46:=Tryz.sizeOf184
  v46:=Tryz.zeroValue184
  t105:=Tryz.underlying127
  a105:=Tryz.isAgg127
  z105:=Tryz.sizeOf127
  v105:=Tryz.zeroValue127
  t116:=Tryz.underlying91
  a116:=Tryz.isAgg91
  z116:=Tryz.sizeOf91
  t117:=Tryz.underlying92
  a117:=Tryz.isAgg92
  z117:=Tryz.sizeOf92
  v117:=Tryz.zeroValue92
  t119:=Tryz.underlying183
  a119:=Tryz.isAgg183
  z119:=Tryz.sizeOf183
  t124:=Tryz.underlying95
  a124:=Tryz.isAgg95
  z124:=Tryz.sizeOf95
  v124:=Tryz.zeroValue95
  t138:=Tryz.underlying186
  a138:=Tryz.isAgg186
  z138:=Tryz.sizeOf186
  v138:=Tryz.zeroValue186
  t139:=Tryz.underlying187
  a139:=Tryz.isAgg187
  z139:=Tryz.sizeOf187
  v139:=Tryz.zeroValue187
  g3:=by kernel_rfl
  g4:=by kernel_rfl }
open Go.RowKit in
theorem Tryz.strings_Trim_one (s:ByteArray) (c:UInt8) (hc:c.toNat<128) (w:World) (hs:s.size≤9223372036854775807):
    Calls Tryz.prog 116 #[.string s, .string ⟨#[c]⟩] w fun e w'=>e= .returned (.string ⟨(Lib.trimB s.data.toList c).toArray⟩)∧(w'=w∨w'=w.drew):=Any.strings_Trim_one Tryz.lays160 s c hc w hs
def Tryz.lays137_ren:Go.Shelf.Ren:=⟨fun | 137=>41 | 217=>71 | 266=>104 | n=>n,fun | 9=>9 | 5=>5 | 3=>3 | n=>n,fun | n=>n⟩
theorem Tryz.lays137:Go.Proofs.Lays.n137 Tryz.prog Tryz.lays137_ren:= {
  mixed:=by kernel_rfl
  f137:=Tryz.func41.trans (congrArg some (by kernel_rfl))
  f217:=Tryz.func71.trans (congrArg some (by kernel_rfl))
  f266:=Tryz.func104.trans (congrArg some (by kernel_rfl))
  t3:=Tryz.underlying3
  a3:=Tryz.isAgg3
  z3:=Tryz.sizeOf3
  v3:=Tryz.zeroValue3
  t5:=Tryz.underlying5
  a5:=Tryz.isAgg5
  z5:=Tryz.sizeOf5
  v5:=Tryz.zeroValue5
  t9:=Tryz.underlying9
  a9:=Tryz.isAgg9
  z9:=Tryz.sizeOf9
  v9:=Tryz.zeroValue9 }
open Go.RowKit in
theorem Tryz.strings_IndexByte (s:ByteArray) (c:Int) (w:World):
    Calls Tryz.prog 41 #[.string s, .int .u8 c] w fun e w'=>e= .returned (.int .i64 (Lib.indexByte s.data.toList c.toNat.toUInt8))∧w'=w:=Any.strings_IndexByte Tryz.lays137 s c w
def Tryz.lays103_ren:Go.Shelf.Ren:=⟨fun | 103=>136 | 210=>175 | 206=>157 | n=>n,fun | 9=>9 | 4=>4 | 24=>39 | 3=>3 | n=>n,fun | n=>n⟩
theorem Tryz.lays103:Go.Proofs.Lays.n103 Tryz.prog Tryz.lays103_ren:= {
  mixed:=by kernel_rfl
  f103:=Tryz.func136.trans (congrArg some (by kernel_rfl))
  f206:=Tryz.func157.trans (congrArg some (by kernel_rfl))
  f210:=Tryz.func175.trans (congrArg some (by kernel_rfl))
  t3:=Tryz.underlying3
  a3:=Tryz.isAgg3
  z3:=Tryz.sizeOf3
  v3:=Tryz.zeroValue3
  t4:=Tryz.underlying4
  a4:=Tryz.isAgg4
  z4:=Tryz.sizeOf4
  v4:=Tryz.zeroValue4
  t9:=Tryz.underlying9
  a9:=Tryz.isAgg9
  z9:=Tryz.sizeOf9
  v9:=Tryz.zeroValue9
  t24:=Tryz.underlying39
  a24:=Tryz.isAgg39
  z24:=Tryz.sizeOf39
  v24:=Tryz.zeroValue39 }
open Go.RowKit in
theorem Tryz.strings_CutPrefix (s p:ByteArray) (w:World):
    Calls Tryz.prog 136 #[.string s, .string p] w fun e w'=>e= .returned (.tuple #[.string ⟨(Lib.trimPrefix s.data.toList p.data.toList).toArray⟩, .bool (Lib.hasPrefix s.data.toList p.data.toList)])∧w'=w:=Any.strings_CutPrefix Tryz.lays103 s p w
open Go.RowKit in
theorem Tryz.Builder_String_any_k (B b:Nat) (l:List UInt8) (w:World) (h:Lib.IsBuilderF 99 5 B b (Lib.byteCells l) w) (hBw:B≤w.heap.size):
    Calls Tryz.prog 55 #[.pointer (some ⟨b,0,none⟩)] w fun e w'=>e= .returned (.string ⟨l.toArray⟩)∧(Lib.IsBuilderF 99 5 B b (Lib.byteCells l) w'∧Below B w w'∧Lib.OthersKept 5 (some b) w w'):=Any.Builder_String_any_k Tryz.lays169 Tryz.Builder_Extra_169 B b l w h hBw
def Tryz.laysM171_ren:Go.Shelf.Ren:=⟨fun | 171=>62 | 243=>97 | 246=>135 | 283=>171 | 284=>172 | 285=>173 | 286=>174 | 129=>200 | 317=>199 | 318=>201 | 319=>202 | 320=>203 | 337=>216 | 338=>217 | n=>n,fun | 3=>3 | 9=>9 | 2=>2 | 4=>4 | 171=>193 | 0=>0 | 53=>194 | 37=>97 | 5=>5 | 173=>197 | 212=>211 | 51=>212 | 20=>20 | 213=>213 | 46=>184 | 232=>231 | 233=>232 | n=>n,fun | 17=>3 | 18=>4 | 19=>5 | n=>n⟩
theorem Tryz.laysM171:Go.Proofs.LaysM.n171 Tryz.prog Tryz.laysM171_ren:= {
  mixed:=by kernel_rfl
  f129:=Tryz.func200.trans (congrArg some (by kernel_rfl))
  f171:=Tryz.func62.trans (congrArg some (by kernel_rfl))
  f243:=Tryz.func97.trans (congrArg some (by kernel_rfl))
  f246:=Tryz.func135.trans (congrArg some (by kernel_rfl))
  f283:=Tryz.func171.trans (congrArg some (by kernel_rfl))
  f284:=Tryz.func172.trans (congrArg some (by kernel_rfl))
  f285:=Tryz.func173.trans (congrArg some (by kernel_rfl))
  f286:=Tryz.func174.trans (congrArg some (by kernel_rfl))
  f317:=Tryz.func199.trans (congrArg some (by kernel_rfl))
  f318:=Tryz.func201.trans (congrArg some (by kernel_rfl))
  f319:=Tryz.func202.trans (congrArg some (by kernel_rfl))
  f320:=Tryz.func203.trans (congrArg some (by kernel_rfl))
  f337:=Tryz.func216.trans (congrArg some (by kernel_rfl))
  f338:=Tryz.func217.trans (congrArg some (by kernel_rfl))
  t0:=Tryz.underlying0
  a0:=Tryz.isAgg0
  z0:=Tryz.sizeOf0
  v0:=Tryz.zeroValue0
  t2:=Tryz.underlying2
  a2:=Tryz.isAgg2
  z2:=Tryz.sizeOf2
  v2:=Tryz.zeroValue2
  t3:=Tryz.underlying3
  a3:=Tryz.isAgg3
  z3:=Tryz.sizeOf3
  v3:=Tryz.zeroValue3
  t4:=Tryz.underlying4
  a4:=Tryz.isAgg4
  z4:=Tryz.sizeOf4
  v4:=Tryz.zeroValue4
  t5:=Tryz.underlying5
  a5:=Tryz.isAgg5
  z5:=Tryz.sizeOf5
  v5:=Tryz.zeroValue5
  t9:=Tryz.underlying9
  a9:=Tryz.isAgg9
  z9:=Tryz.sizeOf9
  v9:=Tryz.zeroValue9
  t20:=Tryz.underlying20
  a20:=Tryz.isAgg20
  z20:=Tryz.sizeOf20
  v20:=Tryz.zeroValue20
  t37:=Tryz.underlying97
  a37:=Tryz.isAgg97
  z37:=Tryz.sizeOf97
  v37:=Tryz.zeroValue97
  t46:=Tryz.underlying184
  a46:=Tryz.isAgg184
  z46:=Tryz.sizeOf184
  v46:=Tryz.zeroValue184
  t51:=Tryz.underlying212
  a51:=Tryz.isAgg212
  z51:=Tryz.sizeOf212
  v51:=Tryz.zeroValue212
  t53:=Tryz.underlying194
  a53:=Tryz.isAgg194
  z53:=Tryz.sizeOf194
  v53:=Tryz.zeroValue194
  t171:=Tryz.underlying193
  a171:=Tryz.isAgg193
  z171:=Tryz.sizeOf193
  v171:=Tryz.zeroValue193
  t173:=Tryz.underlying197
  a173:=Tryz.isAgg197
  z173:=Tryz.sizeOf197
  v173:=Tryz.zeroValue197
  t212:=Tryz.underlying211
  a212:=Tryz.isAgg211
  z212:=Tryz.sizeOf211
  v212:=Tryz.zeroValue211
  t213:=Tryz.underlying213
  a213:=Tryz.isAgg213
  z213:=Tryz.sizeOf213
  t232:=Tryz.underlying231
  a232:=Tryz.isAgg231
  z232:=Tryz.sizeOf231
  v232:=Tryz.zeroValue231
  t233:=Tryz.underlying232
  a233:=Tryz.isAgg232
  z233:=Tryz.sizeOf232
  v233:=Tryz.zeroValue232
  g17:=by kernel_rfl
  g18:=by kernel_rfl
  g19:=by kernel_rfl
  i0:=by kernel_rfl
  i2:=by kernel_rfl
  i3:=by kernel_rfl
  i4:=by kernel_rfl
  i5:=by kernel_rfl
  i9:=by kernel_rfl
  i20:=by kernel_rfl
  i37:=by kernel_rfl
  i46:=by kernel_rfl
  i51:=by kernel_rfl
  i53:=by kernel_rfl
  i171:=by kernel_rfl
  i173:=by kernel_rfl
  i212:=by kernel_rfl
  i232:=by kernel_rfl
  i233:=by kernel_rfl
  m17:=by kernel_rfl
  m18:=by kernel_rfl
  m19:=by kernel_rfl }
open Go.RowKit Go.Sort Go.Lib in
theorem Tryz.strconv_Itoa (n:Int) (h0: -9223372036854775808≤n) (h1:n≤9223372036854775807) (w:World) (htab:Lib.TabIs Tryz.prog w "internal/strconv.uint64pow10" .u64 Lib.pow10Tab):
    Calls Tryz.prog 62 #[.int .i64 n] w fun e w'=>e= .returned (.string ⟨(Lib.itoa n).toArray⟩)∧ ∃k os,w'=grow (w.drewN k) os:=Any.strconv_Itoa Tryz.laysM171 n h0 h1 w htab
def Tryz.lays143_ren:Go.Shelf.Ren:=⟨fun | 143=>159 | 219=>195 | 217=>71 | 225=>162 | 224=>161 | 267=>214 | 266=>104 | 314=>227 | n=>n,fun | 9=>9 | 3=>3 | 4=>4 | 5=>5 | 46=>184 | 146=>229 | 51=>212 | n=>n,fun | 1=>0 | n=>n⟩
theorem Tryz.lays143:Go.Proofs.Lays.n143 Tryz.prog Tryz.lays143_ren:= {
  mixed:=by kernel_rfl
  f143:=Tryz.func159.trans (congrArg some (by kernel_rfl))
  f217:=Tryz.func71.trans (congrArg some (by kernel_rfl))
  f219:=Tryz.func195.trans (congrArg some (by kernel_rfl))
  f224:=Tryz.func161.trans (congrArg some (by kernel_rfl))
  f225:=Tryz.func162.trans (congrArg some (by kernel_rfl))
  f266:=Tryz.func104.trans (congrArg some (by kernel_rfl))
  f267:=Tryz.func214.trans (congrArg some (by kernel_rfl))
  f314:=Tryz.func227.trans (congrArg some (by kernel_rfl))
  t3:=Tryz.underlying3
  a3:=Tryz.isAgg3
  z3:=Tryz.sizeOf3
  v3:=Tryz.zeroValue3
  t4:=Tryz.underlying4
  a4:=Tryz.isAgg4
  z4:=Tryz.sizeOf4
  v4:=Tryz.zeroValue4
  t5:=Tryz.underlying5
  a5:=Tryz.isAgg5
  z5:=Tryz.sizeOf5
  v5:=Tryz.zeroValue5
  t9:=Tryz.underlying9
  a9:=Tryz.isAgg9
  z9:=Tryz.sizeOf9
  v9:=Tryz.zeroValue9
  t46:=Tryz.underlying184
  a46:=Tryz.isAgg184
  z46:=Tryz.sizeOf184
  v46:=Tryz.zeroValue184
  t51:=Tryz.underlying212
  a51:=Tryz.isAgg212
  z51:=Tryz.sizeOf212
  v51:=Tryz.zeroValue212
  t146:=Tryz.underlying229
  a146:=Tryz.isAgg229
  z146:=Tryz.sizeOf229
  v146:=Tryz.zeroValue229
  g1:=by kernel_rfl }
open Go.RowKit Go.Lib in
theorem Tryz.strings_Index (s sub:ByteArray) (m:Int) (w:World) (hs:s.size<4294967281) (hm:w.cell? ⟨0,0,none⟩=some (.int .i64 m)):
    Calls Tryz.prog 159 #[.string s, .string sub] w fun e w'=>e= .returned (.int .i64 (Lib.index s.data.toList sub.data.toList))∧w'=w:=Any.strings_Index Tryz.lays143 s sub m w hs hm
def Tryz.lays144_ren:Go.Shelf.Ren:=⟨fun | 144=>119 | 143=>159 | 219=>195 | 217=>71 | 225=>162 | 224=>161 | 267=>214 | 266=>104 | 314=>227 | n=>n,fun | 9=>9 | 4=>4 | 3=>3 | 5=>5 | 46=>184 | 146=>229 | 51=>212 | n=>n,fun | 1=>0 | n=>n⟩
theorem Tryz.lays144:Go.Proofs.Lays.n144 Tryz.prog Tryz.lays144_ren:= {
  mixed:=by kernel_rfl
  f143:=Tryz.func159.trans (congrArg some (by kernel_rfl))
  f144:=Tryz.func119.trans (congrArg some (by kernel_rfl))
  f217:=Tryz.func71.trans (congrArg some (by kernel_rfl))
  f219:=Tryz.func195.trans (congrArg some (by kernel_rfl))
  f224:=Tryz.func161.trans (congrArg some (by kernel_rfl))
  f225:=Tryz.func162.trans (congrArg some (by kernel_rfl))
  f266:=Tryz.func104.trans (congrArg some (by kernel_rfl))
  f267:=Tryz.func214.trans (congrArg some (by kernel_rfl))
  f314:=Tryz.func227.trans (congrArg some (by kernel_rfl))
  t3:=Tryz.underlying3
  a3:=Tryz.isAgg3
  z3:=Tryz.sizeOf3
  v3:=Tryz.zeroValue3
  t4:=Tryz.underlying4
  a4:=Tryz.isAgg4
  z4:=Tryz.sizeOf4
  v4:=Tryz.zeroValue4
  t5:=Tryz.underlying5
  a5:=Tryz.isAgg5
  z5:=Tryz.sizeOf5
  v5:=Tryz.zeroValue5
  t9:=Tryz.underlying9
  a9:=Tryz.isAgg9
  z9:=Tryz.sizeOf9
  v9:=Tryz.zeroValue9
  t46:=Tryz.underlying184
  a46:=Tryz.isAgg184
  z46:=Tryz.sizeOf184
  v46:=Tryz.zeroValue184
  t51:=Tryz.underlying212
  a51:=Tryz.isAgg212
  z51:=Tryz.sizeOf212
  v51:=Tryz.zeroValue212
  t146:=Tryz.underlying229
  a146:=Tryz.isAgg229
  z146:=Tryz.sizeOf229
  v146:=Tryz.zeroValue229
  g1:=by kernel_rfl }
open Go.RowKit Go.Lib in
theorem Tryz.strings_Contains_one (s:ByteArray) (c:UInt8) (w:World):
    Calls Tryz.prog 119 #[.string s, .string ⟨#[c]⟩] w fun e w'=>e= .returned (.bool (decide (0≤Lib.indexByte s.data.toList c)))∧w'=w:=Any.strings_Contains_one Tryz.lays144 s c w
open Go.RowKit Go.Lib in
theorem Tryz.strings_Contains (s sub:ByteArray) (m:Int) (w:World) (hs:s.size<4294967281) (hm:w.cell? ⟨0,0,none⟩=some (.int .i64 m)):
    Calls Tryz.prog 119 #[.string s, .string sub] w fun e w'=>e= .returned (.bool (Lib.contains s.data.toList sub.data.toList))∧w'=w:=Any.strings_Contains Tryz.lays144 s sub m w hs hm
def Tryz.lays99_ren:Go.Shelf.Ren:=⟨fun | 99=>117 | 206=>157 | n=>n,fun | 9=>9 | 4=>4 | 3=>3 | n=>n,fun | n=>n⟩
theorem Tryz.lays99:Go.Proofs.Lays.n99 Tryz.prog Tryz.lays99_ren:= {
  mixed:=by kernel_rfl
  f99:=Tryz.func117.trans (congrArg some (by kernel_rfl))
  f206:=Tryz.func157.trans (congrArg some (by kernel_rfl))
  t3:=Tryz.underlying3
  a3:=Tryz.isAgg3
  z3:=Tryz.sizeOf3
  v3:=Tryz.zeroValue3
  t4:=Tryz.underlying4
  a4:=Tryz.isAgg4
  z4:=Tryz.sizeOf4
  v4:=Tryz.zeroValue4
  t9:=Tryz.underlying9
  a9:=Tryz.isAgg9
  z9:=Tryz.sizeOf9
  v9:=Tryz.zeroValue9 }
open Go.RowKit Go.Lib in
theorem Tryz.strings_HasPrefix (s p:ByteArray) (w:World):
    Calls Tryz.prog 117 #[.string s, .string p] w fun e w'=>e= .returned (.bool (Lib.hasPrefix s.data.toList p.data.toList))∧w'=w:=Any.strings_HasPrefix Tryz.lays99 s p w
def Tryz.lays100_ren:Go.Shelf.Ren:=⟨fun | 100=>118 | 207=>158 | n=>n,fun | 9=>9 | 4=>4 | 3=>3 | n=>n,fun | n=>n⟩
theorem Tryz.lays100:Go.Proofs.Lays.n100 Tryz.prog Tryz.lays100_ren:= {
  mixed:=by kernel_rfl
  f100:=Tryz.func118.trans (congrArg some (by kernel_rfl))
  f207:=Tryz.func158.trans (congrArg some (by kernel_rfl))
  t3:=Tryz.underlying3
  a3:=Tryz.isAgg3
  z3:=Tryz.sizeOf3
  v3:=Tryz.zeroValue3
  t4:=Tryz.underlying4
  a4:=Tryz.isAgg4
  z4:=Tryz.sizeOf4
  v4:=Tryz.zeroValue4
  t9:=Tryz.underlying9
  a9:=Tryz.isAgg9
  z9:=Tryz.sizeOf9
  v9:=Tryz.zeroValue9 }
open Go.RowKit Go.Lib in
theorem Tryz.strings_HasSuffix (s p:ByteArray) (w:World) (hs:s.size≤9223372036854775807):
    Calls Tryz.prog 118 #[.string s, .string p] w fun e w'=>e= .returned (.bool (Lib.hasSuffix s.data.toList p.data.toList))∧w'=w:=Any.strings_HasSuffix Tryz.lays100 s p w hs
def Tryz.lays101_ren:Go.Shelf.Ren:=⟨fun | 101=>138 | 208=>176 | 206=>157 | n=>n,fun | 9=>9 | 4=>4 | 3=>3 | n=>n,fun | n=>n⟩
theorem Tryz.lays101:Go.Proofs.Lays.n101 Tryz.prog Tryz.lays101_ren:= {
  mixed:=by kernel_rfl
  f101:=Tryz.func138.trans (congrArg some (by kernel_rfl))
  f206:=Tryz.func157.trans (congrArg some (by kernel_rfl))
  f208:=Tryz.func176.trans (congrArg some (by kernel_rfl))
  t3:=Tryz.underlying3
  a3:=Tryz.isAgg3
  z3:=Tryz.sizeOf3
  v3:=Tryz.zeroValue3
  t4:=Tryz.underlying4
  a4:=Tryz.isAgg4
  z4:=Tryz.sizeOf4
  v4:=Tryz.zeroValue4
  t9:=Tryz.underlying9
  a9:=Tryz.isAgg9
  z9:=Tryz.sizeOf9
  v9:=Tryz.zeroValue9 }
open Go.RowKit Go.Lib in
theorem Tryz.strings_TrimPrefix (s p:ByteArray) (w:World):
    Calls Tryz.prog 138 #[.string s, .string p] w fun e w'=>e= .returned (.string ⟨(Lib.trimPrefix s.data.toList p.data.toList).toArray⟩)∧w'=w:=Any.strings_TrimPrefix Tryz.lays101 s p w
def Tryz.lays197_ren:Go.Shelf.Ren:=⟨fun | 197=>84 | 260=>120 | n=>n,fun | 9=>9 | 21=>21 | 3=>3 | 4=>4 | 5=>5 | 105=>127 | 119=>183 | 0=>0 | 46=>184 | 139=>187 | 138=>186 | n=>n,fun | 3=>1 | 4=>2 | n=>n⟩
theorem Tryz.lays197:Go.Proofs.Lays.n197 Tryz.prog Tryz.lays197_ren:= {
  mixed:=by kernel_rfl
  f197:=Tryz.func84.trans (congrArg some (by kernel_rfl))
  f260:=Tryz.func120.trans (congrArg some (by kernel_rfl))
  t0:=Tryz.underlying0
  a0:=Tryz.isAgg0
  z0:=Tryz.sizeOf0
  v0:=Tryz.zeroValue0
  t3:=Tryz.underlying3
  a3:=Tryz.isAgg3
  z3:=Tryz.sizeOf3
  v3:=Tryz.zeroValue3
  t4:=Tryz.underlying4
  a4:=Tryz.isAgg4
  z4:=Tryz.sizeOf4
  v4:=Tryz.zeroValue4
  t5:=Tryz.underlying5
  a5:=Tryz.isAgg5
  z5:=Tryz.sizeOf5
  v5:=Tryz.zeroValue5
  t9:=Tryz.underlying9
  a9:=Tryz.isAgg9
  z9:=Tryz.sizeOf9
  v9:=Tryz.zeroValue9
  t21:=Tryz.underlying21
  a21:=Tryz.isAgg21
  z21:=Tryz.sizeOf21
  v21:=Tryz.zeroValue21
  t46:=Tryz.underlying184
  a46:=Tryz.isAgg184
  z46:=Tryz.sizeOf184
  v46:=Tryz.zeroValue184
  t105:=Tryz.underlying127
  a105:=Tryz.isAgg127
  z105:=Tryz.sizeOf127
  v105:=Tryz.zeroValue127
  t119:=Tryz.underlying183
  a119:=Tryz.isAgg183
  z119:=Tryz.sizeOf183
  t138:=Tryz.underlying186
  a138:=Tryz.isAgg186
  z138:=Tryz.sizeOf186
  v138:=Tryz.zeroValue186
  t139:=Tryz.underlying187
  a139:=Tryz.isAgg187
  z139:=Tryz.sizeOf187
  v139:=Tryz.zeroValue187
  g3:=by kernel_rfl
  g4:=by kernel_rfl }
open Go.RowKit Go.Lib in
theorem Tryz.utf8_DecodeRuneInString (s:ByteArray) (w:World) (hT:Lib.Utf8Tabs 1 2 w):
    Calls Tryz.prog 84 #[.string s] w fun e w'=>e= .returned (.tuple #[.int .i32 (Lib.decodeGo s).1, .int .i64 (Lib.decodeGo s).2])∧Below w.heap.size w w':=Any.utf8_DecodeRuneInString Tryz.lays197 s w hT
def Tryz.laysValid_ren:Go.Shelf.Ren:=⟨fun | 196=>194 | 259=>213 | n=>n,fun | 9=>9 | 4=>4 | 3=>3 | 5=>5 | 12=>12 | 119=>183 | 0=>0 | 46=>184 | 139=>187 | 138=>186 | 53=>194 | n=>n,fun | 3=>1 | 4=>2 | n=>n⟩
theorem Tryz.laysValid:Go.Proofs.Lays.n196 Tryz.prog Tryz.laysValid_ren:= {
  mixed:=by kernel_rfl
  f196:=Tryz.func194.trans (congrArg some (by kernel_rfl))
  f259:=Tryz.func213.trans (congrArg some (by kernel_rfl))
  t0:=Tryz.underlying0
  a0:=Tryz.isAgg0
  z0:=Tryz.sizeOf0
  v0:=Tryz.zeroValue0
  t3:=Tryz.underlying3
  a3:=Tryz.isAgg3
  z3:=Tryz.sizeOf3
  v3:=Tryz.zeroValue3
  t4:=Tryz.underlying4
  a4:=Tryz.isAgg4
  z4:=Tryz.sizeOf4
  v4:=Tryz.zeroValue4
  t5:=Tryz.underlying5
  a5:=Tryz.isAgg5
  z5:=Tryz.sizeOf5
  v5:=Tryz.zeroValue5
  t9:=Tryz.underlying9
  a9:=Tryz.isAgg9
  z9:=Tryz.sizeOf9
  v9:=Tryz.zeroValue9
  t12:=Tryz.underlying12
  a12:=Tryz.isAgg12
  z12:=Tryz.sizeOf12
  v12:=Tryz.zeroValue12
  t46:=Tryz.underlying184
  a46:=Tryz.isAgg184
  z46:=Tryz.sizeOf184
  v46:=Tryz.zeroValue184
  t53:=Tryz.underlying194
  a53:=Tryz.isAgg194
  z53:=Tryz.sizeOf194
  v53:=Tryz.zeroValue194
  t119:=Tryz.underlying183
  a119:=Tryz.isAgg183
  z119:=Tryz.sizeOf183
  t138:=Tryz.underlying186
  a138:=Tryz.isAgg186
  z138:=Tryz.sizeOf186
  v138:=Tryz.zeroValue186
  t139:=Tryz.underlying187
  a139:=Tryz.isAgg187
  z139:=Tryz.sizeOf187
  v139:=Tryz.zeroValue187
  g3:=by kernel_rfl
  g4:=by kernel_rfl }
open Go.RowKit in
theorem Tryz.utf8_ValidString (s:ByteArray) (w:World) (hs:s.size≤9223372036854775807) (hT:Lib.Utf8Tabs 1 2 w):
    Calls Tryz.prog 194 #[.string s] w fun e w'=>e= .returned (.bool (Lib.validD s.data.toList))∧Below w.heap.size w w':=Any.utf8_ValidString Tryz.laysValid s w hs hT
end Go.Proofs
