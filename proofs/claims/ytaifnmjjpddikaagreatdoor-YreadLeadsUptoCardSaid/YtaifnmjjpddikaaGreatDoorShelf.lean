import Derived.Shelf.Unicode.ValidAny
import Derived.Shelf.Strings.Builder1
import Derived.Shelf.Strings.Builder2
import Derived.Shelf.Strings.OnBuilder
import Derived.Shelf.Strings.Trim
import Derived.Shelf.Small.Utf8
import Derived.Shelf.Small.Strs
import Derived.Shelf.Small.Wraps
import Derived.Shelf.Strings.BuilderF
import Derived.Shelf.Strings.BuilderK
import Derived.Shelf.Strings.BuilderRune
import Derived.Shelf.Strings.Builder2Cap
import Derived.Shelf.Strconv.Atoi
import Derived.Shelf.Strconv.Itoa0
import Derived.Shelf.Strconv.Itoa1
import Derived.Shelf.LaysM
import Derived.Shelf.Strconv.Itoa2
import Derived.Shelf.Strconv.Itoa3
import Derived.Shelf.Strconv.AtoiErrFast
import Derived.Shelf.Strconv.ParseIntEmpty
import Derived.Shelf.Strconv.AtoiFail
import Derived.Shelf.Strconv.Clone
import Derived.Shelf.Strconv.SyntaxError
import Derived.Shelf.LaysC
import Derived.Shelf.Strconv.ToError
import Derived.Shelf.Strconv.AtoiErr
import Derived.Shelf.Strconv.ErrVar
import Derived.Shelf.Strconv.Lower
import Derived.Shelf.Strconv.ParseUint10
import Derived.Shelf.Strconv.ParseUint10Empty
import Derived.Shelf.Strconv.ParseUint10Any
import Derived.Shelf.Strconv.ParseInt10
import Derived.Shelf.Strconv.AtoiLong
import Derived.Shelf.Strconv.AtoiInnerAll
import Derived.Shelf.Strconv.RangeError
import Derived.Shelf.Strconv.ToErrorRange
import Derived.Shelf.Strconv.AtoiAll
import Derived.Shelf.Strconv.ErrVarAll
import Derived.Shelf.Strconv.ParseUintEmpty
import Derived.Shelf.Strconv.ParseUint10b64
import Derived.Shelf.Strconv.ParseUint10b32
import Derived.Shelf.Strconv.ParseUint10b16
import Derived.Shelf.Strconv.ParseUint10b8
import Derived.Shelf.Strconv.ParseUint10At
import Derived.Shelf.Strconv.ParseInt10At64
import Derived.Shelf.Strconv.ParseInt10At32
import Derived.Shelf.Strconv.ParseInt10At16
import Derived.Shelf.Strconv.ParseInt10At8
import Derived.Shelf.Strconv.ParseInt10All
import Derived.Shelf.Strconv.ParseIntPublic10
import Derived.Shelf.Strconv.ErrVarParseInt
import Derived.Shelf.Strings.Search1
import Derived.Shelf.Strings.Search2
import Derived.Shelf.Strings.Search3
import Derived.Shelf.Strings.Shaped
import Derived.Shelf.Strings.Prefix
import Derived.Shelf.Unicode.Decode
import Derived.Shelf.Strings.Runes
import Derived.Shelf.Strings.IndexAny
import Derived.Shelf.Strings.AsciiSet
import Derived.Shelf.Strings.IndexAnyAll
import Derived.Shelf.Bits.Mul64
import Derived.Shelf.Strings.Repeat
import Derived.Shelf.Unicode.DecodeSlow
import Derived.Shelf.Unicode.DecodeAny
import Derived.Shelf.Unicode.DecodeLast
import Derived.Shelf.Strings.BuilderCap
import Derived.Shelf.Slices.Turned
import Derived.Ground.Names2Prog
import Derived.Shelf.Slices.Clone
import Derived.Test.YtaifnmjjpddikaaGreatDoorProg
namespace Go.Proofs
open Go.Shelf
def Tryz.lays169_ren:Go.Shelf.Ren:=⟨fun | 169=>130 | n=>n,fun | 70=>173 | 9=>9 | 0=>0 | 72=>176 | 37=>174 | 127=>211 | 3=>3 | 5=>5 | n=>n,fun | n=>n⟩
theorem Tryz.lays169:Go.Proofs.Lays.n169 Tryz.prog Tryz.lays169_ren:= {
  mixed:=by kernel_rfl
  f169:=Tryz.func130.trans (congrArg some (by kernel_rfl))
  t0:=Tryz.underlying0
  a0:=Tryz.isAgg0
  z0:=Tryz.sizeOf0
  v0:=Tryz.zeroValue0
  t3:=Tryz.underlying3
  a3:=Tryz.isAgg3
  z3:=Tryz.sizeOf3
  v3:=Tryz.zeroValue3
  t9:=Tryz.underlying9
  a9:=Tryz.isAgg9
  z9:=Tryz.sizeOf9
  v9:=Tryz.zeroValue9
  t37:=Tryz.underlying174
  a37:=Tryz.isAgg174
  z37:=Tryz.sizeOf174
  v37:=Tryz.zeroValue174
  t70:=Tryz.underlying173
  a70:=Tryz.isAgg173
  z70:=Tryz.sizeOf173
  v70:=Tryz.zeroValue173
  t72:=Tryz.underlying176
  a72:=Tryz.isAgg176
  z72:=Tryz.sizeOf176
  v72:=Tryz.zeroValue176
  t127:=Tryz.underlying211
  a127:=Tryz.isAgg211
  z127:=Tryz.sizeOf211
  v127:=Tryz.zeroValue211 }
theorem Tryz.Builder_Extra_169:Builder.Extra Tryz.prog Tryz.lays169_ren:= {
  sizeBuilder:=by kernel_rfl
  liesBuilder:=by kernel_rfl
  t5:=Tryz.underlying5
  a5:=Tryz.isAgg5
  z5:=Tryz.sizeOf5
  v5:=Tryz.zeroValue5
  infoByte:=by kernel_rfl
  cellsByte:=by kernel_rfl
  sizeByte:=by kernel_rfl
  neB5:=by decide }
def Tryz.lays161_ren:Go.Shelf.Ren:=⟨fun | 161=>94 | 231=>124 | 227=>125 | 233=>126 | 235=>127 | 228=>158 | 197=>111 | 151=>170 | 260=>155 | 152=>156 | 137=>32 | 119=>184 | 224=>185 | 225=>186 | 217=>66 | 266=>105 | n=>n,fun | 9=>9 | 4=>4 | 3=>3 | 5=>5 | 117=>169 | 116=>168 | 0=>0 | 124=>172 | 105=>159 | 21=>21 | 119=>197 | 46=>201 | 139=>200 | 138=>199 | n=>n,fun | 3=>1 | 4=>2 | n=>n⟩
theorem Tryz.lays161:Go.Proofs.Lays.n161 Tryz.prog Tryz.lays161_ren:= {
  mixed:=by kernel_rfl
  f119:=Tryz.func184.trans (congrArg some (by kernel_rfl))
  f137:=Tryz.func32.trans (congrArg some (by kernel_rfl))
  f151:=Tryz.func170.trans (congrArg some (by kernel_rfl))
  f152:=Tryz.func156.trans (congrArg some (by kernel_rfl))
  f161:=Tryz.func94.trans (congrArg some (by kernel_rfl))
  f197:=Tryz.func111.trans (congrArg some (by kernel_rfl))
  f217:=Tryz.func66.trans (congrArg some (by kernel_rfl))
  f224:=Tryz.func185.trans (congrArg some (by kernel_rfl))
  f225:=Tryz.func186.trans (congrArg some (by kernel_rfl))
  f227:=Tryz.func125.trans (congrArg some (by kernel_rfl))
  f228:=Tryz.func158.trans (congrArg some (by kernel_rfl))
  f231:=Tryz.func124.trans (congrArg some (by kernel_rfl))
  f233:=Tryz.func126.trans (congrArg some (by kernel_rfl))
  f235:=Tryz.func127.trans (congrArg some (by kernel_rfl))
  f260:=Tryz.func155.trans (congrArg some (by kernel_rfl))
  f266:=Tryz.func105.trans (congrArg some (by kernel_rfl))
  t0:=Tryz.underlying0
  a0:=Tryz.isAgg0
  z0:=Tryz.sizeOf0
  v0:=Tryz.zeroValue0
  t3:=Tryz.underlying3
  a3:=Tryz.isAgg3
  z3:=Tryz.sizeOf3
  v3:=Tryz.zeroValue3
  t4:=Tryz.underlying4
  a4:=Tryz.isAgg4
  z4:=Tryz.sizeOf4
  v4:=Tryz.zeroValue4
  t5:=Tryz.underlying5
  a5:=Tryz.isAgg5
  z5:=Tryz.sizeOf5
  v5:=Tryz.zeroValue5
  t9:=Tryz.underlying9
  a9:=Tryz.isAgg9
  z9:=Tryz.sizeOf9
  v9:=Tryz.zeroValue9
  t21:=Tryz.underlying21
  a21:=Tryz.isAgg21
  z21:=Tryz.sizeOf21
  v21:=Tryz.zeroValue21
  t46:=Tryz.underlying201
  a46:=Tryz.isAgg201
  z46:=Tryz.sizeOf201
  v46:=Tryz.zeroValue201
  t105:=Tryz.underlying159
  a105:=Tryz.isAgg159
  z105:=Tryz.sizeOf159
  v105:=Tryz.zeroValue159
  t116:=Tryz.underlying168
  a116:=Tryz.isAgg168
  z116:=Tryz.sizeOf168
  t117:=Tryz.underlying169
  a117:=Tryz.isAgg169
  z117:=Tryz.sizeOf169
  v117:=Tryz.zeroValue169
  t119:=Tryz.underlying197
  a119:=Tryz.isAgg197
  z119:=Tryz.sizeOf197
  t124:=Tryz.underlying172
  a124:=Tryz.isAgg172
  z124:=Tryz.sizeOf172
  v124:=Tryz.zeroValue172
  t138:=Tryz.underlying199
  a138:=Tryz.isAgg199
  z138:=Tryz.sizeOf199
  v138:=Tryz.zeroValue199
  t139:=Tryz.underlying200
  a139:=Tryz.isAgg200
  z139:=Tryz.sizeOf200
  v139:=Tryz.zeroValue200
  g3:=by kernel_rfl
  g4:=by kernel_rfl }
open Go.RowKit in
theorem Tryz.strings_TrimLeft_one (s:ByteArray) (c:UInt8) (hc:c.toNat<128) (w:World):
    Calls Tryz.prog 94 #[.string s, .string ⟨#[c]⟩] w fun e w'=>e= .returned (.string ⟨(Lib.trimLeftB s.data.toList c).toArray⟩)∧w'=w:=Any.strings_TrimLeft_one Tryz.lays161 s c hc w
def Tryz.lays162_ren:Go.Shelf.Ren:=⟨fun | 162=>101 | 232=>142 | 227=>125 | 234=>143 | 236=>144 | 228=>158 | 271=>176 | 151=>170 | 120=>195 | 197=>111 | 152=>156 | 260=>155 | 137=>32 | 119=>184 | 224=>185 | 225=>186 | 217=>66 | 266=>105 | n=>n,fun | 9=>9 | 4=>4 | 3=>3 | 5=>5 | 117=>169 | 116=>168 | 0=>0 | 124=>172 | 21=>21 | 105=>159 | 46=>201 | 119=>197 | 139=>200 | 138=>199 | n=>n,fun | 3=>1 | 4=>2 | n=>n⟩
theorem Tryz.lays162:Go.Proofs.Lays.n162 Tryz.prog Tryz.lays162_ren:= {
  mixed:=by kernel_rfl
  f119:=Tryz.func184.trans (congrArg some (by kernel_rfl))
  f120:=Tryz.func195.trans (congrArg some (by kernel_rfl))
  f137:=Tryz.func32.trans (congrArg some (by kernel_rfl))
  f151:=Tryz.func170.trans (congrArg some (by kernel_rfl))
  f152:=Tryz.func156.trans (congrArg some (by kernel_rfl))
  f162:=Tryz.func101.trans (congrArg some (by kernel_rfl))
  f197:=Tryz.func111.trans (congrArg some (by kernel_rfl))
  f217:=Tryz.func66.trans (congrArg some (by kernel_rfl))
  f224:=Tryz.func185.trans (congrArg some (by kernel_rfl))
  f225:=Tryz.func186.trans (congrArg some (by kernel_rfl))
  f227:=Tryz.func125.trans (congrArg some (by kernel_rfl))
  f228:=Tryz.func158.trans (congrArg some (by kernel_rfl))
  f232:=Tryz.func142.trans (congrArg some (by kernel_rfl))
  f234:=Tryz.func143.trans (congrArg some (by kernel_rfl))
  f236:=Tryz.func144.trans (congrArg some (by kernel_rfl))
  f260:=Tryz.func155.trans (congrArg some (by kernel_rfl))
  f266:=Tryz.func105.trans (congrArg some (by kernel_rfl))
  f271:=Tryz.func176.trans (congrArg some (by kernel_rfl))
  t0:=Tryz.underlying0
  a0:=Tryz.isAgg0
  z0:=Tryz.sizeOf0
  v0:=Tryz.zeroValue0
  t3:=Tryz.underlying3
  a3:=Tryz.isAgg3
  z3:=Tryz.sizeOf3
  v3:=Tryz.zeroValue3
  t4:=Tryz.underlying4
  a4:=Tryz.isAgg4
  z4:=Tryz.sizeOf4
  v4:=Tryz.zeroValue4
  t5:=Tryz.underlying5
  a5:=Tryz.isAgg5
  z5:=Tryz.sizeOf5
  v5:=Tryz.zeroValue5
  t9:=Tryz.underlying9
  a9:=Tryz.isAgg9
  z9:=Tryz.sizeOf9
  v9:=Tryz.zeroValue9
  t21:=Tryz.underlying21
  a21:=Tryz.isAgg21
  z21:=Tryz.sizeOf21
  v21:=Tryz.zeroValue21
  t46:=Tryz.underlying201
  a46:=Tryz.isAgg201
  z46:=Tryz.sizeOf201
  v46:=Tryz.zeroValue201
  t105:=Tryz.underlying159
  a105:=Tryz.isAgg159
  z105:=Tryz.sizeOf159
  v105:=Tryz.zeroValue159
  t116:=Tryz.underlying168
  a116:=Tryz.isAgg168
  z116:=Tryz.sizeOf168
  t117:=Tryz.underlying169
  a117:=Tryz.isAgg169
  z117:=Tryz.sizeOf169
  v117:=Tryz.zeroValue169
  t119:=Tryz.underlying197
  a119:=Tryz.isAgg197
  z119:=Tryz.sizeOf197
  t124:=Tryz.underlying172
  a124:=Tryz.isAgg172
  z124:=Tryz.sizeOf172
  v124:=Tryz.zeroValue172
  t138:=Tryz.underlying199
  a138:=Tryz.isAgg199
  z138:=Tryz.sizeOf199
  v138:=Tryz.zeroValue199
  t139:=Tryz.underlying200
  a139:=Tryz.isAgg200
  z139:=Tryz.sizeOf200
  v139:=Tryz.zeroValue200
  g3:=by kernel_rfl
  g4:=by kernel_rfl }
open Go.RowKit in
theorem Tryz.strings_TrimRight_one (s:ByteArray) (c:UInt8) (hc:c.toNat<128) (w:World) (hs:s.size≤9223372036854775807):
    Calls Tryz.prog 101 #[.string s, .string ⟨#[c]⟩] w fun e w'=>e= .returned (.string ⟨(Lib.trimRightB s.data.toList c).toArray⟩)∧w'=w:=Any.strings_TrimRight_one Tryz.lays162 s c hc w hs
def Tryz.lays160_ren:Go.Shelf.Ren:=⟨fun | 160=>120 | 232=>142 | 231=>124 | 227=>125 | 234=>143 | 233=>126 | 236=>144 | 235=>127 | 228=>158 | 271=>176 | 151=>170 | 197=>111 | 120=>195 | 152=>156 | 260=>155 | 137=>32 | 119=>184 | 224=>185 | 225=>186 | 217=>66 | 266=>105 | n=>n,fun | 9=>9 | 4=>4 | 3=>3 | 5=>5 | 117=>169 | 116=>168 | 0=>0 | 124=>172 | 21=>21 | 105=>159 | 46=>201 | 119=>197 | 139=>200 | 138=>199 | n=>n,fun | 3=>1 | 4=>2 | n=>n⟩
theorem Tryz.lays160:Go.Proofs.Lays.n160 Tryz.prog Tryz.lays160_ren:= {
  mixed:=by kernel_rfl
  f119:=Tryz.func184.trans (congrArg some (by kernel_rfl))
  f120:=Tryz.func195.trans (congrArg some (by kernel_rfl))
  f137:=Tryz.func32.trans (congrArg some (by kernel_rfl))
  f151:=Tryz.func170.trans (congrArg some (by kernel_rfl))
  f152:=Tryz.func156.trans (congrArg some (by kernel_rfl))
  f160:=Tryz.func120.trans (congrArg some (by kernel_rfl))
  f197:=Tryz.func111.trans (congrArg some (by kernel_rfl))
  f217:=Tryz.func66.trans (congrArg some (by kernel_rfl))
  f224:=Tryz.func185.trans (congrArg some (by kernel_rfl))
  f225:=Tryz.func186.trans (congrArg some (by kernel_rfl))
  f227:=Tryz.func125.trans (congrArg some (by kernel_rfl))
  f228:=Tryz.func158.trans (congrArg some (by kernel_rfl))
  f231:=Tryz.func124.trans (congrArg some (by kernel_rfl))
  f232:=Tryz.func142.trans (congrArg some (by kernel_rfl))
  f233:=Tryz.func126.trans (congrArg some (by kernel_rfl))
  f234:=Tryz.func143.trans (congrArg some (by kernel_rfl))
  f235:=Tryz.func127.trans (congrArg some (by kernel_rfl))
  f236:=Tryz.func144.trans (congrArg some (by kernel_rfl))
  f260:=Tryz.func155.trans (congrArg some (by kernel_rfl))
  f266:=Tryz.func105.trans (congrArg some (by kernel_rfl))
  f271:=Tryz.func176.trans (congrArg some (by kernel_rfl))
  t0:=Tryz.underlying0
  a0:=Tryz.isAgg0
  z0:=Tryz.sizeOf0
  v0:=Tryz.zeroValue0
  t3:=Tryz.underlying3
  a3:=Tryz.isAgg3
  z3:=Tryz.sizeOf3
  v3:=Tryz.zeroValue3
  t4:=Tryz.underlying4
  a4:=Tryz.isAgg4
  z4:=Tryz.sizeOf4
  v4:=Tryz.zeroValue4
  t5:=Tryz.underlying5
  a5:=Tryz.isAgg5
  z5:=Tryz.sizeOf5
  v5:=Tryz.zeroValue5
  t9:=Tryz.underlying9
  a9:=Tryz.isAgg9
  z9:=Tryz.sizeOf9
  v9:=Tryz.zeroValue9
  t21:=Tryz.underlying21
  a21:=Tryz.isAgg21
  z21:=Tryz.sizeOf21
  v21:=Tryz.zeroValue21
  t46:=Tryz.underlying201
  a46:=Tryz.isAgg201
  z46:=Tryz.sizeOf201
  v46:=Tryz.zeroValue201
  t105:=Tryz.underlying159
  a105:=Tryz.isAgg159
  z105:=Tryz.sizeOf159
  v105:=Tryz.zeroValue159
  t116:=Tryz.underlying168
  a116:=Tryz.isAgg168
  z116:=Tryz.sizeOf168
  t117:=Tryz.underlying169
  a117:=Tryz.isAgg169
  z117:=Tryz.sizeOf169
  v117:=Tryz.zeroValue169
  t119:=Tryz.underlying197
  a119:=Tryz.isAgg197
  z119:=Tryz.sizeOf197
  t124:=Tryz.underlying172
  a124:=Tryz.isAgg172
  z124:=Tryz.sizeOf172
  v124:=Tryz.zeroValue172
  t138:=Tryz.underlying199
  a138:=Tryz.isAgg199
  z138:=Tryz.sizeOf199
  v138:=Tryz.zeroValue199
  t139:=Tryz.underlying200
  a139:=Tryz.isAgg200
  z139:=Tryz.sizeOf200
  v139:=Tryz.zeroValue200
  g3:=by kernel_rfl
  g4:=by kernel_rfl }
open Go.RowKit in
theorem Tryz.strings_Trim_one (s:ByteArray) (c:UInt8) (hc:c.toNat<128) (w:World) (hs:s.size≤9223372036854775807):
    Calls Tryz.prog 120 #[.string s, .string ⟨#[c]⟩] w fun e w'=>e= .returned (.string ⟨(Lib.trimB s.data.toList c).toArray⟩)∧(w'=w∨w'=w.drew):=Any.strings_Trim_one Tryz.lays160 s c hc w hs
def Tryz.lays137_ren:Go.Shelf.Ren:=⟨fun | 137=>32 | 217=>66 | 266=>105 | n=>n,fun | 9=>9 | 5=>5 | 3=>3 | n=>n,fun | n=>n⟩
theorem Tryz.lays137:Go.Proofs.Lays.n137 Tryz.prog Tryz.lays137_ren:= {
  mixed:=by kernel_rfl
  f137:=Tryz.func32.trans (congrArg some (by kernel_rfl))
  f217:=Tryz.func66.trans (congrArg some (by kernel_rfl))
  f266:=Tryz.func105.trans (congrArg some (by kernel_rfl))
  t3:=Tryz.underlying3
  a3:=Tryz.isAgg3
  z3:=Tryz.sizeOf3
  v3:=Tryz.zeroValue3
  t5:=Tryz.underlying5
  a5:=Tryz.isAgg5
  z5:=Tryz.sizeOf5
  v5:=Tryz.zeroValue5
  t9:=Tryz.underlying9
  a9:=Tryz.isAgg9
  z9:=Tryz.sizeOf9
  v9:=Tryz.zeroValue9 }
open Go.RowKit in
theorem Tryz.strings_IndexByte (s:ByteArray) (c:Int) (w:World):
    Calls Tryz.prog 32 #[.string s, .int .u8 c] w fun e w'=>e= .returned (.int .i64 (Lib.indexByte s.data.toList c.toNat.toUInt8))∧w'=w:=Any.strings_IndexByte Tryz.lays137 s c w
def Tryz.lays103_ren:Go.Shelf.Ren:=⟨fun | 103=>138 | 210=>174 | 206=>167 | n=>n,fun | 9=>9 | 4=>4 | 24=>92 | 3=>3 | n=>n,fun | n=>n⟩
theorem Tryz.lays103:Go.Proofs.Lays.n103 Tryz.prog Tryz.lays103_ren:= {
  mixed:=by kernel_rfl
  f103:=Tryz.func138.trans (congrArg some (by kernel_rfl))
  f206:=Tryz.func167.trans (congrArg some (by kernel_rfl))
  f210:=Tryz.func174.trans (congrArg some (by kernel_rfl))
  t3:=Tryz.underlying3
  a3:=Tryz.isAgg3
  z3:=Tryz.sizeOf3
  v3:=Tryz.zeroValue3
  t4:=Tryz.underlying4
  a4:=Tryz.isAgg4
  z4:=Tryz.sizeOf4
  v4:=Tryz.zeroValue4
  t9:=Tryz.underlying9
  a9:=Tryz.isAgg9
  z9:=Tryz.sizeOf9
  v9:=Tryz.zeroValue9
  t24:=Tryz.underlying92
  a24:=Tryz.isAgg92
  z24:=Tryz.sizeOf92
  v24:=Tryz.zeroValue92 }
open Go.RowKit in
theorem Tryz.strings_CutPrefix (s p:ByteArray) (w:World):
    Calls Tryz.prog 138 #[.string s, .string p] w fun e w'=>e= .returned (.tuple #[.string ⟨(Lib.trimPrefix s.data.toList p.data.toList).toArray⟩, .bool (Lib.hasPrefix s.data.toList p.data.toList)])∧w'=w:=Any.strings_CutPrefix Tryz.lays103 s p w
open Go.RowKit in
theorem Tryz.Builder_String_any_k (B b:Nat) (l:List UInt8) (w:World) (h:Lib.IsBuilderF 176 5 B b (Lib.byteCells l) w) (hBw:B≤w.heap.size):
    Calls Tryz.prog 130 #[.pointer (some ⟨b,0,none⟩)] w fun e w'=>e= .returned (.string ⟨l.toArray⟩)∧(Lib.IsBuilderF 176 5 B b (Lib.byteCells l) w'∧Below B w w'∧Lib.OthersKept 5 (some b) w w'):=Any.Builder_String_any_k Tryz.lays169 Tryz.Builder_Extra_169 B b l w h hBw
def Tryz.laysM171_ren:Go.Shelf.Ren:=⟨fun | 171=>103 | 243=>145 | 246=>177 | 283=>196 | 284=>197 | 285=>198 | 286=>199 | 129=>212 | 317=>211 | 318=>213 | 319=>214 | 320=>215 | 337=>218 | 338=>219 | n=>n,fun | 3=>3 | 9=>9 | 2=>2 | 4=>4 | 171=>229 | 0=>0 | 53=>216 | 37=>174 | 5=>5 | 173=>232 | 212=>248 | 51=>236 | 20=>20 | 213=>249 | 46=>201 | 232=>254 | 233=>255 | n=>n,fun | 17=>5 | 18=>6 | 19=>7 | n=>n⟩
theorem Tryz.laysM171:Go.Proofs.LaysM.n171 Tryz.prog Tryz.laysM171_ren:= {
  mixed:=by kernel_rfl
  f129:=Tryz.func212.trans (congrArg some (by kernel_rfl))
  f171:=Tryz.func103.trans (congrArg some (by kernel_rfl))
  f243:=Tryz.func145.trans (congrArg some (by kernel_rfl))
  f246:=Tryz.func177.trans (congrArg some (by kernel_rfl))
  f283:=Tryz.func196.trans (congrArg some (by kernel_rfl))
  f284:=Tryz.func197.trans (congrArg some (by kernel_rfl))
  f285:=Tryz.func198.trans (congrArg some (by kernel_rfl))
  f286:=Tryz.func199.trans (congrArg some (by kernel_rfl))
  f317:=Tryz.func211.trans (congrArg some (by kernel_rfl))
  f318:=Tryz.func213.trans (congrArg some (by kernel_rfl))
  f319:=Tryz.func214.trans (congrArg some (by kernel_rfl))
  f320:=Tryz.func215.trans (congrArg some (by kernel_rfl))
  f337:=Tryz.func218.trans (congrArg some (by kernel_rfl))
  f338:=Tryz.func219.trans (congrArg some (by kernel_rfl))
  t0:=Tryz.underlying0
  a0:=Tryz.isAgg0
  z0:=Tryz.sizeOf0
  v0:=Tryz.zeroValue0
  t2:=Tryz.underlying2
  a2:=Tryz.isAgg2
  z2:=Tryz.sizeOf2
  v2:=Tryz.zeroValue2
  t3:=Tryz.underlying3
  a3:=Tryz.isAgg3
  z3:=Tryz.sizeOf3
  v3:=Tryz.zeroValue3
  t4:=Tryz.underlying4
  a4:=Tryz.isAgg4
  z4:=Tryz.sizeOf4
  v4:=Tryz.zeroValue4
  t5:=Tryz.underlying5
  a5:=Tryz.isAgg5
  z5:=Tryz.sizeOf5
  v5:=Tryz.zeroValue5
  t9:=Tryz.underlying9
  a9:=Tryz.isAgg9
  z9:=Tryz.sizeOf9
  v9:=Tryz.zeroValue9
  t20:=Tryz.underlying20
  a20:=Tryz.isAgg20
  z20:=Tryz.sizeOf20
  v20:=Tryz.zeroValue20
  t37:=Tryz.underlying174
  a37:=Tryz.isAgg174
  z37:=Tryz.sizeOf174
  v37:=Tryz.zeroValue174
  t46:=Tryz.underlying201
  a46:=Tryz.isAgg201
  z46:=Tryz.sizeOf201
  v46:=Tryz.zeroValue201
  t51:=Tryz.underlying236
  a51:=Tryz.isAgg236
  z51:=Tryz.sizeOf236
  v51:=Tryz.zeroValue236
  t53:=Tryz.underlying216
  a53:=Tryz.isAgg216
  z53:=Tryz.sizeOf216
  v53:=Tryz.zeroValue216
  t171:=Tryz.underlying229
  a171:=Tryz.isAgg229
  z171:=Tryz.sizeOf229
  v171:=Tryz.zeroValue229
  t173:=Tryz.underlying232
  a173:=Tryz.isAgg232
  z173:=Tryz.sizeOf232
  v173:=Tryz.zeroValue232
  t212:=Tryz.underlying248
  a212:=Tryz.isAgg248
  z212:=Tryz.sizeOf248
  v212:=Tryz.zeroValue248
  t213:=Tryz.underlying249
  a213:=Tryz.isAgg249
  z213:=Tryz.sizeOf249
  t232:=Tryz.underlying254
  a232:=Tryz.isAgg254
  z232:=Tryz.sizeOf254
  v232:=Tryz.zeroValue254
  t233:=Tryz.underlying255
  a233:=Tryz.isAgg255
  z233:=Tryz.sizeOf255
  v233:=Tryz.zeroValue255
  g17:=by kernel_rfl
  g18:=by kernel_rfl
  g19:=by kernel_rfl
  i0:=by kernel_rfl
  i2:=by kernel_rfl
  i3:=by kernel_rfl
  i4:=by kernel_rfl
  i5:=by kernel_rfl
  i9:=by kernel_rfl
  i20:=by kernel_rfl
  i37:=by kernel_rfl
  i46:=by kernel_rfl
  i51:=by kernel_rfl
  i53:=by kernel_rfl
  i171:=by kernel_rfl
  i173:=by kernel_rfl
  i212:=by kernel_rfl
  i232:=by kernel_rfl
  i233:=by kernel_rfl
  m17:=by kernel_rfl
  m18:=by kernel_rfl
  m19:=by kernel_rfl }
open Go.RowKit Go.Sort Go.Lib in
theorem Tryz.strconv_Itoa (n:Int) (h0: -9223372036854775808≤n) (h1:n≤9223372036854775807) (w:World) (htab:Lib.TabIs Tryz.prog w "internal/strconv.uint64pow10" .u64 Lib.pow10Tab):
    Calls Tryz.prog 103 #[.int .i64 n] w fun e w'=>e= .returned (.string ⟨(Lib.itoa n).toArray⟩)∧ ∃k os,w'=grow (w.drewN k) os:=Any.strconv_Itoa Tryz.laysM171 n h0 h1 w htab
def Tryz.lays143_ren:Go.Shelf.Ren:=⟨fun | 143=>169 | 219=>192 | 217=>66 | 225=>186 | 224=>185 | 267=>210 | 266=>105 | 314=>217 | n=>n,fun | 9=>9 | 3=>3 | 4=>4 | 5=>5 | 46=>201 | 146=>243 | 51=>236 | n=>n,fun | 1=>0 | n=>n⟩
theorem Tryz.lays143:Go.Proofs.Lays.n143 Tryz.prog Tryz.lays143_ren:= {
  mixed:=by kernel_rfl
  f143:=Tryz.func169.trans (congrArg some (by kernel_rfl))
  f217:=Tryz.func66.trans (congrArg some (by kernel_rfl))
  f219:=Tryz.func192.trans (congrArg some (by kernel_rfl))
  f224:=Tryz.func185.trans (congrArg some (by kernel_rfl))
  f225:=Tryz.func186.trans (congrArg some (by kernel_rfl))
  f266:=Tryz.func105.trans (congrArg some (by kernel_rfl))
  f267:=Tryz.func210.trans (congrArg some (by kernel_rfl))
  f314:=Tryz.func217.trans (congrArg some (by kernel_rfl))
  t3:=Tryz.underlying3
  a3:=Tryz.isAgg3
  z3:=Tryz.sizeOf3
  v3:=Tryz.zeroValue3
  t4:=Tryz.underlying4
  a4:=Tryz.isAgg4
  z4:=Tryz.sizeOf4
  v4:=Tryz.zeroValue4
  t5:=Tryz.underlying5
  a5:=Tryz.isAgg5
  z5:=Tryz.sizeOf5
  v5:=Tryz.zeroValue5
  t9:=Tryz.underlying9
  a9:=Tryz.isAgg9
  z9:=Tryz.sizeOf9
  v9:=Tryz.zeroValue9
  t46:=Tryz.underlying201
  a46:=Tryz.isAgg201
  z46:=Tryz.sizeOf201
  v46:=Tryz.zeroValue201
  t51:=Tryz.underlying236
  a51:=Tryz.isAgg236
  z51:=Tryz.sizeOf236
  v51:=Tryz.zeroValue236
  t146:=Tryz.underlying243
  a146:=Tryz.isAgg243
  z146:=Tryz.sizeOf243
  v146:=Tryz.zeroValue243
  g1:=by kernel_rfl }
open Go.RowKit Go.Lib in
theorem Tryz.strings_Index (s sub:ByteArray) (m:Int) (w:World) (hs:s.size<4294967281) (hm:w.cell? ⟨0,0,none⟩=some (.int .i64 m)):
    Calls Tryz.prog 169 #[.string s, .string sub] w fun e w'=>e= .returned (.int .i64 (Lib.index s.data.toList sub.data.toList))∧w'=w:=Any.strings_Index Tryz.lays143 s sub m w hs hm
def Tryz.lays144_ren:Go.Shelf.Ren:=⟨fun | 144=>123 | 143=>169 | 219=>192 | 217=>66 | 225=>186 | 224=>185 | 267=>210 | 266=>105 | 314=>217 | n=>n,fun | 9=>9 | 4=>4 | 3=>3 | 5=>5 | 46=>201 | 146=>243 | 51=>236 | n=>n,fun | 1=>0 | n=>n⟩
theorem Tryz.lays144:Go.Proofs.Lays.n144 Tryz.prog Tryz.lays144_ren:= {
  mixed:=by kernel_rfl
  f143:=Tryz.func169.trans (congrArg some (by kernel_rfl))
  f144:=Tryz.func123.trans (congrArg some (by kernel_rfl))
  f217:=Tryz.func66.trans (congrArg some (by kernel_rfl))
  f219:=Tryz.func192.trans (congrArg some (by kernel_rfl))
  f224:=Tryz.func185.trans (congrArg some (by kernel_rfl))
  f225:=Tryz.func186.trans (congrArg some (by kernel_rfl))
  f266:=Tryz.func105.trans (congrArg some (by kernel_rfl))
  f267:=Tryz.func210.trans (congrArg some (by kernel_rfl))
  f314:=Tryz.func217.trans (congrArg some (by kernel_rfl))
  t3:=Tryz.underlying3
  a3:=Tryz.isAgg3
  z3:=Tryz.sizeOf3
  v3:=Tryz.zeroValue3
  t4:=Tryz.underlying4
  a4:=Tryz.isAgg4
  z4:=Tryz.sizeOf4
  v4:=Tryz.zeroValue4
  t5:=Tryz.underlying5
  a5:=Tryz.isAgg5
  z5:=Tryz.sizeOf5
  v5:=Tryz.zeroValue5
  t9:=Tryz.underlying9
  a9:=Tryz.isAgg9
  z9:=Tryz.sizeOf9
  v9:=Tryz.zeroValue9
  t46:=Tryz.underlying201
  a46:=Tryz.isAgg201
  z46:=Tryz.sizeOf201
  v46:=Tryz.zeroValue201
  t51:=Tryz.underlying236
  a51:=Tryz.isAgg236
  z51:=Tryz.sizeOf236
  v51:=Tryz.zeroValue236
  t146:=Tryz.underlying243
  a146:=Tryz.isAgg243
  z146:=Tryz.sizeOf243
  v146:=Tryz.zeroValue243
  g1:=by kernel_rfl }
open Go.RowKit Go.Lib in
theorem Tryz.strings_Contains_one (s:ByteArray) (c:UInt8) (w:World):
    Calls Tryz.prog 123 #[.string s, .string ⟨#[c]⟩] w fun e w'=>e= .returned (.bool (decide (0≤Lib.indexByte s.data.toList c)))∧w'=w:=Any.strings_Contains_one Tryz.lays144 s c w
open Go.RowKit Go.Lib in
theorem Tryz.strings_Contains (s sub:ByteArray) (m:Int) (w:World) (hs:s.size<4294967281) (hm:w.cell? ⟨0,0,none⟩=some (.int .i64 m)):
    Calls Tryz.prog 123 #[.string s, .string sub] w fun e w'=>e= .returned (.bool (Lib.contains s.data.toList sub.data.toList))∧w'=w:=Any.strings_Contains Tryz.lays144 s sub m w hs hm
def Tryz.lays99_ren:Go.Shelf.Ren:=⟨fun | 99=>121 | 206=>167 | n=>n,fun | 9=>9 | 4=>4 | 3=>3 | n=>n,fun | n=>n⟩
theorem Tryz.lays99:Go.Proofs.Lays.n99 Tryz.prog Tryz.lays99_ren:= {
  mixed:=by kernel_rfl
  f99:=Tryz.func121.trans (congrArg some (by kernel_rfl))
  f206:=Tryz.func167.trans (congrArg some (by kernel_rfl))
  t3:=Tryz.underlying3
  a3:=Tryz.isAgg3
  z3:=Tryz.sizeOf3
  v3:=Tryz.zeroValue3
  t4:=Tryz.underlying4
  a4:=Tryz.isAgg4
  z4:=Tryz.sizeOf4
  v4:=Tryz.zeroValue4
  t9:=Tryz.underlying9
  a9:=Tryz.isAgg9
  z9:=Tryz.sizeOf9
  v9:=Tryz.zeroValue9 }
open Go.RowKit Go.Lib in
theorem Tryz.strings_HasPrefix (s p:ByteArray) (w:World):
    Calls Tryz.prog 121 #[.string s, .string p] w fun e w'=>e= .returned (.bool (Lib.hasPrefix s.data.toList p.data.toList))∧w'=w:=Any.strings_HasPrefix Tryz.lays99 s p w
def Tryz.lays100_ren:Go.Shelf.Ren:=⟨fun | 100=>122 | 207=>168 | n=>n,fun | 9=>9 | 4=>4 | 3=>3 | n=>n,fun | n=>n⟩
theorem Tryz.lays100:Go.Proofs.Lays.n100 Tryz.prog Tryz.lays100_ren:= {
  mixed:=by kernel_rfl
  f100:=Tryz.func122.trans (congrArg some (by kernel_rfl))
  f207:=Tryz.func168.trans (congrArg some (by kernel_rfl))
  t3:=Tryz.underlying3
  a3:=Tryz.isAgg3
  z3:=Tryz.sizeOf3
  v3:=Tryz.zeroValue3
  t4:=Tryz.underlying4
  a4:=Tryz.isAgg4
  z4:=Tryz.sizeOf4
  v4:=Tryz.zeroValue4
  t9:=Tryz.underlying9
  a9:=Tryz.isAgg9
  z9:=Tryz.sizeOf9
  v9:=Tryz.zeroValue9 }
open Go.RowKit Go.Lib in
theorem Tryz.strings_HasSuffix (s p:ByteArray) (w:World) (hs:s.size≤9223372036854775807):
    Calls Tryz.prog 122 #[.string s, .string p] w fun e w'=>e= .returned (.bool (Lib.hasSuffix s.data.toList p.data.toList))∧w'=w:=Any.strings_HasSuffix Tryz.lays100 s p w hs
def Tryz.lays101_ren:Go.Shelf.Ren:=⟨fun | 101=>140 | 208=>175 | 206=>167 | n=>n,fun | 9=>9 | 4=>4 | 3=>3 | n=>n,fun | n=>n⟩
theorem Tryz.lays101:Go.Proofs.Lays.n101 Tryz.prog Tryz.lays101_ren:= {
  mixed:=by kernel_rfl
  f101:=Tryz.func140.trans (congrArg some (by kernel_rfl))
  f206:=Tryz.func167.trans (congrArg some (by kernel_rfl))
  f208:=Tryz.func175.trans (congrArg some (by kernel_rfl))
  t3:=Tryz.underlying3
  a3:=Tryz.isAgg3
  z3:=Tryz.sizeOf3
  v3:=Tryz.zeroValue3
  t4:=Tryz.underlying4
  a4:=Tryz.isAgg4
  z4:=Tryz.sizeOf4
  v4:=Tryz.zeroValue4
  t9:=Tryz.underlying9
  a9:=Tryz.isAgg9
  z9:=Tryz.sizeOf9
  v9:=Tryz.zeroValue9 }
open Go.RowKit Go.Lib in
theorem Tryz.strings_TrimPrefix (s p:ByteArray) (w:World):
    Calls Tryz.prog 140 #[.string s, .string p] w fun e w'=>e= .returned (.string ⟨(Lib.trimPrefix s.data.toList p.data.toList).toArray⟩)∧w'=w:=Any.strings_TrimPrefix Tryz.lays101 s p w
def Tryz.lays197_ren:Go.Shelf.Ren:=⟨fun | 197=>111 | 260=>155 | n=>n,fun | 9=>9 | 21=>21 | 3=>3 | 4=>4 | 5=>5 | 105=>159 | 119=>197 | 0=>0 | 46=>201 | 139=>200 | 138=>199 | n=>n,fun | 3=>1 | 4=>2 | n=>n⟩
theorem Tryz.lays197:Go.Proofs.Lays.n197 Tryz.prog Tryz.lays197_ren:= {
  mixed:=by kernel_rfl
  f197:=Tryz.func111.trans (congrArg some (by kernel_rfl))
  f260:=Tryz.func155.trans (congrArg some (by kernel_rfl))
  t0:=Tryz.underlying0
  a0:=Tryz.isAgg0
  z0:=Tryz.sizeOf0
  v0:=Tryz.zeroValue0
  t3:=Tryz.underlying3
  a3:=Tryz.isAgg3
  z3:=Tryz.sizeOf3
  v3:=Tryz.zeroValue3
  t4:=Tryz.underlying4
  a4:=Tryz.isAgg4
  z4:=Tryz.sizeOf4
  v4:=Tryz.zeroValue4
  t5:=Tryz.underlying5
  a5:=Tryz.isAgg5
  z5:=Tryz.sizeOf5
  v5:=Tryz.zeroValue5
  t9:=Tryz.underlying9
  a9:=Tryz.isAgg9
  z9:=Tryz.sizeOf9
  v9:=Tryz.zeroValue9
  t21:=Tryz.underlying21
  a21:=Tryz.isAgg21
  z21:=Tryz.sizeOf21
  v21:=Tryz.zeroValue21
  t46:=Tryz.underlying201
  a46:=Tryz.isAgg201
  z46:=Tryz.sizeOf201
  v46:=Tryz.zeroValue201
  t105:=Tryz.underlying159
  a105:=Tryz.isAgg159
  z105:=Tryz.sizeOf159
  v105:=Tryz.zeroValue159
  t119:=Tryz.underlying197
  a119:=Tryz.isAgg197
  z119:=Tryz.sizeOf197
  t138:=Tryz.underlying199
  a138:=Tryz.isAgg199
  z138:=Tryz.sizeOf199
  v138:=Tryz.zeroValue199
  t139:=Tryz.underlying200
  a139:=Tryz.isAgg200
  z139:=Tryz.sizeOf200
  v139:=Tryz.zeroValue200
  g3:=by kernel_rfl
  g4:=by kernel_rfl }
open Go.RowKit Go.Lib in
theorem Tryz.utf8_DecodeRuneInString (s:ByteArray) (w:World) (hT:Lib.Utf8Tabs 1 2 w):
    Calls Tryz.prog 111 #[.string s] w fun e w'=>e= .returned (.tuple #[.int .i32 (Lib.decodeGo s).1, .int .i64 (Lib.decodeGo s).2])∧Below w.heap.size w w':=Any.utf8_DecodeRuneInString Tryz.lays197 s w hT
def Tryz.laysValid_ren:Go.Shelf.Ren:=⟨fun | 196=>110 | 259=>154 | n=>n,fun | 9=>9 | 4=>4 | 3=>3 | 5=>5 | 12=>12 | 119=>197 | 0=>0 | 46=>201 | 139=>200 | 138=>199 | 53=>216 | n=>n,fun | 3=>1 | 4=>2 | n=>n⟩
theorem Tryz.laysValid:Go.Proofs.Lays.n196 Tryz.prog Tryz.laysValid_ren:= {
  mixed:=by kernel_rfl
  f196:=Tryz.func110.trans (congrArg some (by kernel_rfl))
  f259:=Tryz.func154.trans (congrArg some (by kernel_rfl))
  t0:=Tryz.underlying0
  a0:=Tryz.isAgg0
  z0:=Tryz.sizeOf0
  v0:=Tryz.zeroValue0
  t3:=Tryz.underlying3
  a3:=Tryz.isAgg3
  z3:=Tryz.sizeOf3
  v3:=Tryz.zeroValue3
  t4:=Tryz.underlying4
  a4:=Tryz.isAgg4
  z4:=Tryz.sizeOf4
  v4:=Tryz.zeroValue4
  t5:=Tryz.underlying5
  a5:=Tryz.isAgg5
  z5:=Tryz.sizeOf5
  v5:=Tryz.zeroValue5
  t9:=Tryz.underlying9
  a9:=Tryz.isAgg9
  z9:=Tryz.sizeOf9
  v9:=Tryz.zeroValue9
  t12:=Tryz.underlying12
  a12:=Tryz.isAgg12
  z12:=Tryz.sizeOf12
  v12:=Tryz.zeroValue12
  t46:=Tryz.underlying201
  a46:=Tryz.isAgg201
  z46:=Tryz.sizeOf201
  v46:=Tryz.zeroValue201
  t53:=Tryz.underlying216
  a53:=Tryz.isAgg216
  z53:=Tryz.sizeOf216
  v53:=Tryz.zeroValue216
  t119:=Tryz.underlying197
  a119:=Tryz.isAgg197
  z119:=Tryz.sizeOf197
  t138:=Tryz.underlying199
  a138:=Tryz.isAgg199
  z138:=Tryz.sizeOf199
  v138:=Tryz.zeroValue199
  t139:=Tryz.underlying200
  a139:=Tryz.isAgg200
  z139:=Tryz.sizeOf200
  v139:=Tryz.zeroValue200
  g3:=by kernel_rfl
  g4:=by kernel_rfl }
open Go.RowKit in
theorem Tryz.utf8_ValidString (s:ByteArray) (w:World) (hs:s.size≤9223372036854775807) (hT:Lib.Utf8Tabs 1 2 w):
    Calls Tryz.prog 110 #[.string s] w fun e w'=>e= .returned (.bool (Lib.validD s.data.toList))∧Below w.heap.size w w':=Any.utf8_ValidString Tryz.laysValid s w hs hT
end Go.Proofs
