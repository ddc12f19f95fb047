import Derived.Shelf.Unicode.ValidAny
import Derived.Shelf.Strings.Builder1
import Derived.Shelf.Strings.Builder2
import Derived.Shelf.Strings.OnBuilder
import Derived.Shelf.Strings.Trim
import Derived.Shelf.Small.Utf8
import Derived.Shelf.Small.Strs
import Derived.Shelf.Small.Wraps
import Derived.Shelf.Strings.BuilderF
import Derived.Shelf.Strings.BuilderK
import Derived.Shelf.Strings.BuilderRune
import Derived.Shelf.Utf8.RuneCount
import Derived.Shelf.Strings.Builder2Cap
import Derived.Shelf.Strconv.Itoa0
import Derived.Shelf.Strconv.Itoa1
import Derived.Shelf.LaysM
import Derived.Shelf.Strconv.Itoa2
import Derived.Shelf.Strconv.Itoa3
import Derived.Shelf.Strconv.ParseIntEmpty
import Derived.Shelf.Strconv.Clone
import Derived.Shelf.Strconv.SyntaxError
import Derived.Shelf.LaysC
import Derived.Shelf.Strconv.ToError
import Derived.Shelf.Strconv.Lower
import Derived.Shelf.Strconv.ParseUint10
import Derived.Shelf.Strconv.ParseUint10Empty
import Derived.Shelf.Strconv.ParseUint10Any
import Derived.Shelf.Strconv.ParseInt10
import Derived.Shelf.Strconv.RangeError
import Derived.Shelf.Strconv.ToErrorRange
import Derived.Shelf.Strconv.ParseUintEmpty
import Derived.Shelf.Strconv.ParseUint10b64
import Derived.Shelf.Strconv.ParseUint10b32
import Derived.Shelf.Strconv.ParseUint10b16
import Derived.Shelf.Strconv.ParseUint10b8
import Derived.Shelf.Strconv.ParseUint10At
import Derived.Shelf.Strconv.ParseInt10At64
import Derived.Shelf.Strconv.ParseInt10At32
import Derived.Shelf.Strconv.ParseInt10At16
import Derived.Shelf.Strconv.ParseInt10At8
import Derived.Shelf.Strconv.ParseInt10All
import Derived.Shelf.Strconv.ParseIntPublic10
import Derived.Shelf.Strconv.ErrVarParseInt
import Derived.Shelf.Strings.Search1
import Derived.Shelf.Strings.Search2
import Derived.Shelf.Strings.Search3
import Derived.Shelf.Strings.Count
import Derived.Shelf.Strings.Shaped
import Derived.Shelf.Strings.Prefix
import Derived.Shelf.Strings.Split
import Derived.Shelf.Strings.Replace
import Derived.Shelf.Strings.SplitShaped
import Derived.Shelf.Unicode.Decode
import Derived.Shelf.Strings.Runes
import Derived.Shelf.Strings.RuneCount
import Derived.Shelf.Strings.IndexAny
import Derived.Shelf.Strings.AsciiSet
import Derived.Shelf.Strings.IndexAnyAll
import Derived.Shelf.Bits.Mul64
import Derived.Shelf.Strings.Repeat
import Derived.Shelf.Unicode.DecodeSlow
import Derived.Shelf.Unicode.DecodeAny
import Derived.Shelf.Unicode.DecodeLast
import Derived.Shelf.Strings.BuilderCap
import Derived.Test.YtjnooaljcgkfpaaGreatDoorProg
namespace Go.Proofs
open Go.Shelf
def Tryz.lays169_ren:Go.Shelf.Ren:=⟨fun | 169=>29 | n=>n,fun | 70=>54 | 9=>9 | 0=>0 | 72=>57 | 37=>55 | 127=>84 | 3=>3 | 5=>5 | n=>n,fun | n=>n⟩
theorem Tryz.lays169:Go.Proofs.Lays.n169 Tryz.prog Tryz.lays169_ren:= {
  mixed:=by kernel_rfl
  f169:=Tryz.func29.trans (congrArg some (by kernel_rfl))
  t0:=Tryz.underlying0
  a0:=Tryz.isAgg0
  z0:=Tryz.sizeOf0
  v0:=Tryz.zeroValue0
  t3:=Tryz.underlying3
  a3:=Tryz.isAgg3
  z3:=Tryz.sizeOf3
  v3:=Tryz.zeroValue3
  t9:=Tryz.underlying9
  a9:=Tryz.isAgg9
  z9:=Tryz.sizeOf9
  v9:=Tryz.zeroValue9
  t37:=Tryz.underlying55
  a37:=Tryz.isAgg55
  z37:=Tryz.sizeOf55
  v37:=Tryz.zeroValue55
  t70:=Tryz.underlying54
  a70:=Tryz.isAgg54
  z70:=Tryz.sizeOf54
  v70:=Tryz.zeroValue54
  t72:=Tryz.underlying57
  a72:=Tryz.isAgg57
  z72:=Tryz.sizeOf57
  v72:=Tryz.zeroValue57
  t127:=Tryz.underlying84
  a127:=Tryz.isAgg84
  z127:=Tryz.sizeOf84
  v127:=Tryz.zeroValue84 }
theorem Tryz.Builder_Extra_169:Builder.Extra Tryz.prog Tryz.lays169_ren:= {
  sizeBuilder:=by kernel_rfl
  liesBuilder:=by kernel_rfl
  t5:=Tryz.underlying5
  a5:=Tryz.isAgg5
  z5:=Tryz.sizeOf5
  v5:=Tryz.zeroValue5
  infoByte:=by kernel_rfl
  cellsByte:=by kernel_rfl
  sizeByte:=by kernel_rfl
  neB5:=by decide }
def Tryz.lays161_ren:Go.Shelf.Ren:=⟨fun | 161=>76 | 231=>87 | 227=>89 | 233=>90 | 235=>92 | 228=>126 | 197=>105 | 151=>127 | 260=>135 | 152=>156 | 137=>55 | 119=>188 | 224=>159 | 225=>158 | 217=>94 | 266=>129 | n=>n,fun | 9=>9 | 4=>4 | 3=>3 | 5=>5 | 117=>125 | 116=>124 | 0=>0 | 124=>128 | 105=>137 | 21=>21 | 119=>162 | 46=>157 | 139=>165 | 138=>164 | n=>n,fun | 3=>0 | 4=>1 | n=>n⟩
theorem Tryz.lays161:Go.Proofs.Lays.n161 Tryz.prog Tryz.lays161_ren:= {
  mixed:=by kernel_rfl
  f119:=Tryz.func188.trans (congrArg some (by kernel_rfl))
  f137:=Tryz.func55.trans (congrArg some (by kernel_rfl))
  f151:=Tryz.func127.trans (congrArg some (by kernel_rfl))
  f152:=Tryz.func156.trans (congrArg some (by kernel_rfl))
  f161:=Tryz.func76.trans (congrArg some (by kernel_rfl))
  f197:=Tryz.func105.trans (congrArg some (by kernel_rfl))
  f217:=Tryz.func94.trans (congrArg some (by kernel_rfl))
  f224:=Tryz.func159.trans (congrArg some (by kernel_rfl))
  f225:=Tryz.func158.trans (congrArg some (by kernel_rfl))
  f227:=Tryz.func89.trans (congrArg some (by kernel_rfl))
  f228:=Tryz.func126.trans (congrArg some (by kernel_rfl))
  f231:=Tryz.func87.trans (congrArg some (by kernel_rfl))
  f233:=Tryz.func90.trans (congrArg some (by kernel_rfl))
  f235:=Tryz.func92.trans (congrArg some (by kernel_rfl))
  f260:=Tryz.func135.trans (congrArg some (by kernel_rfl))
  f266:=Tryz.func129.trans (congrArg some (by kernel_rfl))
  t0:=Tryz.underlying0
  a0:=Tryz.isAgg0
  z0:=Tryz.sizeOf0
  v0:=Tryz.zeroValue0
  t3:=Tryz.underlying3
  a3:=Tryz.isAgg3
  z3:=Tryz.sizeOf3
  v3:=Tryz.zeroValue3
  t4:=Tryz.underlying4
  a4:=Tryz.isAgg4
  z4:=Tryz.sizeOf4
  v4:=Tryz.zeroValue4
  t5:=Tryz.underlying5
  a5:=Tryz.isAgg5
  z5:=Tryz.sizeOf5
  v5:=Tryz.zeroValue5
  t9:=Tryz.underlying9
  a9:=Tryz.isAgg9
  z9:=Tryz.sizeOf9
  v9:=Tryz.zeroValue9
  t21:=Tryz.underlying21
  a21:=Tryz.isAgg21
  z21:=Tryz.sizeOf21
  v21:=Tryz.zeroValue21
  t46:=Tryz.underlying157
  a46:=Tryz.isAgg157
  z46:=Tryz.sizeOf157
  v46:=Tryz.zeroValue157
  t105:=Tryz.underlying137
  a105:=Tryz.isAgg137
  z105:=Tryz.sizeOf137
  v105:=Tryz.zeroValue137
  t116:=Tryz.underlying124
  a116:=Tryz.isAgg124
  z116:=Tryz.sizeOf124
  t117:=Tryz.underlying125
  a117:=Tryz.isAgg125
  z117:=Tryz.sizeOf125
  v117:=Tryz.zeroValue125
  t119:=Tryz.underlying162
  a119:=Tryz.isAgg162
  z119:=Tryz.sizeOf162
  t124:=Tryz.underlying128
  a124:=Tryz.isAgg128
  z124:=Tryz.sizeOf128
  v124:=Tryz.zeroValue128
  t138:=Tryz.underlying164
  a138:=Tryz.isAgg164
  z138:=Tryz.sizeOf164
  v138:=Tryz.zeroValue164
  t139:=Tryz.underlying165
  a139:=Tryz.isAgg165
  z139:=Tryz.sizeOf165
  v139:=Tryz.zeroValue165
  g3:=by kernel_rfl
  g4:=by kernel_rfl }
open Go.RowKit in
theorem Tryz.strings_TrimLeft_one (s:ByteArray) (c:UInt8) (hc:c.toNat<128) (w:World):
    Calls Tryz.prog 76 #[.string s, .string ⟨#[c]⟩] w fun e w'=>e= .returned (.string ⟨(Lib.trimLeftB s.data.toList c).toArray⟩)∧w'=w:=Any.strings_TrimLeft_one Tryz.lays161 s c hc w
def Tryz.lays162_ren:Go.Shelf.Ren:=⟨fun | 162=>77 | 232=>88 | 227=>89 | 234=>91 | 236=>93 | 228=>126 | 271=>128 | 151=>127 | 120=>157 | 197=>105 | 152=>156 | 260=>135 | 137=>55 | 119=>188 | 224=>159 | 225=>158 | 217=>94 | 266=>129 | n=>n,fun | 9=>9 | 4=>4 | 3=>3 | 5=>5 | 117=>125 | 116=>124 | 0=>0 | 124=>128 | 21=>21 | 105=>137 | 46=>157 | 119=>162 | 139=>165 | 138=>164 | n=>n,fun | 3=>0 | 4=>1 | n=>n⟩
theorem Tryz.lays162:Go.Proofs.Lays.n162 Tryz.prog Tryz.lays162_ren:= {
  mixed:=by kernel_rfl
  f119:=Tryz.func188.trans (congrArg some (by kernel_rfl))
  f120:=Tryz.func157.trans (congrArg some (by kernel_rfl))
  f137:=Tryz.func55.trans (congrArg some (by kernel_rfl))
  f151:=Tryz.func127.trans (congrArg some (by kernel_rfl))
  f152:=Tryz.func156.trans (congrArg some (by kernel_rfl))
  f162:=Tryz.func77.trans (congrArg some (by kernel_rfl))
  f197:=Tryz.func105.trans (congrArg some (by kernel_rfl))
  f217:=Tryz.func94.trans (congrArg some (by kernel_rfl))
  f224:=Tryz.func159.trans (congrArg some (by kernel_rfl))
  f225:=Tryz.func158.trans (congrArg some (by kernel_rfl))
  f227:=Tryz.func89.trans (congrArg some (by kernel_rfl))
  f228:=Tryz.func126.trans (congrArg some (by kernel_rfl))
  f232:=Tryz.func88.trans (congrArg some (by kernel_rfl))
  f234:=Tryz.func91.trans (congrArg some (by kernel_rfl))
  f236:=Tryz.func93.trans (congrArg some (by kernel_rfl))
  f260:=Tryz.func135.trans (congrArg some (by kernel_rfl))
  f266:=Tryz.func129.trans (congrArg some (by kernel_rfl))
  f271:=Tryz.func128.trans (congrArg some (by kernel_rfl))
  t0:=Tryz.underlying0
  a0:=Tryz.isAgg0
  z0:=Tryz.sizeOf0
  v0:=Tryz.zeroValue0
  t3:=Tryz.underlying3
  a3:=Tryz.isAgg3
  z3:=Tryz.sizeOf3
  v3:=Tryz.zeroValue3
  t4:=Tryz.underlying4
  a4:=Tryz.isAgg4
  z4:=Tryz.sizeOf4
  v4:=Tryz.zeroValue4
  t5:=Tryz.underlying5
  a5:=Tryz.isAgg5
  z5:=Tryz.sizeOf5
  v5:=Tryz.zeroValue5
  t9:=Tryz.underlying9
  a9:=Tryz.isAgg9
  z9:=Tryz.sizeOf9
  v9:=Tryz.zeroValue9
  t21:=Tryz.underlying21
  a21:=Tryz.isAgg21
  z21:=Tryz.sizeOf21
  v21:=Tryz.zeroValue21
  t46:=Tryz.underlying157
  a46:=Tryz.isAgg157
  z46:=Tryz.sizeOf157
  v46:=Tryz.zeroValue157
  t105:=Tryz.underlying137
  a105:=Tryz.isAgg137
  z105:=Tryz.sizeOf137
  v105:=Tryz.zeroValue137
  t116:=Tryz.underlying124
  a116:=Tryz.isAgg124
  z116:=Tryz.sizeOf124
  t117:=Tryz.underlying125
  a117:=Tryz.isAgg125
  z117:=Tryz.sizeOf125
  v117:=Tryz.zeroValue125
  t119:=Tryz.underlying162
  a119:=Tryz.isAgg162
  z119:=Tryz.sizeOf162
  t124:=Tryz.underlying128
  a124:=Tryz.isAgg128
  z124:=Tryz.sizeOf128
  v124:=Tryz.zeroValue128
  t138:=Tryz.underlying164
  a138:=Tryz.isAgg164
  z138:=Tryz.sizeOf164
  v138:=Tryz.zeroValue164
  t139:=Tryz.underlying165
  a139:=Tryz.isAgg165
  z139:=Tryz.sizeOf165
  v139:=Tryz.zeroValue165
  g3:=by kernel_rfl
  g4:=by kernel_rfl }
open Go.RowKit in
theorem Tryz.strings_TrimRight_one (s:ByteArray) (c:UInt8) (hc:c.toNat<128) (w:World) (hs:s.size≤9223372036854775807):
    Calls Tryz.prog 77 #[.string s, .string ⟨#[c]⟩] w fun e w'=>e= .returned (.string ⟨(Lib.trimRightB s.data.toList c).toArray⟩)∧w'=w:=Any.strings_TrimRight_one Tryz.lays162 s c hc w hs
def Tryz.lays160_ren:Go.Shelf.Ren:=⟨fun | 160=>54 | 232=>88 | 231=>87 | 227=>89 | 234=>91 | 233=>90 | 236=>93 | 235=>92 | 228=>126 | 271=>128 | 151=>127 | 197=>105 | 120=>157 | 152=>156 | 260=>135 | 137=>55 | 119=>188 | 224=>159 | 225=>158 | 217=>94 | 266=>129 | n=>n,fun | 9=>9 | 4=>4 | 3=>3 | 5=>5 | 117=>125 | 116=>124 | 0=>0 | 124=>128 | 21=>21 | 105=>137 | 46=>157 | 119=>162 | 139=>165 | 138=>164 | n=>n,fun | 3=>0 | 4=>1 | n=>n⟩
theorem Tryz.lays160:Go.Proofs.Lays.n160 Tryz.prog Tryz.lays160_ren:= {
  mixed:=by kernel_rfl
  f119:=Tryz.func188.trans (congrArg some (by kernel_rfl))
  f120:=Tryz.func157.trans (congrArg some (by kernel_rfl))
  f137:=Tryz.func55.trans (congrArg some (by kernel_rfl))
  f151:=Tryz.func127.trans (congrArg some (by kernel_rfl))
  f152:=Tryz.func156.trans (congrArg some (by kernel_rfl))
  f160:=Tryz.func54.trans (congrArg some (by kernel_rfl))
  f197:=Tryz.func105.trans (congrArg some (by kernel_rfl))
  f217:=Tryz.func94.trans (congrArg some (by kernel_rfl))
  f224:=Tryz.func159.trans (congrArg some (by kernel_rfl))
  f225:=Tryz.func158.trans (congrArg some (by kernel_rfl))
  f227:=Tryz.func89.trans (congrArg some (by kernel_rfl))
  f228:=Tryz.func126.trans (congrArg some (by kernel_rfl))
  f231:=Tryz.func87.trans (congrArg some (by kernel_rfl))
  f232:=Tryz.func88.trans (congrArg some (by kernel_rfl))
  f233:=Tryz.func90.trans (congrArg some (by kernel_rfl))
  f234:=Tryz.func91.trans (congrArg some (by kernel_rfl))
  f235:=Tryz.func92.trans (congrArg some (by kernel_rfl))
  f236:=Tryz.func93.trans (congrArg some (by kernel_rfl))
  f260:=Tryz.func135.trans (congrArg some (by kernel_rfl))
  f266:=Tryz.func129.trans (congrArg some (by kernel_rfl))
  f271:=Tryz.func128.trans (congrArg some (by kernel_rfl))
  t0:=Tryz.underlying0
  a0:=Tryz.isAgg0
  z0:=Tryz.sizeOf0
  v0:=Tryz.zeroValue0
  t3:=Tryz.underlying3
  a3:=Tryz.isAgg3
  z3:=Tryz.sizeOf3
  v3:=Tryz.zeroValue3
  t4:=Tryz.underlying4
  a4:=Tryz.isAgg4
  z4:=Tryz.sizeOf4
  v4:=Tryz.zeroValue4
  t5:=Tryz.underlying5
  a5:=Tryz.isAgg5
  z5:=Tryz.sizeOf5
  v5:=Tryz.zeroValue5
  t9:=Tryz.underlying9
  a9:=Tryz.isAgg9
  z9:=Tryz.sizeOf9
  v9:=Tryz.zeroValue9
  t21:=Tryz.underlying21
  a21:=Tryz.isAgg21
  z21:=Tryz.sizeOf21
  v21:=Tryz.zeroValue21
  t46:=Tryz.underlying157
  a46:=Tryz.isAgg157
  z46:=Tryz.sizeOf157
  v46:=Tryz.zeroValue157
  t105:=Tryz.underlying137
  a105:=Tryz.isAgg137
  z105:=Tryz.sizeOf137
  v105:=Tryz.zeroValue137
  t116:=Tryz.underlying124
  a116:=Tryz.isAgg124
  z116:=Tryz.sizeOf124
  t117:=Tryz.underlying125
  a117:=Tryz.isAgg125
  z117:=Tryz.sizeOf125
  v117:=Tryz.zeroValue125
  t119:=Tryz.underlying162
  a119:=Tryz.isAgg162
  z119:=Tryz.sizeOf162
  t124:=Tryz.underlying128
  a124:=Tryz.isAgg128
  z124:=Tryz.sizeOf128
  v124:=Tryz.zeroValue128
  t138:=Tryz.underlying164
  a138:=Tryz.isAgg164
  z138:=Tryz.sizeOf164
  v138:=Tryz.zeroValue164
  t139:=Tryz.underlying165
  a139:=Tryz.isAgg165
  z139:=Tryz.sizeOf165
  v139:=Tryz.zeroValue165
  g3:=by kernel_rfl
  g4:=by kernel_rfl }
open Go.RowKit in
theorem Tryz.strings_Trim_one (s:ByteArray) (c:UInt8) (hc:c.toNat<128) (w:World) (hs:s.size≤9223372036854775807):
    Calls Tryz.prog 54 #[.string s, .string ⟨#[c]⟩] w fun e w'=>e= .returned (.string ⟨(Lib.trimB s.data.toList c).toArray⟩)∧(w'=w∨w'=w.drew):=Any.strings_Trim_one Tryz.lays160 s c hc w hs
def Tryz.lays137_ren:Go.Shelf.Ren:=⟨fun | 137=>55 | 217=>94 | 266=>129 | n=>n,fun | 9=>9 | 5=>5 | 3=>3 | n=>n,fun | n=>n⟩
theorem Tryz.lays137:Go.Proofs.Lays.n137 Tryz.prog Tryz.lays137_ren:= {
  mixed:=by kernel_rfl
  f137:=Tryz.func55.trans (congrArg some (by kernel_rfl))
  f217:=Tryz.func94.trans (congrArg some (by kernel_rfl))
  f266:=Tryz.func129.trans (congrArg some (by kernel_rfl))
  t3:=Tryz.underlying3
  a3:=Tryz.isAgg3
  z3:=Tryz.sizeOf3
  v3:=Tryz.zeroValue3
  t5:=Tryz.underlying5
  a5:=Tryz.isAgg5
  z5:=Tryz.sizeOf5
  v5:=Tryz.zeroValue5
  t9:=Tryz.underlying9
  a9:=Tryz.isAgg9
  z9:=Tryz.sizeOf9
  v9:=Tryz.zeroValue9 }
open Go.RowKit in
theorem Tryz.strings_IndexByte (s:ByteArray) (c:Int) (w:World):
    Calls Tryz.prog 55 #[.string s, .int .u8 c] w fun e w'=>e= .returned (.int .i64 (Lib.indexByte s.data.toList c.toNat.toUInt8))∧w'=w:=Any.strings_IndexByte Tryz.lays137 s c w
def Tryz.lays103_ren:Go.Shelf.Ren:=⟨fun | 103=>119 | 210=>150 | 206=>95 | n=>n,fun | 9=>9 | 4=>4 | 24=>107 | 3=>3 | n=>n,fun | n=>n⟩
theorem Tryz.lays103:Go.Proofs.Lays.n103 Tryz.prog Tryz.lays103_ren:= {
  mixed:=by kernel_rfl
  f103:=Tryz.func119.trans (congrArg some (by kernel_rfl))
  f206:=Tryz.func95.trans (congrArg some (by kernel_rfl))
  f210:=Tryz.func150.trans (congrArg some (by kernel_rfl))
  t3:=Tryz.underlying3
  a3:=Tryz.isAgg3
  z3:=Tryz.sizeOf3
  v3:=Tryz.zeroValue3
  t4:=Tryz.underlying4
  a4:=Tryz.isAgg4
  z4:=Tryz.sizeOf4
  v4:=Tryz.zeroValue4
  t9:=Tryz.underlying9
  a9:=Tryz.isAgg9
  z9:=Tryz.sizeOf9
  v9:=Tryz.zeroValue9
  t24:=Tryz.underlying107
  a24:=Tryz.isAgg107
  z24:=Tryz.sizeOf107
  v24:=Tryz.zeroValue107 }
open Go.RowKit in
theorem Tryz.strings_CutPrefix (s p:ByteArray) (w:World):
    Calls Tryz.prog 119 #[.string s, .string p] w fun e w'=>e= .returned (.tuple #[.string ⟨(Lib.trimPrefix s.data.toList p.data.toList).toArray⟩, .bool (Lib.hasPrefix s.data.toList p.data.toList)])∧w'=w:=Any.strings_CutPrefix Tryz.lays103 s p w
open Go.RowKit in
theorem Tryz.Builder_String_any_k (B b:Nat) (l:List UInt8) (w:World) (h:Lib.IsBuilderF 57 5 B b (Lib.byteCells l) w) (hBw:B≤w.heap.size):
    Calls Tryz.prog 29 #[.pointer (some ⟨b,0,none⟩)] w fun e w'=>e= .returned (.string ⟨l.toArray⟩)∧(Lib.IsBuilderF 57 5 B b (Lib.byteCells l) w'∧Below B w w'∧Lib.OthersKept 5 (some b) w w'):=Any.Builder_String_any_k Tryz.lays169 Tryz.Builder_Extra_169 B b l w h hBw
def Tryz.laysM171_ren:Go.Shelf.Ren:=⟨fun | 171=>47 | 243=>74 | 246=>118 | 283=>146 | 284=>147 | 285=>148 | 286=>149 | 129=>183 | 317=>182 | 318=>184 | 319=>185 | 320=>186 | 337=>209 | 338=>210 | n=>n,fun | 3=>3 | 9=>9 | 2=>2 | 4=>4 | 171=>178 | 0=>0 | 53=>179 | 37=>55 | 5=>5 | 173=>182 | 212=>220 | 51=>188 | 20=>20 | 213=>221 | 46=>157 | 232=>250 | 233=>251 | n=>n,fun | 17=>3 | 18=>6 | 19=>7 | n=>n⟩
theorem Tryz.laysM171:Go.Proofs.LaysM.n171 Tryz.prog Tryz.laysM171_ren:= {
  mixed:=by kernel_rfl
  f129:=Tryz.func183.trans (congrArg some (by kernel_rfl))
  f171:=Tryz.func47.trans (congrArg some (by kernel_rfl))
  f243:=Tryz.func74.trans (congrArg some (by kernel_rfl))
  f246:=Tryz.func118.trans (congrArg some (by kernel_rfl))
  f283:=Tryz.func146.trans (congrArg some (by kernel_rfl))
  f284:=Tryz.func147.trans (congrArg some (by kernel_rfl))
  f285:=Tryz.func148.trans (congrArg some (by kernel_rfl))
  f286:=Tryz.func149.trans (congrArg some (by kernel_rfl))
  f317:=Tryz.func182.trans (congrArg some (by kernel_rfl))
  f318:=Tryz.func184.trans (congrArg some (by kernel_rfl))
  f319:=Tryz.func185.trans (congrArg some (by kernel_rfl))
  f320:=Tryz.func186.trans (congrArg some (by kernel_rfl))
  f337:=Tryz.func209.trans (congrArg some (by kernel_rfl))
  f338:=Tryz.func210.trans (congrArg some (by kernel_rfl))
  t0:=Tryz.underlying0
  a0:=Tryz.isAgg0
  z0:=Tryz.sizeOf0
  v0:=Tryz.zeroValue0
  t2:=Tryz.underlying2
  a2:=Tryz.isAgg2
  z2:=Tryz.sizeOf2
  v2:=Tryz.zeroValue2
  t3:=Tryz.underlying3
  a3:=Tryz.isAgg3
  z3:=Tryz.sizeOf3
  v3:=Tryz.zeroValue3
  t4:=Tryz.underlying4
  a4:=Tryz.isAgg4
  z4:=Tryz.sizeOf4
  v4:=Tryz.zeroValue4
  t5:=Tryz.underlying5
  a5:=Tryz.isAgg5
  z5:=Tryz.sizeOf5
  v5:=Tryz.zeroValue5
  t9:=Tryz.underlying9
  a9:=Tryz.isAgg9
  z9:=Tryz.sizeOf9
  v9:=Tryz.zeroValue9
  t20:=Tryz.underlying20
  a20:=Tryz.isAgg20
  z20:=Tryz.sizeOf20
  v20:=Tryz.zeroValue20
  t37:=Tryz.underlying55
  a37:=Tryz.isAgg55
  z37:=Tryz.sizeOf55
  v37:=Tryz.zeroValue55
  t46:=Tryz.underlying157
  a46:=Tryz.isAgg157
  z46:=Tryz.sizeOf157
  v46:=Tryz.zeroValue157
  t51:=Tryz.underlying188
  a51:=Tryz.isAgg188
  z51:=Tryz.sizeOf188
  v51:=Tryz.zeroValue188
  t53:=Tryz.underlying179
  a53:=Tryz.isAgg179
  z53:=Tryz.sizeOf179
  v53:=Tryz.zeroValue179
  t171:=Tryz.underlying178
  a171:=Tryz.isAgg178
  z171:=Tryz.sizeOf178
  v171:=Tryz.zeroValue178
  t173:=Tryz.underlying182
  a173:=Tryz.isAgg182
  z173:=Tryz.sizeOf182
  v173:=Tryz.zeroValue182
  t212:=Tryz.underlying220
  a212:=Tryz.isAgg220
  z212:=Tryz.sizeOf220
  v212:=Tryz.zeroValue220
  t213:=Tryz.underlying221
  a213:=Tryz.isAgg221
  z213:=Tryz.sizeOf221
  t232:=Tryz.underlying250
  a232:=Tryz.isAgg250
  z232:=Tryz.sizeOf250
  v232:=Tryz.zeroValue250
  t233:=Tryz.underlying251
  a233:=Tryz.isAgg251
  z233:=Tryz.sizeOf251
  v233:=Tryz.zeroValue251
  g17:=by kernel_rfl
  g18:=by kernel_rfl
  g19:=by kernel_rfl
  i0:=by kernel_rfl
  i2:=by kernel_rfl
  i3:=by kernel_rfl
  i4:=by kernel_rfl
  i5:=by kernel_rfl
  i9:=by kernel_rfl
  i20:=by kernel_rfl
  i37:=by kernel_rfl
  i46:=by kernel_rfl
  i51:=by kernel_rfl
  i53:=by kernel_rfl
  i171:=by kernel_rfl
  i173:=by kernel_rfl
  i212:=by kernel_rfl
  i232:=by kernel_rfl
  i233:=by kernel_rfl
  m17:=by kernel_rfl
  m18:=by kernel_rfl
  m19:=by kernel_rfl }
open Go.RowKit Go.Sort Go.Lib in
theorem Tryz.strconv_Itoa (n:Int) (h0: -9223372036854775808≤n) (h1:n≤9223372036854775807) (w:World) (htab:Lib.TabIs Tryz.prog w "internal/strconv.uint64pow10" .u64 Lib.pow10Tab):
    Calls Tryz.prog 47 #[.int .i64 n] w fun e w'=>e= .returned (.string ⟨(Lib.itoa n).toArray⟩)∧ ∃k os,w'=grow (w.drewN k) os:=Any.strconv_Itoa Tryz.laysM171 n h0 h1 w htab
def Tryz.lays143_ren:Go.Shelf.Ren:=⟨fun | 143=>97 | 219=>130 | 217=>94 | 225=>158 | 224=>159 | 267=>160 | 266=>129 | 314=>189 | n=>n,fun | 9=>9 | 3=>3 | 4=>4 | 5=>5 | 46=>157 | 146=>189 | 51=>188 | n=>n,fun | 1=>2 | n=>n⟩
theorem Tryz.lays143:Go.Proofs.Lays.n143 Tryz.prog Tryz.lays143_ren:= {
  mixed:=by kernel_rfl
  f143:=Tryz.func97.trans (congrArg some (by kernel_rfl))
  f217:=Tryz.func94.trans (congrArg some (by kernel_rfl))
  f219:=Tryz.func130.trans (congrArg some (by kernel_rfl))
  f224:=Tryz.func159.trans (congrArg some (by kernel_rfl))
  f225:=Tryz.func158.trans (congrArg some (by kernel_rfl))
  f266:=Tryz.func129.trans (congrArg some (by kernel_rfl))
  f267:=Tryz.func160.trans (congrArg some (by kernel_rfl))
  f314:=Tryz.func189.trans (congrArg some (by kernel_rfl))
  t3:=Tryz.underlying3
  a3:=Tryz.isAgg3
  z3:=Tryz.sizeOf3
  v3:=Tryz.zeroValue3
  t4:=Tryz.underlying4
  a4:=Tryz.isAgg4
  z4:=Tryz.sizeOf4
  v4:=Tryz.zeroValue4
  t5:=Tryz.underlying5
  a5:=Tryz.isAgg5
  z5:=Tryz.sizeOf5
  v5:=Tryz.zeroValue5
  t9:=Tryz.underlying9
  a9:=Tryz.isAgg9
  z9:=Tryz.sizeOf9
  v9:=Tryz.zeroValue9
  t46:=Tryz.underlying157
  a46:=Tryz.isAgg157
  z46:=Tryz.sizeOf157
  v46:=Tryz.zeroValue157
  t51:=Tryz.underlying188
  a51:=Tryz.isAgg188
  z51:=Tryz.sizeOf188
  v51:=Tryz.zeroValue188
  t146:=Tryz.underlying189
  a146:=Tryz.isAgg189
  z146:=Tryz.sizeOf189
  v146:=Tryz.zeroValue189
  g1:=by kernel_rfl }
open Go.RowKit Go.Lib in
theorem Tryz.strings_Index (s sub:ByteArray) (m:Int) (w:World) (hs:s.size<4294967281) (hm:w.cell? ⟨2,0,none⟩=some (.int .i64 m)):
    Calls Tryz.prog 97 #[.string s, .string sub] w fun e w'=>e= .returned (.int .i64 (Lib.index s.data.toList sub.data.toList))∧w'=w:=Any.strings_Index Tryz.lays143 s sub m w hs hm
def Tryz.lays144_ren:Go.Shelf.Ren:=⟨fun | 144=>58 | 143=>97 | 219=>130 | 217=>94 | 225=>158 | 224=>159 | 267=>160 | 266=>129 | 314=>189 | n=>n,fun | 9=>9 | 4=>4 | 3=>3 | 5=>5 | 46=>157 | 146=>189 | 51=>188 | n=>n,fun | 1=>2 | n=>n⟩
theorem Tryz.lays144:Go.Proofs.Lays.n144 Tryz.prog Tryz.lays144_ren:= {
  mixed:=by kernel_rfl
  f143:=Tryz.func97.trans (congrArg some (by kernel_rfl))
  f144:=Tryz.func58.trans (congrArg some (by kernel_rfl))
  f217:=Tryz.func94.trans (congrArg some (by kernel_rfl))
  f219:=Tryz.func130.trans (congrArg some (by kernel_rfl))
  f224:=Tryz.func159.trans (congrArg some (by kernel_rfl))
  f225:=Tryz.func158.trans (congrArg some (by kernel_rfl))
  f266:=Tryz.func129.trans (congrArg some (by kernel_rfl))
  f267:=Tryz.func160.trans (congrArg some (by kernel_rfl))
  f314:=Tryz.func189.trans (congrArg some (by kernel_rfl))
  t3:=Tryz.underlying3
  a3:=Tryz.isAgg3
  z3:=Tryz.sizeOf3
  v3:=Tryz.zeroValue3
  t4:=Tryz.underlying4
  a4:=Tryz.isAgg4
  z4:=Tryz.sizeOf4
  v4:=Tryz.zeroValue4
  t5:=Tryz.underlying5
  a5:=Tryz.isAgg5
  z5:=Tryz.sizeOf5
  v5:=Tryz.zeroValue5
  t9:=Tryz.underlying9
  a9:=Tryz.isAgg9
  z9:=Tryz.sizeOf9
  v9:=Tryz.zeroValue9
  t46:=Tryz.underlying157
  a46:=Tryz.isAgg157
  z46:=Tryz.sizeOf157
  v46:=Tryz.zeroValue157
  t51:=Tryz.underlying188
  a51:=Tryz.isAgg188
  z51:=Tryz.sizeOf188
  v51:=Tryz.zeroValue188
  t146:=Tryz.underlying189
  a146:=Tryz.isAgg189
  z146:=Tryz.sizeOf189
  v146:=Tryz.zeroValue189
  g1:=by kernel_rfl }
open Go.RowKit Go.Lib in
theorem Tryz.strings_Contains_one (s:ByteArray) (c:UInt8) (w:World):
    Calls Tryz.prog 58 #[.string s, .string ⟨#[c]⟩] w fun e w'=>e= .returned (.bool (decide (0≤Lib.indexByte s.data.toList c)))∧w'=w:=Any.strings_Contains_one Tryz.lays144 s c w
open Go.RowKit Go.Lib in
theorem Tryz.strings_Contains (s sub:ByteArray) (m:Int) (w:World) (hs:s.size<4294967281) (hm:w.cell? ⟨2,0,none⟩=some (.int .i64 m)):
    Calls Tryz.prog 58 #[.string s, .string sub] w fun e w'=>e= .returned (.bool (Lib.contains s.data.toList sub.data.toList))∧w'=w:=Any.strings_Contains Tryz.lays144 s sub m w hs hm
def Tryz.lays99_ren:Go.Shelf.Ren:=⟨fun | 99=>56 | 206=>95 | n=>n,fun | 9=>9 | 4=>4 | 3=>3 | n=>n,fun | n=>n⟩
theorem Tryz.lays99:Go.Proofs.Lays.n99 Tryz.prog Tryz.lays99_ren:= {
  mixed:=by kernel_rfl
  f99:=Tryz.func56.trans (congrArg some (by kernel_rfl))
  f206:=Tryz.func95.trans (congrArg some (by kernel_rfl))
  t3:=Tryz.underlying3
  a3:=Tryz.isAgg3
  z3:=Tryz.sizeOf3
  v3:=Tryz.zeroValue3
  t4:=Tryz.underlying4
  a4:=Tryz.isAgg4
  z4:=Tryz.sizeOf4
  v4:=Tryz.zeroValue4
  t9:=Tryz.underlying9
  a9:=Tryz.isAgg9
  z9:=Tryz.sizeOf9
  v9:=Tryz.zeroValue9 }
open Go.RowKit Go.Lib in
theorem Tryz.strings_HasPrefix (s p:ByteArray) (w:World):
    Calls Tryz.prog 56 #[.string s, .string p] w fun e w'=>e= .returned (.bool (Lib.hasPrefix s.data.toList p.data.toList))∧w'=w:=Any.strings_HasPrefix Tryz.lays99 s p w
def Tryz.lays100_ren:Go.Shelf.Ren:=⟨fun | 100=>57 | 207=>96 | n=>n,fun | 9=>9 | 4=>4 | 3=>3 | n=>n,fun | n=>n⟩
theorem Tryz.lays100:Go.Proofs.Lays.n100 Tryz.prog Tryz.lays100_ren:= {
  mixed:=by kernel_rfl
  f100:=Tryz.func57.trans (congrArg some (by kernel_rfl))
  f207:=Tryz.func96.trans (congrArg some (by kernel_rfl))
  t3:=Tryz.underlying3
  a3:=Tryz.isAgg3
  z3:=Tryz.sizeOf3
  v3:=Tryz.zeroValue3
  t4:=Tryz.underlying4
  a4:=Tryz.isAgg4
  z4:=Tryz.sizeOf4
  v4:=Tryz.zeroValue4
  t9:=Tryz.underlying9
  a9:=Tryz.isAgg9
  z9:=Tryz.sizeOf9
  v9:=Tryz.zeroValue9 }
open Go.RowKit Go.Lib in
theorem Tryz.strings_HasSuffix (s p:ByteArray) (w:World) (hs:s.size≤9223372036854775807):
    Calls Tryz.prog 57 #[.string s, .string p] w fun e w'=>e= .returned (.bool (Lib.hasSuffix s.data.toList p.data.toList))∧w'=w:=Any.strings_HasSuffix Tryz.lays100 s p w hs
def Tryz.lays101_ren:Go.Shelf.Ren:=⟨fun | 101=>121 | 208=>151 | 206=>95 | n=>n,fun | 9=>9 | 4=>4 | 3=>3 | n=>n,fun | n=>n⟩
theorem Tryz.lays101:Go.Proofs.Lays.n101 Tryz.prog Tryz.lays101_ren:= {
  mixed:=by kernel_rfl
  f101:=Tryz.func121.trans (congrArg some (by kernel_rfl))
  f206:=Tryz.func95.trans (congrArg some (by kernel_rfl))
  f208:=Tryz.func151.trans (congrArg some (by kernel_rfl))
  t3:=Tryz.underlying3
  a3:=Tryz.isAgg3
  z3:=Tryz.sizeOf3
  v3:=Tryz.zeroValue3
  t4:=Tryz.underlying4
  a4:=Tryz.isAgg4
  z4:=Tryz.sizeOf4
  v4:=Tryz.zeroValue4
  t9:=Tryz.underlying9
  a9:=Tryz.isAgg9
  z9:=Tryz.sizeOf9
  v9:=Tryz.zeroValue9 }
open Go.RowKit Go.Lib in
theorem Tryz.strings_TrimPrefix (s p:ByteArray) (w:World):
    Calls Tryz.prog 121 #[.string s, .string p] w fun e w'=>e= .returned (.string ⟨(Lib.trimPrefix s.data.toList p.data.toList).toArray⟩)∧w'=w:=Any.strings_TrimPrefix Tryz.lays101 s p w
def Tryz.lays155_ren:Go.Shelf.Ren:=⟨fun | 155=>51 | 154=>81 | 138=>122 | 165=>123 | 143=>97 | 166=>82 | 197=>105 | 169=>29 | 195=>152 | 218=>153 | 240=>124 | 241=>154 | 219=>130 | 260=>135 | 276=>155 | 277=>187 | 217=>94 | 225=>158 | 224=>159 | 267=>160 | 266=>129 | 314=>189 | n=>n,fun | 9=>9 | 3=>3 | 4=>4 | 72=>57 | 0=>0 | 76=>118 | 105=>137 | 21=>21 | 5=>5 | 70=>54 | 20=>20 | 37=>55 | 75=>117 | 127=>84 | 164=>185 | 46=>157 | 119=>162 | 139=>165 | 138=>164 | 146=>189 | 51=>188 | 80=>61 | n=>n,fun | 1=>2 | 3=>0 | 4=>1 | n=>n⟩
theorem Tryz.lays155:Go.Proofs.Lays.n155 Tryz.prog Tryz.lays155_ren:= {
  mixed:=by kernel_rfl
  f138:=Tryz.func122.trans (congrArg some (by kernel_rfl))
  f143:=Tryz.func97.trans (congrArg some (by kernel_rfl))
  f154:=Tryz.func81.trans (congrArg some (by kernel_rfl))
  f155:=Tryz.func51.trans (congrArg some (by kernel_rfl))
  f165:=Tryz.func123.trans (congrArg some (by kernel_rfl))
  f166:=Tryz.func82.trans (congrArg some (by kernel_rfl))
  f169:=Tryz.func29.trans (congrArg some (by kernel_rfl))
  f195:=Tryz.func152.trans (congrArg some (by kernel_rfl))
  f197:=Tryz.func105.trans (congrArg some (by kernel_rfl))
  f217:=Tryz.func94.trans (congrArg some (by kernel_rfl))
  f218:=Tryz.func153.trans (congrArg some (by kernel_rfl))
  f219:=Tryz.func130.trans (congrArg some (by kernel_rfl))
  f224:=Tryz.func159.trans (congrArg some (by kernel_rfl))
  f225:=Tryz.func158.trans (congrArg some (by kernel_rfl))
  f240:=Tryz.func124.trans (congrArg some (by kernel_rfl))
  f241:=Tryz.func154.trans (congrArg some (by kernel_rfl))
  f260:=Tryz.func135.trans (congrArg some (by kernel_rfl))
  f266:=Tryz.func129.trans (congrArg some (by kernel_rfl))
  f267:=Tryz.func160.trans (congrArg some (by kernel_rfl))
  f276:=Tryz.func155.trans (congrArg some (by kernel_rfl))
  f277:=Tryz.func187.trans (congrArg some (by kernel_rfl))
  f314:=Tryz.func189.trans (congrArg some (by kernel_rfl))
  t0:=Tryz.underlying0
  a0:=Tryz.isAgg0
  z0:=Tryz.sizeOf0
  v0:=Tryz.zeroValue0
  t3:=Tryz.underlying3
  a3:=Tryz.isAgg3
  z3:=Tryz.sizeOf3
  v3:=Tryz.zeroValue3
  t4:=Tryz.underlying4
  a4:=Tryz.isAgg4
  z4:=Tryz.sizeOf4
  v4:=Tryz.zeroValue4
  t5:=Tryz.underlying5
  a5:=Tryz.isAgg5
  z5:=Tryz.sizeOf5
  v5:=Tryz.zeroValue5
  t9:=Tryz.underlying9
  a9:=Tryz.isAgg9
  z9:=Tryz.sizeOf9
  v9:=Tryz.zeroValue9
  t20:=Tryz.underlying20
  a20:=Tryz.isAgg20
  z20:=Tryz.sizeOf20
  v20:=Tryz.zeroValue20
  t21:=Tryz.underlying21
  a21:=Tryz.isAgg21
  z21:=Tryz.sizeOf21
  v21:=Tryz.zeroValue21
  t37:=Tryz.underlying55
  a37:=Tryz.isAgg55
  z37:=Tryz.sizeOf55
  v37:=Tryz.zeroValue55
  t46:=Tryz.underlying157
  a46:=Tryz.isAgg157
  z46:=Tryz.sizeOf157
  v46:=Tryz.zeroValue157
  t51:=Tryz.underlying188
  a51:=Tryz.isAgg188
  z51:=Tryz.sizeOf188
  v51:=Tryz.zeroValue188
  t70:=Tryz.underlying54
  a70:=Tryz.isAgg54
  z70:=Tryz.sizeOf54
  v70:=Tryz.zeroValue54
  t72:=Tryz.underlying57
  a72:=Tryz.isAgg57
  z72:=Tryz.sizeOf57
  v72:=Tryz.zeroValue57
  t75:=Tryz.underlying117
  a75:=Tryz.isAgg117
  z75:=Tryz.sizeOf117
  v75:=Tryz.zeroValue117
  t76:=Tryz.underlying118
  a76:=Tryz.isAgg118
  z76:=Tryz.sizeOf118
  v76:=Tryz.zeroValue118
  t105:=Tryz.underlying137
  a105:=Tryz.isAgg137
  z105:=Tryz.sizeOf137
  v105:=Tryz.zeroValue137
  t119:=Tryz.underlying162
  a119:=Tryz.isAgg162
  z119:=Tryz.sizeOf162
  t127:=Tryz.underlying84
  a127:=Tryz.isAgg84
  z127:=Tryz.sizeOf84
  v127:=Tryz.zeroValue84
  t138:=Tryz.underlying164
  a138:=Tryz.isAgg164
  z138:=Tryz.sizeOf164
  v138:=Tryz.zeroValue164
  t139:=Tryz.underlying165
  a139:=Tryz.isAgg165
  z139:=Tryz.sizeOf165
  v139:=Tryz.zeroValue165
  t146:=Tryz.underlying189
  a146:=Tryz.isAgg189
  z146:=Tryz.sizeOf189
  v146:=Tryz.zeroValue189
  t164:=Tryz.underlying185
  a164:=Tryz.isAgg185
  z164:=Tryz.sizeOf185
  v164:=Tryz.zeroValue185
  g1:=by kernel_rfl
  g3:=by kernel_rfl
  g4:=by kernel_rfl }
theorem Tryz.Builder_Extra_155:Builder.Extra Tryz.prog Tryz.lays155_ren:= {
  sizeBuilder:=by kernel_rfl
  liesBuilder:=by kernel_rfl
  t5:=Tryz.underlying5
  a5:=Tryz.isAgg5
  z5:=Tryz.sizeOf5
  v5:=Tryz.zeroValue5
  infoByte:=by kernel_rfl
  cellsByte:=by kernel_rfl
  sizeByte:=by kernel_rfl
  neB5:=by decide }
open Go.RowKit Go.Lib in
theorem Tryz.strings_ReplaceAll (s old new:ByteArray) (m:Int) (w:World) (hs:s.size<4294967281) (hm:w.cell? ⟨2,0,none⟩=some (.int .i64 m)) (h1:1≤old.size) (hlen:s.size+Lib.countB s old*new.size≤140737488355328):
    Calls Tryz.prog 51 #[.string s, .string old, .string new] w fun e w'=>
      e= .returned (.string ⟨(Lib.replaceAll s.data.toList old.data.toList new.data.toList).toArray⟩)∧Below w.heap.size w w':=Any.strings_ReplaceAll Tryz.lays155 Tryz.Builder_Extra_155 s old new m w hs hm h1 hlen
def Tryz.lays197_ren:Go.Shelf.Ren:=⟨fun | 197=>105 | 260=>135 | n=>n,fun | 9=>9 | 21=>21 | 3=>3 | 4=>4 | 5=>5 | 105=>137 | 119=>162 | 0=>0 | 46=>157 | 139=>165 | 138=>164 | n=>n,fun | 3=>0 | 4=>1 | n=>n⟩
theorem Tryz.lays197:Go.Proofs.Lays.n197 Tryz.prog Tryz.lays197_ren:= {
  mixed:=by kernel_rfl
  f197:=Tryz.func105.trans (congrArg some (by kernel_rfl))
  f260:=Tryz.func135.trans (congrArg some (by kernel_rfl))
  t0:=Tryz.underlying0
  a0:=Tryz.isAgg0
  z0:=Tryz.sizeOf0
  v0:=Tryz.zeroValue0
  t3:=Tryz.underlying3
  a3:=Tryz.isAgg3
  z3:=Tryz.sizeOf3
  v3:=Tryz.zeroValue3
  t4:=Tryz.underlying4
  a4:=Tryz.isAgg4
  z4:=Tryz.sizeOf4
  v4:=Tryz.zeroValue4
  t5:=Tryz.underlying5
  a5:=Tryz.isAgg5
  z5:=Tryz.sizeOf5
  v5:=Tryz.zeroValue5
  t9:=Tryz.underlying9
  a9:=Tryz.isAgg9
  z9:=Tryz.sizeOf9
  v9:=Tryz.zeroValue9
  t21:=Tryz.underlying21
  a21:=Tryz.isAgg21
  z21:=Tryz.sizeOf21
  v21:=Tryz.zeroValue21
  t46:=Tryz.underlying157
  a46:=Tryz.isAgg157
  z46:=Tryz.sizeOf157
  v46:=Tryz.zeroValue157
  t105:=Tryz.underlying137
  a105:=Tryz.isAgg137
  z105:=Tryz.sizeOf137
  v105:=Tryz.zeroValue137
  t119:=Tryz.underlying162
  a119:=Tryz.isAgg162
  z119:=Tryz.sizeOf162
  t138:=Tryz.underlying164
  a138:=Tryz.isAgg164
  z138:=Tryz.sizeOf164
  v138:=Tryz.zeroValue164
  t139:=Tryz.underlying165
  a139:=Tryz.isAgg165
  z139:=Tryz.sizeOf165
  v139:=Tryz.zeroValue165
  g3:=by kernel_rfl
  g4:=by kernel_rfl }
def Tryz.lays105_ren:Go.Shelf.Ren:=⟨fun | 105=>103 | 212=>132 | 99=>56 | 165=>123 | 166=>82 | 170=>133 | 169=>29 | 263=>162 | 264=>163 | 206=>95 | 240=>124 | 241=>154 | 276=>155 | 277=>187 | n=>n,fun | 9=>9 | 3=>3 | 4=>4 | 20=>20 | 0=>0 | 46=>157 | 109=>158 | 5=>5 | 72=>57 | 76=>118 | 51=>188 | 146=>189 | 53=>179 | 148=>191 | 70=>54 | 37=>55 | 75=>117 | 127=>84 | 164=>185 | 80=>61 | n=>n,fun | n=>n⟩
theorem Tryz.lays105:Go.Proofs.Lays.n105 Tryz.prog Tryz.lays105_ren:= {
  mixed:=by kernel_rfl
  f99:=Tryz.func56.trans (congrArg some (by kernel_rfl))
  f105:=Tryz.func103.trans (congrArg some (by kernel_rfl))
  f165:=Tryz.func123.trans (congrArg some (by kernel_rfl))
  f166:=Tryz.func82.trans (congrArg some (by kernel_rfl))
  f169:=Tryz.func29.trans (congrArg some (by kernel_rfl))
  f170:=Tryz.func133.trans (congrArg some (by kernel_rfl))
  f206:=Tryz.func95.trans (congrArg some (by kernel_rfl))
  f212:=Tryz.func132.trans (congrArg some (by kernel_rfl))
  f240:=Tryz.func124.trans (congrArg some (by kernel_rfl))
  f241:=Tryz.func154.trans (congrArg some (by kernel_rfl))
  f263:=Tryz.func162.trans (congrArg some (by kernel_rfl))
  f264:=Tryz.func163.trans (congrArg some (by kernel_rfl))
  f276:=Tryz.func155.trans (congrArg some (by kernel_rfl))
  f277:=Tryz.func187.trans (congrArg some (by kernel_rfl))
  t0:=Tryz.underlying0
  a0:=Tryz.isAgg0
  z0:=Tryz.sizeOf0
  v0:=Tryz.zeroValue0
  t3:=Tryz.underlying3
  a3:=Tryz.isAgg3
  z3:=Tryz.sizeOf3
  v3:=Tryz.zeroValue3
  t4:=Tryz.underlying4
  a4:=Tryz.isAgg4
  z4:=Tryz.sizeOf4
  v4:=Tryz.zeroValue4
  t5:=Tryz.underlying5
  a5:=Tryz.isAgg5
  z5:=Tryz.sizeOf5
  v5:=Tryz.zeroValue5
  t9:=Tryz.underlying9
  a9:=Tryz.isAgg9
  z9:=Tryz.sizeOf9
  v9:=Tryz.zeroValue9
  t20:=Tryz.underlying20
  a20:=Tryz.isAgg20
  z20:=Tryz.sizeOf20
  v20:=Tryz.zeroValue20
  t37:=Tryz.underlying55
  a37:=Tryz.isAgg55
  z37:=Tryz.sizeOf55
  v37:=Tryz.zeroValue55
  t46:=Tryz.underlying157
  a46:=Tryz.isAgg157
  z46:=Tryz.sizeOf157
  v46:=Tryz.zeroValue157
  t51:=Tryz.underlying188
  a51:=Tryz.isAgg188
  z51:=Tryz.sizeOf188
  v51:=Tryz.zeroValue188
  t53:=Tryz.underlying179
  a53:=Tryz.isAgg179
  z53:=Tryz.sizeOf179
  v53:=Tryz.zeroValue179
  t70:=Tryz.underlying54
  a70:=Tryz.isAgg54
  z70:=Tryz.sizeOf54
  v70:=Tryz.zeroValue54
  t72:=Tryz.underlying57
  a72:=Tryz.isAgg57
  z72:=Tryz.sizeOf57
  v72:=Tryz.zeroValue57
  t75:=Tryz.underlying117
  a75:=Tryz.isAgg117
  z75:=Tryz.sizeOf117
  v75:=Tryz.zeroValue117
  t76:=Tryz.underlying118
  a76:=Tryz.isAgg118
  z76:=Tryz.sizeOf118
  v76:=Tryz.zeroValue118
  t109:=Tryz.underlying158
  a109:=Tryz.isAgg158
  z109:=Tryz.sizeOf158
  v109:=Tryz.zeroValue158
  t127:=Tryz.underlying84
  a127:=Tryz.isAgg84
  z127:=Tryz.sizeOf84
  v127:=Tryz.zeroValue84
  t146:=Tryz.underlying189
  a146:=Tryz.isAgg189
  z146:=Tryz.sizeOf189
  v146:=Tryz.zeroValue189
  t148:=Tryz.underlying191
  a148:=Tryz.isAgg191
  z148:=Tryz.sizeOf191
  v148:=Tryz.zeroValue191
  t164:=Tryz.underlying185
  a164:=Tryz.isAgg185
  z164:=Tryz.sizeOf185
  v164:=Tryz.zeroValue185 }
theorem Tryz.Builder_Extra_105:Builder.Extra Tryz.prog Tryz.lays105_ren:= {
  sizeBuilder:=by kernel_rfl
  liesBuilder:=by kernel_rfl
  t5:=Tryz.underlying5
  a5:=Tryz.isAgg5
  z5:=Tryz.sizeOf5
  v5:=Tryz.zeroValue5
  infoByte:=by kernel_rfl
  cellsByte:=by kernel_rfl
  sizeByte:=by kernel_rfl
  neB5:=by decide }
open Go.RowKit Go.Lib in
theorem Tryz.strings_Repeat (s:ByteArray) (c:Nat) (w:World) (hc:c≤9223372036854775807) (hlen:s.size*c≤140737488355328):
    Calls Tryz.prog 103 #[.string s, .int .i64 c] w fun e w'=>e= .returned (.string ⟨(Lib.repeatL s.data.toList c).toArray⟩)∧Below w.heap.size w w':=Any.strings_Repeat Tryz.lays105 Tryz.Builder_Extra_105 s c w hc hlen
open Go.RowKit Go.Lib in
theorem Tryz.utf8_DecodeRuneInString (s:ByteArray) (w:World) (hT:Lib.Utf8Tabs 0 1 w):
    Calls Tryz.prog 105 #[.string s] w fun e w'=>e= .returned (.tuple #[.int .i32 (Lib.decodeGo s).1, .int .i64 (Lib.decodeGo s).2])∧Below w.heap.size w w':=Any.utf8_DecodeRuneInString Tryz.lays197 s w hT
def Tryz.laysValid_ren:Go.Shelf.Ren:=⟨fun | 196=>104 | 259=>134 | n=>n,fun | 9=>9 | 4=>4 | 3=>3 | 5=>5 | 12=>12 | 119=>162 | 0=>0 | 46=>157 | 139=>165 | 138=>164 | 53=>179 | n=>n,fun | 3=>0 | 4=>1 | n=>n⟩
theorem Tryz.laysValid:Go.Proofs.Lays.n196 Tryz.prog Tryz.laysValid_ren:= {
  mixed:=by kernel_rfl
  f196:=Tryz.func104.trans (congrArg some (by kernel_rfl))
  f259:=Tryz.func134.trans (congrArg some (by kernel_rfl))
  t0:=Tryz.underlying0
  a0:=Tryz.isAgg0
  z0:=Tryz.sizeOf0
  v0:=Tryz.zeroValue0
  t3:=Tryz.underlying3
  a3:=Tryz.isAgg3
  z3:=Tryz.sizeOf3
  v3:=Tryz.zeroValue3
  t4:=Tryz.underlying4
  a4:=Tryz.isAgg4
  z4:=Tryz.sizeOf4
  v4:=Tryz.zeroValue4
  t5:=Tryz.underlying5
  a5:=Tryz.isAgg5
  z5:=Tryz.sizeOf5
  v5:=Tryz.zeroValue5
  t9:=Tryz.underlying9
  a9:=Tryz.isAgg9
  z9:=Tryz.sizeOf9
  v9:=Tryz.zeroValue9
  t12:=Tryz.underlying12
  a12:=Tryz.isAgg12
  z12:=Tryz.sizeOf12
  v12:=Tryz.zeroValue12
  t46:=Tryz.underlying157
  a46:=Tryz.isAgg157
  z46:=Tryz.sizeOf157
  v46:=Tryz.zeroValue157
  t53:=Tryz.underlying179
  a53:=Tryz.isAgg179
  z53:=Tryz.sizeOf179
  v53:=Tryz.zeroValue179
  t119:=Tryz.underlying162
  a119:=Tryz.isAgg162
  z119:=Tryz.sizeOf162
  t138:=Tryz.underlying164
  a138:=Tryz.isAgg164
  z138:=Tryz.sizeOf164
  v138:=Tryz.zeroValue164
  t139:=Tryz.underlying165
  a139:=Tryz.isAgg165
  z139:=Tryz.sizeOf165
  v139:=Tryz.zeroValue165
  g3:=by kernel_rfl
  g4:=by kernel_rfl }
open Go.RowKit in
theorem Tryz.utf8_ValidString (s:ByteArray) (w:World) (hs:s.size≤9223372036854775807) (hT:Lib.Utf8Tabs 0 1 w):
    Calls Tryz.prog 104 #[.string s] w fun e w'=>e= .returned (.bool (Lib.validD s.data.toList))∧Below w.heap.size w w':=Any.utf8_ValidString Tryz.laysValid s w hs hT
end Go.Proofs
