import Derived.Shelf.Unicode.ValidAny
import Derived.Shelf.Strings.Builder1
import Derived.Shelf.Strings.Builder2
import Derived.Shelf.Strings.OnBuilder
import Derived.Shelf.Strings.Trim
import Derived.Shelf.Small.Utf8
import Derived.Shelf.Small.Strs
import Derived.Shelf.Small.Wraps
import Derived.Shelf.Strings.BuilderF
import Derived.Shelf.Strings.BuilderK
import Derived.Shelf.Strings.BuilderRune
import Derived.Shelf.Strings.Builder2Cap
import Derived.Shelf.Strconv.Itoa0
import Derived.Shelf.Strconv.Itoa1
import Derived.Shelf.LaysM
import Derived.Shelf.Strconv.Itoa2
import Derived.Shelf.Strconv.Itoa3
import Derived.Shelf.Strconv.Clone
import Derived.Shelf.Strconv.SyntaxError
import Derived.Shelf.LaysC
import Derived.Shelf.Strconv.ToError
import Derived.Shelf.Strconv.Lower
import Derived.Shelf.Strconv.ParseUint10
import Derived.Shelf.Strconv.ParseUint10Empty
import Derived.Shelf.Strconv.ParseUint10Any
import Derived.Shelf.Strconv.RangeError
import Derived.Shelf.Strconv.ToErrorRange
import Derived.Shelf.Strconv.ParseUintEmpty
import Derived.Shelf.Strconv.ParseUint10b64
import Derived.Shelf.Strconv.ParseUint10b32
import Derived.Shelf.Strconv.ParseUint10b16
import Derived.Shelf.Strconv.ParseUint10b8
import Derived.Shelf.Strconv.ParseUint10At
import Derived.Shelf.Strings.Search1
import Derived.Shelf.Strings.Search2
import Derived.Shelf.Strings.Search3
import Derived.Shelf.Strings.Shaped
import Derived.Shelf.Strings.Prefix
import Derived.Shelf.Unicode.Decode
import Derived.Shelf.Strings.Runes
import Derived.Shelf.Strings.IndexAny
import Derived.Shelf.Strings.AsciiSet
import Derived.Shelf.Strings.IndexAnyAll
import Derived.Shelf.Unicode.DecodeSlow
import Derived.Shelf.Unicode.DecodeAny
import Derived.Shelf.Unicode.DecodeLast
import Derived.Shelf.Strings.BuilderCap
import Derived.Test.YtfhjncbdgjlcoaaGreatDoorProg
namespace Go.Proofs
open Go.Shelf Tryz
theorem Sh0{P:Prop}(h:P:=by repeat' first|kernel_rfl|(intro;first|kernel_rfl|rfl)|decide|constructor):P:=h
def Tryz.lays169_ren:Go.Shelf.Ren:=⟨fun | 169=>55 | n=>n,fun | 70=>96 | 9=>9 | 0=>0 | 72=>99 | 37=>97 | 127=>130 | 3=>3 | 5=>5 | n=>n,fun | n=>n⟩
theorem Tryz.lays169:Go.Proofs.Lays.n169 prog Tryz.lays169_ren:=Sh0
theorem Tryz.Builder_Extra_169:Builder.Extra prog Tryz.lays169_ren:=Sh0
def Tryz.lays161_ren:Go.Shelf.Ren:=⟨fun | 161=>29 | 231=>49 | 227=>50 | 233=>51 | 235=>52 | 228=>83 | 197=>84 | 151=>85 | 260=>120 | 152=>121 | 137=>41 | 119=>160 | 224=>161 | 225=>162 | 217=>71 | 266=>104 | n=>n,fun | 9=>9 | 4=>4 | 3=>3 | 5=>5 | 117=>92 | 116=>91 | 0=>0 | 124=>95 | 105=>127 | 21=>21 | 119=>183 | 46=>184 | 139=>187 | 138=>186 | n=>n,fun | 3=>1 | 4=>2 | n=>n⟩
theorem Tryz.lays161:Go.Proofs.Lays.n161 prog Tryz.lays161_ren:=Sh0
open Go.RowKit in
theorem Tryz.strings_TrimLeft_one (s:ByteArray) (c:UInt8) (hc:c.toNat<128) (w:World):
    Calls prog 29 #[.string s, .string ⟨#[c]⟩] w fun e w'=>e= .returned (.string ⟨(Lib.trimLeftB s.data.toList c).toArray⟩)∧w'=w:=Any.strings_TrimLeft_one Tryz.lays161 s c hc w
def Tryz.lays162_ren:Go.Shelf.Ren:=⟨fun | 162=>99 | 232=>139 | 227=>50 | 234=>140 | 236=>141 | 228=>83 | 271=>177 | 151=>85 | 120=>204 | 197=>84 | 152=>121 | 260=>120 | 137=>41 | 119=>160 | 224=>161 | 225=>162 | 217=>71 | 266=>104 | n=>n,fun | 9=>9 | 4=>4 | 3=>3 | 5=>5 | 117=>92 | 116=>91 | 0=>0 | 124=>95 | 21=>21 | 105=>127 | 46=>184 | 119=>183 | 139=>187 | 138=>186 | n=>n,fun | 3=>1 | 4=>2 | n=>n⟩
theorem Tryz.lays162:Go.Proofs.Lays.n162 prog Tryz.lays162_ren:=Sh0
open Go.RowKit in
theorem Tryz.strings_TrimRight_one (s:ByteArray) (c:UInt8) (hc:c.toNat<128) (w:World) (hs:s.size≤9223372036854775807):
    Calls prog 99 #[.string s, .string ⟨#[c]⟩] w fun e w'=>e= .returned (.string ⟨(Lib.trimRightB s.data.toList c).toArray⟩)∧w'=w:=Any.strings_TrimRight_one Tryz.lays162 s c hc w hs
def Tryz.lays160_ren:Go.Shelf.Ren:=⟨fun | 160=>116 | 232=>139 | 231=>49 | 227=>50 | 234=>140 | 233=>51 | 236=>141 | 235=>52 | 228=>83 | 271=>177 | 151=>85 | 197=>84 | 120=>204 | 152=>121 | 260=>120 | 137=>41 | 119=>160 | 224=>161 | 225=>162 | 217=>71 | 266=>104 | n=>n,fun | 9=>9 | 4=>4 | 3=>3 | 5=>5 | 117=>92 | 116=>91 | 0=>0 | 124=>95 | 21=>21 | 105=>127 | 46=>184 | 119=>183 | 139=>187 | 138=>186 | n=>n,fun | 3=>1 | 4=>2 | n=>n⟩
theorem Tryz.lays160:Go.Proofs.Lays.n160 prog Tryz.lays160_ren:=Sh0
open Go.RowKit in
theorem Tryz.strings_Trim_one (s:ByteArray) (c:UInt8) (hc:c.toNat<128) (w:World) (hs:s.size≤9223372036854775807):
    Calls prog 116 #[.string s, .string ⟨#[c]⟩] w fun e w'=>e= .returned (.string ⟨(Lib.trimB s.data.toList c).toArray⟩)∧(w'=w∨w'=w.drew):=Any.strings_Trim_one Tryz.lays160 s c hc w hs
def Tryz.lays137_ren:Go.Shelf.Ren:=⟨fun | 137=>41 | 217=>71 | 266=>104 | n=>n,fun | 9=>9 | 5=>5 | 3=>3 | n=>n,fun | n=>n⟩
theorem Tryz.lays137:Go.Proofs.Lays.n137 prog Tryz.lays137_ren:=Sh0
open Go.RowKit in
theorem Tryz.strings_IndexByte (s:ByteArray) (c:Int) (w:World):
    Calls prog 41 #[.string s, .int .u8 c] w fun e w'=>e= .returned (.int .i64 (Lib.indexByte s.data.toList c.toNat.toUInt8))∧w'=w:=Any.strings_IndexByte Tryz.lays137 s c w
def Tryz.lays103_ren:Go.Shelf.Ren:=⟨fun | 103=>136 | 210=>175 | 206=>157 | n=>n,fun | 9=>9 | 4=>4 | 24=>39 | 3=>3 | n=>n,fun | n=>n⟩
theorem Tryz.lays103:Go.Proofs.Lays.n103 prog Tryz.lays103_ren:=Sh0
open Go.RowKit in
theorem Tryz.strings_CutPrefix (s p:ByteArray) (w:World):
    Calls prog 136 #[.string s, .string p] w fun e w'=>e= .returned (.tuple #[.string ⟨(Lib.trimPrefix s.data.toList p.data.toList).toArray⟩, .bool (Lib.hasPrefix s.data.toList p.data.toList)])∧w'=w:=Any.strings_CutPrefix Tryz.lays103 s p w
open Go.RowKit in
theorem Tryz.Builder_String_any_k (B b:Nat) (l:List UInt8) (w:World) (h:Lib.IsBuilderF 99 5 B b (Lib.byteCells l) w) (hBw:B≤w.heap.size):
    Calls prog 55 #[.pointer (some ⟨b,0,none⟩)] w fun e w'=>e= .returned (.string ⟨l.toArray⟩)∧(Lib.IsBuilderF 99 5 B b (Lib.byteCells l) w'∧Below B w w'∧Lib.OthersKept 5 (some b) w w'):=Any.Builder_String_any_k Tryz.lays169 Tryz.Builder_Extra_169 B b l w h hBw
def Tryz.laysM171_ren:Go.Shelf.Ren:=⟨fun | 171=>62 | 243=>97 | 246=>135 | 283=>171 | 284=>172 | 285=>173 | 286=>174 | 129=>200 | 317=>199 | 318=>201 | 319=>202 | 320=>203 | 337=>216 | 338=>217 | n=>n,fun | 3=>3 | 9=>9 | 2=>2 | 4=>4 | 171=>193 | 0=>0 | 53=>194 | 37=>97 | 5=>5 | 173=>197 | 212=>211 | 51=>212 | 20=>20 | 213=>213 | 46=>184 | 232=>231 | 233=>232 | n=>n,fun | 17=>3 | 18=>4 | 19=>5 | n=>n⟩
theorem Tryz.laysM171:Go.Proofs.LaysM.n171 prog Tryz.laysM171_ren:=Sh0
open Go.RowKit Go.Sort Go.Lib in
theorem Tryz.strconv_Itoa (n:Int) (h0: -9223372036854775808≤n) (h1:n≤9223372036854775807) (w:World) (htab:Lib.TabIs prog w "internal/strconv.uint64pow10" .u64 Lib.pow10Tab):
    Calls prog 62 #[.int .i64 n] w fun e w'=>e= .returned (.string ⟨(Lib.itoa n).toArray⟩)∧ ∃k os,w'=grow (w.drewN k) os:=Any.strconv_Itoa Tryz.laysM171 n h0 h1 w htab
def Tryz.lays143_ren:Go.Shelf.Ren:=⟨fun | 143=>159 | 219=>195 | 217=>71 | 225=>162 | 224=>161 | 267=>214 | 266=>104 | 314=>227 | n=>n,fun | 9=>9 | 3=>3 | 4=>4 | 5=>5 | 46=>184 | 146=>229 | 51=>212 | n=>n,fun | 1=>0 | n=>n⟩
theorem Tryz.lays143:Go.Proofs.Lays.n143 prog Tryz.lays143_ren:=Sh0
open Go.RowKit Go.Lib in
theorem Tryz.strings_Index (s sub:ByteArray) (m:Int) (w:World) (hs:s.size<4294967281) (hm:w.cell? ⟨0,0,none⟩=some (.int .i64 m)):
    Calls prog 159 #[.string s, .string sub] w fun e w'=>e= .returned (.int .i64 (Lib.index s.data.toList sub.data.toList))∧w'=w:=Any.strings_Index Tryz.lays143 s sub m w hs hm
def Tryz.lays144_ren:Go.Shelf.Ren:=⟨fun | 144=>119 | 143=>159 | 219=>195 | 217=>71 | 225=>162 | 224=>161 | 267=>214 | 266=>104 | 314=>227 | n=>n,fun | 9=>9 | 4=>4 | 3=>3 | 5=>5 | 46=>184 | 146=>229 | 51=>212 | n=>n,fun | 1=>0 | n=>n⟩
theorem Tryz.lays144:Go.Proofs.Lays.n144 prog Tryz.lays144_ren:=Sh0
open Go.RowKit Go.Lib in
theorem Tryz.strings_Contains_one (s:ByteArray) (c:UInt8) (w:World):
    Calls prog 119 #[.string s, .string ⟨#[c]⟩] w fun e w'=>e= .returned (.bool (decide (0≤Lib.indexByte s.data.toList c)))∧w'=w:=Any.strings_Contains_one Tryz.lays144 s c w
open Go.RowKit Go.Lib in
theorem Tryz.strings_Contains (s sub:ByteArray) (m:Int) (w:World) (hs:s.size<4294967281) (hm:w.cell? ⟨0,0,none⟩=some (.int .i64 m)):
    Calls prog 119 #[.string s, .string sub] w fun e w'=>e= .returned (.bool (Lib.contains s.data.toList sub.data.toList))∧w'=w:=Any.strings_Contains Tryz.lays144 s sub m w hs hm
def Tryz.lays99_ren:Go.Shelf.Ren:=⟨fun | 99=>117 | 206=>157 | n=>n,fun | 9=>9 | 4=>4 | 3=>3 | n=>n,fun | n=>n⟩
theorem Tryz.lays99:Go.Proofs.Lays.n99 prog Tryz.lays99_ren:=Sh0
open Go.RowKit Go.Lib in
theorem Tryz.strings_HasPrefix (s p:ByteArray) (w:World):
    Calls prog 117 #[.string s, .string p] w fun e w'=>e= .returned (.bool (Lib.hasPrefix s.data.toList p.data.toList))∧w'=w:=Any.strings_HasPrefix Tryz.lays99 s p w
def Tryz.lays100_ren:Go.Shelf.Ren:=⟨fun | 100=>118 | 207=>158 | n=>n,fun | 9=>9 | 4=>4 | 3=>3 | n=>n,fun | n=>n⟩
theorem Tryz.lays100:Go.Proofs.Lays.n100 prog Tryz.lays100_ren:=Sh0
open Go.RowKit Go.Lib in
theorem Tryz.strings_HasSuffix (s p:ByteArray) (w:World) (hs:s.size≤9223372036854775807):
    Calls prog 118 #[.string s, .string p] w fun e w'=>e= .returned (.bool (Lib.hasSuffix s.data.toList p.data.toList))∧w'=w:=Any.strings_HasSuffix Tryz.lays100 s p w hs
def Tryz.lays101_ren:Go.Shelf.Ren:=⟨fun | 101=>138 | 208=>176 | 206=>157 | n=>n,fun | 9=>9 | 4=>4 | 3=>3 | n=>n,fun | n=>n⟩
theorem Tryz.lays101:Go.Proofs.Lays.n101 prog Tryz.lays101_ren:=Sh0
open Go.RowKit Go.Lib in
theorem Tryz.strings_TrimPrefix (s p:ByteArray) (w:World):
    Calls prog 138 #[.string s, .string p] w fun e w'=>e= .returned (.string ⟨(Lib.trimPrefix s.data.toList p.data.toList).toArray⟩)∧w'=w:=Any.strings_TrimPrefix Tryz.lays101 s p w
def Tryz.lays197_ren:Go.Shelf.Ren:=⟨fun | 197=>84 | 260=>120 | n=>n,fun | 9=>9 | 21=>21 | 3=>3 | 4=>4 | 5=>5 | 105=>127 | 119=>183 | 0=>0 | 46=>184 | 139=>187 | 138=>186 | n=>n,fun | 3=>1 | 4=>2 | n=>n⟩
theorem Tryz.lays197:Go.Proofs.Lays.n197 prog Tryz.lays197_ren:=Sh0
open Go.RowKit Go.Lib in
theorem Tryz.utf8_DecodeRuneInString (s:ByteArray) (w:World) (hT:Lib.Utf8Tabs 1 2 w):
    Calls prog 84 #[.string s] w fun e w'=>e= .returned (.tuple #[.int .i32 (Lib.decodeGo s).1, .int .i64 (Lib.decodeGo s).2])∧Below w.heap.size w w':=Any.utf8_DecodeRuneInString Tryz.lays197 s w hT
def Tryz.laysValid_ren:Go.Shelf.Ren:=⟨fun | 196=>194 | 259=>213 | n=>n,fun | 9=>9 | 4=>4 | 3=>3 | 5=>5 | 12=>12 | 119=>183 | 0=>0 | 46=>184 | 139=>187 | 138=>186 | 53=>194 | n=>n,fun | 3=>1 | 4=>2 | n=>n⟩
theorem Tryz.laysValid:Go.Proofs.Lays.n196 prog Tryz.laysValid_ren:=Sh0
open Go.RowKit in
theorem Tryz.utf8_ValidString (s:ByteArray) (w:World) (hs:s.size≤9223372036854775807) (hT:Lib.Utf8Tabs 1 2 w):
    Calls prog 194 #[.string s] w fun e w'=>e= .returned (.bool (Lib.validD s.data.toList))∧Below w.heap.size w w':=Any.utf8_ValidString Tryz.laysValid s w hs hT
def Tryz.laysC245_ren:Go.Shelf.Ren:=⟨fun | 245=>234 | 279=>238 | 280=>239 | 281=>240 | 282=>241 | 316=>242 | 171=>62 | 205=>243 | 243=>97 | 246=>135 | 283=>171 | 284=>172 | 285=>173 | 286=>174 | 129=>200 | 317=>199 | 318=>201 | 319=>202 | 320=>203 | 337=>216 | 338=>217 | n=>n,fun | 9=>9 | 3=>3 | 75=>102 | 167=>237 | 4=>4 | 168=>239 | 210=>244 | 37=>97 | 0=>0 | 127=>130 | 145=>248 | 143=>246 | 2=>2 | 171=>193 | 53=>194 | 5=>5 | 173=>197 | 212=>211 | 51=>212 | 20=>20 | 213=>213 | 46=>184 | 232=>231 | 233=>232 | 80=>105 | n=>n,fun | 15=>6 | 16=>7 | 17=>3 | 18=>4 | 19=>5 | n=>n⟩
theorem Tryz.laysC245:Go.Proofs.LaysC.n245 prog Tryz.laysC245_ren:=Sh0
open Go.RowKit in
theorem Tryz.strconv_toError_syntax (fn s:ByteArray) (base bits:Int) (ev:Value) (w:World) (hlim:s.size≤281474976710656) (hv:w.cell? ⟨6,0,none⟩=some ev) (hev:ev= .nilIface∨ ∃te pe,ev= .iface te pe):
    Calls prog 234 #[.string fn, .string s, .int .i64 base, .int .i64 bits, .iface 237 (.int .i64 2)] w fun e w'=> ∃N,e= .returned (.iface 239 (.pointer (some ⟨N,0,none⟩)))∧w.heap.size≤N∧w'.heap[N]?=some (.cells #[.string fn, .string s,ev] 244 (0,0))∧Below w.heap.size w w':=Any.strconv_toError_syntax Tryz.laysC245 fn s base bits ev w hlim hv hev
def Tryz.lays152_ren:Go.Shelf.Ren:=⟨fun | 152=>121 | 137=>41 | 119=>160 | 224=>161 | 225=>162 | 217=>71 | 266=>104 | n=>n,fun | 9=>9 | 21=>21 | 3=>3 | 4=>4 | 5=>5 | 0=>0 | 46=>184 | n=>n,fun | n=>n⟩
theorem Tryz.lays152:Go.Proofs.Lays.n152 prog Tryz.lays152_ren:=Sh0
open Go.RowKit Go.Lib in
theorem Tryz.strings_IndexRune_ascii (s:ByteArray) (r:Int) (w:World) (h0:0≤r) (h1:r<128):
    Calls prog 121 #[.string s, .int .i32 r] w fun e w'=>e= .returned (.int .i64 (Lib.indexByte s.data.toList r.toNat.toUInt8))∧w'=w:=Any.strings_IndexRune_ascii Tryz.lays152 s r w h0 h1
def Tryz.lays226_ren:Go.Shelf.Ren:=⟨fun | 226=>235 | n=>n,fun | 3=>3 | 4=>4 | n=>n,fun | n=>n⟩
theorem Tryz.lays226:Go.Proofs.Lays.n226 prog Tryz.lays226_ren:=Sh0
open Go.RowKit Go.Lib in
theorem Tryz.strings_shouldUseASCIISet (n:Int) (w:World):
    Calls prog 235 #[.int .i64 n] w fun e w'=>e= .returned (.bool (decide (8<n)))∧w'=w:=Any.strings_shouldUseASCIISet Tryz.lays226 n w
def Tryz.lays156_ren:Go.Shelf.Ren:=⟨fun | 156=>30 | 165=>53 | 166=>54 | 169=>55 | 240=>86 | 241=>87 | 276=>122 | 277=>123 | n=>n,fun | 31=>33 | 9=>9 | 3=>3 | 4=>4 | 0=>0 | 20=>20 | 72=>99 | 76=>103 | 70=>96 | 37=>97 | 75=>102 | 127=>130 | 164=>149 | 5=>5 | 80=>105 | n=>n,fun | n=>n⟩
theorem Tryz.lays156:Go.Proofs.Lays.n156 prog Tryz.lays156_ren:=Sh0
theorem Tryz.Builder_Extra_156:Builder.Extra prog Tryz.lays156_ren:=Sh0
open Go.RowKit in
theorem Tryz.strings_Join_none (a:Option Addr) (c:Nat) (sep:ByteArray) (w:World):
    Calls prog 30 #[.slice a 0 c, .string sep] w fun e w'=>e= .returned (.string ⟨#[]⟩)∧w'=w:=Any.strings_Join_none Tryz.lays156 Tryz.Builder_Extra_156 a c sep w
open Go.RowKit in
theorem Tryz.strings_Join (bk o c:Nat) (xs:List ByteArray) (sep:ByteArray) (w:World) (hcells: ∀(j:Nat) x,xs[j]?=some x→w.cell? ⟨bk,o+j,none⟩=some (.string x)) (hbk:bk<w.heap.size) (hN:xs.length≤140737488355328) (hcap:xs.length≤c) (hlen:(Lib.join (xs.map (·.data.toList)) sep.data.toList).length≤140737488355328):
    Calls prog 30 #[.slice (some ⟨bk,o,none⟩) xs.length c, .string sep] w fun e w'=>e= .returned (.string ⟨(Lib.join (xs.map (·.data.toList)) sep.data.toList).toArray⟩)∧Below w.heap.size w w':=Any.strings_Join Tryz.lays156 Tryz.Builder_Extra_156 bk o c xs sep w hcells hbk hN hcap hlen
