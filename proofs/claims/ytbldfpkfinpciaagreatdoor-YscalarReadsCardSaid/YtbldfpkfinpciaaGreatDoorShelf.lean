/-
  DERIVED: THE SHELF's CONTRACTS AT THIS DUMP, IN PLAIN WORDS (tools/lay-plain.mjs out of 'YtbldfpkfinpciaaGreatDoorShelf.lean', which tools/lay-shelf.mjs wrote): THE SAME DECLARATIONS UNDER THE SAME NAMES: 'import', 'namespace', 'open', 'def', 'theorem' AND NOTHING ELSE: no command of the shelf's: FOR A HAND-IN. Each laying: the table of numbers ('.._ren') and one theorem, a field a fact of the dump's own or the kernel's comparison; each contract: ONE APPLICATION.
-/
import Derived.Shelf.Unicode.ValidAny
import Derived.Shelf.Strings.Builder1
import Derived.Shelf.Strings.Builder2
import Derived.Shelf.Strings.OnBuilder
import Derived.Shelf.Strings.Trim
import Derived.Shelf.Small.Utf8
import Derived.Shelf.Small.Strs
import Derived.Shelf.Small.Wraps
import Derived.Shelf.Strings.BuilderF
import Derived.Shelf.Strings.BuilderK
import Derived.Shelf.Strings.BuilderRune
import Derived.Shelf.Utf8.RuneCount
import Derived.Shelf.Strings.Builder2Cap
import Derived.Shelf.Strconv.Itoa0
import Derived.Shelf.Strconv.Itoa1
import Derived.Shelf.LaysM
import Derived.Shelf.Strconv.Itoa2
import Derived.Shelf.Strconv.Itoa3
import Derived.Shelf.Strconv.ParseIntEmpty
import Derived.Shelf.Strconv.Clone
import Derived.Shelf.Strconv.SyntaxError
import Derived.Shelf.LaysC
import Derived.Shelf.Strconv.ToError
import Derived.Shelf.Strconv.Lower
import Derived.Shelf.Strconv.ParseUint10
import Derived.Shelf.Strconv.ParseUint10Empty
import Derived.Shelf.Strconv.ParseUint10Any
import Derived.Shelf.Strconv.ParseInt10
import Derived.Shelf.Strconv.RangeError
import Derived.Shelf.Strconv.ToErrorRange
import Derived.Shelf.Strconv.ParseUintEmpty
import Derived.Shelf.Strconv.ParseUint10b64
import Derived.Shelf.Strconv.ParseUint10b32
import Derived.Shelf.Strconv.ParseUint10b16
import Derived.Shelf.Strconv.ParseUint10b8
import Derived.Shelf.Strconv.ParseUint10At
import Derived.Shelf.Strconv.ParseInt10At64
import Derived.Shelf.Strconv.ParseInt10At32
import Derived.Shelf.Strconv.ParseInt10At16
import Derived.Shelf.Strconv.ParseInt10At8
import Derived.Shelf.Strconv.ParseInt10All
import Derived.Shelf.Strconv.ParseIntPublic10
import Derived.Shelf.Strconv.ErrVarParseInt
import Derived.Shelf.Strings.Search1
import Derived.Shelf.Strings.Search2
import Derived.Shelf.Strings.Search3
import Derived.Shelf.Strings.Count
import Derived.Shelf.Strings.Shaped
import Derived.Shelf.Strings.Prefix
import Derived.Shelf.Strings.Split
import Derived.Shelf.Strings.Replace
import Derived.Shelf.Strings.SplitShaped
import Derived.Shelf.Unicode.Decode
import Derived.Shelf.Strings.Runes
import Derived.Shelf.Strings.RuneCount
import Derived.Shelf.Strings.IndexAny
import Derived.Shelf.Strings.AsciiSet
import Derived.Shelf.Strings.IndexAnyAll
import Derived.Shelf.Bits.Mul64
import Derived.Shelf.Strings.Repeat
import Derived.Shelf.Unicode.DecodeSlow
import Derived.Shelf.Unicode.DecodeAny
import Derived.Shelf.Unicode.DecodeLast
import Derived.Shelf.Strings.BuilderCap
import Derived.Test.YtbldfpkfinpciaaGreatDoorProg
namespace Go.Proofs
open Go.Shelf
def Tryz.lays169_ren : Go.Shelf.Ren := ⟨fun | 169 => 92 | n => n, fun | 70 => 114 | 9 => 9 | 0 => 0 | 72 => 116 | 37 => 84 | 127 => 159 | 3 => 3 | 5 => 5 | n => n, fun | n => n⟩
theorem Tryz.lays169 : Go.Proofs.Lays.n169 Tryz.prog Tryz.lays169_ren := {
  mixed := by kernel_rfl
  f169 := Tryz.func92.trans (congrArg some (by kernel_rfl))
  t0 := Tryz.underlying0
  a0 := Tryz.isAgg0
  z0 := Tryz.sizeOf0
  v0 := Tryz.zeroValue0
  t3 := Tryz.underlying3
  a3 := Tryz.isAgg3
  z3 := Tryz.sizeOf3
  v3 := Tryz.zeroValue3
  t9 := Tryz.underlying9
  a9 := Tryz.isAgg9
  z9 := Tryz.sizeOf9
  v9 := Tryz.zeroValue9
  t37 := Tryz.underlying84
  a37 := Tryz.isAgg84
  z37 := Tryz.sizeOf84
  v37 := Tryz.zeroValue84
  t70 := Tryz.underlying114
  a70 := Tryz.isAgg114
  z70 := Tryz.sizeOf114
  v70 := Tryz.zeroValue114
  t72 := Tryz.underlying116
  a72 := Tryz.isAgg116
  z72 := Tryz.sizeOf116
  v72 := Tryz.zeroValue116
  t127 := Tryz.underlying159
  a127 := Tryz.isAgg159
  z127 := Tryz.sizeOf159
  v127 := Tryz.zeroValue159 }
theorem Tryz.Builder_Extra_169 : Builder.Extra Tryz.prog Tryz.lays169_ren := {
  sizeBuilder := by kernel_rfl
  liesBuilder := by kernel_rfl
  t5 := Tryz.underlying5
  a5 := Tryz.isAgg5
  z5 := Tryz.sizeOf5
  v5 := Tryz.zeroValue5
  infoByte := by kernel_rfl
  cellsByte := by kernel_rfl
  sizeByte := by kernel_rfl
  neB5 := by decide }
def Tryz.lays161_ren : Go.Shelf.Ren := ⟨fun | 161 => 49 | 231 => 86 | 227 => 87 | 233 => 88 | 235 => 89 | 228 => 145 | 197 => 101 | 151 => 146 | 260 => 152 | 152 => 191 | 137 => 66 | 119 => 233 | 224 => 223 | 225 => 222 | 217 => 118 | 266 => 175 | n => n, fun | 9 => 9 | 4 => 4 | 3 => 3 | 5 => 5 | 117 => 110 | 116 => 109 | 0 => 0 | 124 => 113 | 105 => 127 | 21 => 21 | 119 => 163 | 46 => 167 | 139 => 166 | 138 => 165 | n => n, fun | 3 => 0 | 4 => 1 | n => n⟩
theorem Tryz.lays161 : Go.Proofs.Lays.n161 Tryz.prog Tryz.lays161_ren := {
  mixed := by kernel_rfl
  f119 := Tryz.func233.trans (congrArg some (by kernel_rfl))
  f137 := Tryz.func66.trans (congrArg some (by kernel_rfl))
  f151 := Tryz.func146.trans (congrArg some (by kernel_rfl))
  f152 := Tryz.func191.trans (congrArg some (by kernel_rfl))
  f161 := Tryz.func49.trans (congrArg some (by kernel_rfl))
  f197 := Tryz.func101.trans (congrArg some (by kernel_rfl))
  f217 := Tryz.func118.trans (congrArg some (by kernel_rfl))
  f224 := Tryz.func223.trans (congrArg some (by kernel_rfl))
  f225 := Tryz.func222.trans (congrArg some (by kernel_rfl))
  f227 := Tryz.func87.trans (congrArg some (by kernel_rfl))
  f228 := Tryz.func145.trans (congrArg some (by kernel_rfl))
  f231 := Tryz.func86.trans (congrArg some (by kernel_rfl))
  f233 := Tryz.func88.trans (congrArg some (by kernel_rfl))
  f235 := Tryz.func89.trans (congrArg some (by kernel_rfl))
  f260 := Tryz.func152.trans (congrArg some (by kernel_rfl))
  f266 := Tryz.func175.trans (congrArg some (by kernel_rfl))
  t0 := Tryz.underlying0
  a0 := Tryz.isAgg0
  z0 := Tryz.sizeOf0
  v0 := Tryz.zeroValue0
  t3 := Tryz.underlying3
  a3 := Tryz.isAgg3
  z3 := Tryz.sizeOf3
  v3 := Tryz.zeroValue3
  t4 := Tryz.underlying4
  a4 := Tryz.isAgg4
  z4 := Tryz.sizeOf4
  v4 := Tryz.zeroValue4
  t5 := Tryz.underlying5
  a5 := Tryz.isAgg5
  z5 := Tryz.sizeOf5
  v5 := Tryz.zeroValue5
  t9 := Tryz.underlying9
  a9 := Tryz.isAgg9
  z9 := Tryz.sizeOf9
  v9 := Tryz.zeroValue9
  t21 := Tryz.underlying21
  a21 := Tryz.isAgg21
  z21 := Tryz.sizeOf21
  v21 := Tryz.zeroValue21
  t46 := Tryz.underlying167
  a46 := Tryz.isAgg167
  z46 := Tryz.sizeOf167
  v46 := Tryz.zeroValue167
  t105 := Tryz.underlying127
  a105 := Tryz.isAgg127
  z105 := Tryz.sizeOf127
  v105 := Tryz.zeroValue127
  t116 := Tryz.underlying109
  a116 := Tryz.isAgg109
  z116 := Tryz.sizeOf109
  t117 := Tryz.underlying110
  a117 := Tryz.isAgg110
  z117 := Tryz.sizeOf110
  v117 := Tryz.zeroValue110
  t119 := Tryz.underlying163
  a119 := Tryz.isAgg163
  z119 := Tryz.sizeOf163
  t124 := Tryz.underlying113
  a124 := Tryz.isAgg113
  z124 := Tryz.sizeOf113
  v124 := Tryz.zeroValue113
  t138 := Tryz.underlying165
  a138 := Tryz.isAgg165
  z138 := Tryz.sizeOf165
  v138 := Tryz.zeroValue165
  t139 := Tryz.underlying166
  a139 := Tryz.isAgg166
  z139 := Tryz.sizeOf166
  v139 := Tryz.zeroValue166
  g3 := by kernel_rfl
  g4 := by kernel_rfl }
open Go.RowKit in
/-- strings.TrimLeft: "TrimLeft returns a slice of the string s with all leading Unicode code points contained in cutset removed.": AT A cutset OF ONE ASCII BYTE. The world is as it was. (LAID: no walk: one application.) -/
theorem Tryz.strings_TrimLeft_one (s : ByteArray) (c : UInt8) (hc : c.toNat < 128) (w : World) :
    Calls Tryz.prog 49 #[.string s, .string ⟨#[c]⟩] w fun e w' => e = .returned (.string ⟨(Lib.trimLeftB s.data.toList c).toArray⟩) ∧ w' = w := Any.strings_TrimLeft_one Tryz.lays161 s c hc w
def Tryz.lays162_ren : Go.Shelf.Ren := ⟨fun | 162 => 124 | 232 => 115 | 227 => 87 | 234 => 116 | 236 => 117 | 228 => 145 | 271 => 174 | 151 => 146 | 120 => 221 | 197 => 101 | 152 => 191 | 260 => 152 | 137 => 66 | 119 => 233 | 224 => 223 | 225 => 222 | 217 => 118 | 266 => 175 | n => n, fun | 9 => 9 | 4 => 4 | 3 => 3 | 5 => 5 | 117 => 110 | 116 => 109 | 0 => 0 | 124 => 113 | 21 => 21 | 105 => 127 | 46 => 167 | 119 => 163 | 139 => 166 | 138 => 165 | n => n, fun | 3 => 0 | 4 => 1 | n => n⟩
theorem Tryz.lays162 : Go.Proofs.Lays.n162 Tryz.prog Tryz.lays162_ren := {
  mixed := by kernel_rfl
  f119 := Tryz.func233.trans (congrArg some (by kernel_rfl))
  f120 := Tryz.func221.trans (congrArg some (by kernel_rfl))
  f137 := Tryz.func66.trans (congrArg some (by kernel_rfl))
  f151 := Tryz.func146.trans (congrArg some (by kernel_rfl))
  f152 := Tryz.func191.trans (congrArg some (by kernel_rfl))
  f162 := Tryz.func124.trans (congrArg some (by kernel_rfl))
  f197 := Tryz.func101.trans (congrArg some (by kernel_rfl))
  f217 := Tryz.func118.trans (congrArg some (by kernel_rfl))
  f224 := Tryz.func223.trans (congrArg some (by kernel_rfl))
  f225 := Tryz.func222.trans (congrArg some (by kernel_rfl))
  f227 := Tryz.func87.trans (congrArg some (by kernel_rfl))
  f228 := Tryz.func145.trans (congrArg some (by kernel_rfl))
  f232 := Tryz.func115.trans (congrArg some (by kernel_rfl))
  f234 := Tryz.func116.trans (congrArg some (by kernel_rfl))
  f236 := Tryz.func117.trans (congrArg some (by kernel_rfl))
  f260 := Tryz.func152.trans (congrArg some (by kernel_rfl))
  f266 := Tryz.func175.trans (congrArg some (by kernel_rfl))
  f271 := Tryz.func174.trans (congrArg some (by kernel_rfl))
  t0 := Tryz.underlying0
  a0 := Tryz.isAgg0
  z0 := Tryz.sizeOf0
  v0 := Tryz.zeroValue0
  t3 := Tryz.underlying3
  a3 := Tryz.isAgg3
  z3 := Tryz.sizeOf3
  v3 := Tryz.zeroValue3
  t4 := Tryz.underlying4
  a4 := Tryz.isAgg4
  z4 := Tryz.sizeOf4
  v4 := Tryz.zeroValue4
  t5 := Tryz.underlying5
  a5 := Tryz.isAgg5
  z5 := Tryz.sizeOf5
  v5 := Tryz.zeroValue5
  t9 := Tryz.underlying9
  a9 := Tryz.isAgg9
  z9 := Tryz.sizeOf9
  v9 := Tryz.zeroValue9
  t21 := Tryz.underlying21
  a21 := Tryz.isAgg21
  z21 := Tryz.sizeOf21
  v21 := Tryz.zeroValue21
  t46 := Tryz.underlying167
  a46 := Tryz.isAgg167
  z46 := Tryz.sizeOf167
  v46 := Tryz.zeroValue167
  t105 := Tryz.underlying127
  a105 := Tryz.isAgg127
  z105 := Tryz.sizeOf127
  v105 := Tryz.zeroValue127
  t116 := Tryz.underlying109
  a116 := Tryz.isAgg109
  z116 := Tryz.sizeOf109
  t117 := Tryz.underlying110
  a117 := Tryz.isAgg110
  z117 := Tryz.sizeOf110
  v117 := Tryz.zeroValue110
  t119 := Tryz.underlying163
  a119 := Tryz.isAgg163
  z119 := Tryz.sizeOf163
  t124 := Tryz.underlying113
  a124 := Tryz.isAgg113
  z124 := Tryz.sizeOf113
  v124 := Tryz.zeroValue113
  t138 := Tryz.underlying165
  a138 := Tryz.isAgg165
  z138 := Tryz.sizeOf165
  v138 := Tryz.zeroValue165
  t139 := Tryz.underlying166
  a139 := Tryz.isAgg166
  z139 := Tryz.sizeOf166
  v139 := Tryz.zeroValue166
  g3 := by kernel_rfl
  g4 := by kernel_rfl }
open Go.RowKit in
/-- strings.TrimRight: "TrimRight returns a slice of the string s, with all trailing Unicode code points contained in cutset removed.": AT A cutset OF ONE ASCII BYTE. The world is as it was. (LAID: no walk: one application.) -/
theorem Tryz.strings_TrimRight_one (s : ByteArray) (c : UInt8) (hc : c.toNat < 128) (w : World) (hs : s.size ≤ 9223372036854775807) :
    Calls Tryz.prog 124 #[.string s, .string ⟨#[c]⟩] w fun e w' => e = .returned (.string ⟨(Lib.trimRightB s.data.toList c).toArray⟩) ∧ w' = w := Any.strings_TrimRight_one Tryz.lays162 s c hc w hs
def Tryz.lays160_ren : Go.Shelf.Ren := ⟨fun | 160 => 65 | 232 => 115 | 231 => 86 | 227 => 87 | 234 => 116 | 233 => 88 | 236 => 117 | 235 => 89 | 228 => 145 | 271 => 174 | 151 => 146 | 197 => 101 | 120 => 221 | 152 => 191 | 260 => 152 | 137 => 66 | 119 => 233 | 224 => 223 | 225 => 222 | 217 => 118 | 266 => 175 | n => n, fun | 9 => 9 | 4 => 4 | 3 => 3 | 5 => 5 | 117 => 110 | 116 => 109 | 0 => 0 | 124 => 113 | 21 => 21 | 105 => 127 | 46 => 167 | 119 => 163 | 139 => 166 | 138 => 165 | n => n, fun | 3 => 0 | 4 => 1 | n => n⟩
theorem Tryz.lays160 : Go.Proofs.Lays.n160 Tryz.prog Tryz.lays160_ren := {
  mixed := by kernel_rfl
  f119 := Tryz.func233.trans (congrArg some (by kernel_rfl))
  f120 := Tryz.func221.trans (congrArg some (by kernel_rfl))
  f137 := Tryz.func66.trans (congrArg some (by kernel_rfl))
  f151 := Tryz.func146.trans (congrArg some (by kernel_rfl))
  f152 := Tryz.func191.trans (congrArg some (by kernel_rfl))
  f160 := Tryz.func65.trans (congrArg some (by kernel_rfl))
  f197 := Tryz.func101.trans (congrArg some (by kernel_rfl))
  f217 := Tryz.func118.trans (congrArg some (by kernel_rfl))
  f224 := Tryz.func223.trans (congrArg some (by kernel_rfl))
  f225 := Tryz.func222.trans (congrArg some (by kernel_rfl))
  f227 := Tryz.func87.trans (congrArg some (by kernel_rfl))
  f228 := Tryz.func145.trans (congrArg some (by kernel_rfl))
  f231 := Tryz.func86.trans (congrArg some (by kernel_rfl))
  f232 := Tryz.func115.trans (congrArg some (by kernel_rfl))
  f233 := Tryz.func88.trans (congrArg some (by kernel_rfl))
  f234 := Tryz.func116.trans (congrArg some (by kernel_rfl))
  f235 := Tryz.func89.trans (congrArg some (by kernel_rfl))
  f236 := Tryz.func117.trans (congrArg some (by kernel_rfl))
  f260 := Tryz.func152.trans (congrArg some (by kernel_rfl))
  f266 := Tryz.func175.trans (congrArg some (by kernel_rfl))
  f271 := Tryz.func174.trans (congrArg some (by kernel_rfl))
  t0 := Tryz.underlying0
  a0 := Tryz.isAgg0
  z0 := Tryz.sizeOf0
  v0 := Tryz.zeroValue0
  t3 := Tryz.underlying3
  a3 := Tryz.isAgg3
  z3 := Tryz.sizeOf3
  v3 := Tryz.zeroValue3
  t4 := Tryz.underlying4
  a4 := Tryz.isAgg4
  z4 := Tryz.sizeOf4
  v4 := Tryz.zeroValue4
  t5 := Tryz.underlying5
  a5 := Tryz.isAgg5
  z5 := Tryz.sizeOf5
  v5 := Tryz.zeroValue5
  t9 := Tryz.underlying9
  a9 := Tryz.isAgg9
  z9 := Tryz.sizeOf9
  v9 := Tryz.zeroValue9
  t21 := Tryz.underlying21
  a21 := Tryz.isAgg21
  z21 := Tryz.sizeOf21
  v21 := Tryz.zeroValue21
  t46 := Tryz.underlying167
  a46 := Tryz.isAgg167
  z46 := Tryz.sizeOf167
  v46 := Tryz.zeroValue167
  t105 := Tryz.underlying127
  a105 := Tryz.isAgg127
  z105 := Tryz.sizeOf127
  v105 := Tryz.zeroValue127
  t116 := Tryz.underlying109
  a116 := Tryz.isAgg109
  z116 := Tryz.sizeOf109
  t117 := Tryz.underlying110
  a117 := Tryz.isAgg110
  z117 := Tryz.sizeOf110
  v117 := Tryz.zeroValue110
  t119 := Tryz.underlying163
  a119 := Tryz.isAgg163
  z119 := Tryz.sizeOf163
  t124 := Tryz.underlying113
  a124 := Tryz.isAgg113
  z124 := Tryz.sizeOf113
  v124 := Tryz.zeroValue113
  t138 := Tryz.underlying165
  a138 := Tryz.isAgg165
  z138 := Tryz.sizeOf165
  v138 := Tryz.zeroValue165
  t139 := Tryz.underlying166
  a139 := Tryz.isAgg166
  z139 := Tryz.sizeOf166
  v139 := Tryz.zeroValue166
  g3 := by kernel_rfl
  g4 := by kernel_rfl }
open Go.RowKit in
/-- strings.Trim: "Trim returns a slice of the string s with all leading and trailing Unicode code points contained in cutset removed.": AT A cutset OF ONE ASCII BYTE. THE WORLD BEHIND IT: as it was, or (where s is not empty) with ONE DRAW MORE off the tape: the statement 'return trimLeftByte(trimRightByte(s, c), c)' draws its order of evaluation. (LAID: no walk: one application.) -/
theorem Tryz.strings_Trim_one (s : ByteArray) (c : UInt8) (hc : c.toNat < 128) (w : World) (hs : s.size ≤ 9223372036854775807) :
    Calls Tryz.prog 65 #[.string s, .string ⟨#[c]⟩] w fun e w' => e = .returned (.string ⟨(Lib.trimB s.data.toList c).toArray⟩) ∧ (w' = w ∨ w' = w.drew) := Any.strings_Trim_one Tryz.lays160 s c hc w hs
def Tryz.lays137_ren : Go.Shelf.Ren := ⟨fun | 137 => 66 | 217 => 118 | 266 => 175 | n => n, fun | 9 => 9 | 5 => 5 | 3 => 3 | n => n, fun | n => n⟩
theorem Tryz.lays137 : Go.Proofs.Lays.n137 Tryz.prog Tryz.lays137_ren := {
  mixed := by kernel_rfl
  f137 := Tryz.func66.trans (congrArg some (by kernel_rfl))
  f217 := Tryz.func118.trans (congrArg some (by kernel_rfl))
  f266 := Tryz.func175.trans (congrArg some (by kernel_rfl))
  t3 := Tryz.underlying3
  a3 := Tryz.isAgg3
  z3 := Tryz.sizeOf3
  v3 := Tryz.zeroValue3
  t5 := Tryz.underlying5
  a5 := Tryz.isAgg5
  z5 := Tryz.sizeOf5
  v5 := Tryz.zeroValue5
  t9 := Tryz.underlying9
  a9 := Tryz.isAgg9
  z9 := Tryz.sizeOf9
  v9 := Tryz.zeroValue9 }
open Go.RowKit in
/-- strings.IndexByte: "IndexByte returns the index of the first instance of c in s, or -1 if c is not present in s.": IT RETURNS 'Lib.indexByte s c'; the world is as it was. (LAID: no walk: one application.) -/
theorem Tryz.strings_IndexByte (s : ByteArray) (c : Int) (w : World) :
    Calls Tryz.prog 66 #[.string s, .int .u8 c] w fun e w' => e = .returned (.int .i64 (Lib.indexByte s.data.toList c.toNat.toUInt8)) ∧ w' = w := Any.strings_IndexByte Tryz.lays137 s c w
def Tryz.lays103_ren : Go.Shelf.Ren := ⟨fun | 103 => 177 | 210 => 225 | 206 => 119 | n => n, fun | 9 => 9 | 4 => 4 | 24 => 39 | 3 => 3 | n => n, fun | n => n⟩
theorem Tryz.lays103 : Go.Proofs.Lays.n103 Tryz.prog Tryz.lays103_ren := {
  mixed := by kernel_rfl
  f103 := Tryz.func177.trans (congrArg some (by kernel_rfl))
  f206 := Tryz.func119.trans (congrArg some (by kernel_rfl))
  f210 := Tryz.func225.trans (congrArg some (by kernel_rfl))
  t3 := Tryz.underlying3
  a3 := Tryz.isAgg3
  z3 := Tryz.sizeOf3
  v3 := Tryz.zeroValue3
  t4 := Tryz.underlying4
  a4 := Tryz.isAgg4
  z4 := Tryz.sizeOf4
  v4 := Tryz.zeroValue4
  t9 := Tryz.underlying9
  a9 := Tryz.isAgg9
  z9 := Tryz.sizeOf9
  v9 := Tryz.zeroValue9
  t24 := Tryz.underlying39
  a24 := Tryz.isAgg39
  z24 := Tryz.sizeOf39
  v24 := Tryz.zeroValue39 }
open Go.RowKit in
/-- strings.CutPrefix: "CutPrefix returns s without the provided leading prefix string and reports whether it found the prefix. If s doesn't start with prefix, CutPrefix returns s, false. If prefix is the empty string, CutPrefix returns s, true.": IT RETURNS '(Lib.trimPrefix s p, Lib.hasPrefix s p)'; the world is as it was. (LAID: no walk: one application.) -/
theorem Tryz.strings_CutPrefix (s p : ByteArray) (w : World) :
    Calls Tryz.prog 177 #[.string s, .string p] w fun e w' => e = .returned (.tuple #[.string ⟨(Lib.trimPrefix s.data.toList p.data.toList).toArray⟩, .bool (Lib.hasPrefix s.data.toList p.data.toList)]) ∧ w' = w := Any.strings_CutPrefix Tryz.lays103 s p w
open Go.RowKit in
/-- (*strings.Builder).String: "String returns the accumulated string.": WHATEVER THE BUILDER HOLDS; THE FORM '_k': OVER 'Lib.IsBuilderF' (a builder that 'String()' may have read), AND WITH THE FRAME THAT REACHES ABOVE THE BUILDER: 'Lib.OthersKept': every block that is not b and is no row of uint8's stands as it stood: the iterator of a range among them. (LAID: no walk: one application.) -/
theorem Tryz.Builder_String_any_k (B b : Nat) (l : List UInt8) (w : World) (h : Lib.IsBuilderF 116 5 B b (Lib.byteCells l) w) (hBw : B ≤ w.heap.size) :
    Calls Tryz.prog 92 #[.pointer (some ⟨b, 0, none⟩)] w fun e w' => e = .returned (.string ⟨l.toArray⟩) ∧ (Lib.IsBuilderF 116 5 B b (Lib.byteCells l) w' ∧ Below B w w' ∧ Lib.OthersKept 5 (some b) w w') := Any.Builder_String_any_k Tryz.lays169 Tryz.Builder_Extra_169 B b l w h hBw
def Tryz.laysM171_ren : Go.Shelf.Ren := ⟨fun | 171 => 126 | 243 => 181 | 246 => 197 | 283 => 238 | 284 => 239 | 285 => 240 | 286 => 241 | 129 => 266 | 317 => 265 | 318 => 267 | 319 => 268 | 320 => 269 | 337 => 286 | 338 => 287 | n => n, fun | 3 => 3 | 9 => 9 | 2 => 2 | 4 => 4 | 171 => 233 | 0 => 0 | 53 => 209 | 37 => 84 | 5 => 5 | 173 => 236 | 212 => 259 | 51 => 232 | 20 => 20 | 213 => 260 | 46 => 167 | 232 => 279 | 233 => 280 | n => n, fun | 17 => 3 | 18 => 6 | 19 => 7 | n => n⟩
theorem Tryz.laysM171 : Go.Proofs.LaysM.n171 Tryz.prog Tryz.laysM171_ren := {
  mixed := by kernel_rfl
  f129 := Tryz.func266.trans (congrArg some (by kernel_rfl))
  f171 := Tryz.func126.trans (congrArg some (by kernel_rfl))
  f243 := Tryz.func181.trans (congrArg some (by kernel_rfl))
  f246 := Tryz.func197.trans (congrArg some (by kernel_rfl))
  f283 := Tryz.func238.trans (congrArg some (by kernel_rfl))
  f284 := Tryz.func239.trans (congrArg some (by kernel_rfl))
  f285 := Tryz.func240.trans (congrArg some (by kernel_rfl))
  f286 := Tryz.func241.trans (congrArg some (by kernel_rfl))
  f317 := Tryz.func265.trans (congrArg some (by kernel_rfl))
  f318 := Tryz.func267.trans (congrArg some (by kernel_rfl))
  f319 := Tryz.func268.trans (congrArg some (by kernel_rfl))
  f320 := Tryz.func269.trans (congrArg some (by kernel_rfl))
  f337 := Tryz.func286.trans (congrArg some (by kernel_rfl))
  f338 := Tryz.func287.trans (congrArg some (by kernel_rfl))
  t0 := Tryz.underlying0
  a0 := Tryz.isAgg0
  z0 := Tryz.sizeOf0
  v0 := Tryz.zeroValue0
  t2 := Tryz.underlying2
  a2 := Tryz.isAgg2
  z2 := Tryz.sizeOf2
  v2 := Tryz.zeroValue2
  t3 := Tryz.underlying3
  a3 := Tryz.isAgg3
  z3 := Tryz.sizeOf3
  v3 := Tryz.zeroValue3
  t4 := Tryz.underlying4
  a4 := Tryz.isAgg4
  z4 := Tryz.sizeOf4
  v4 := Tryz.zeroValue4
  t5 := Tryz.underlying5
  a5 := Tryz.isAgg5
  z5 := Tryz.sizeOf5
  v5 := Tryz.zeroValue5
  t9 := Tryz.underlying9
  a9 := Tryz.isAgg9
  z9 := Tryz.sizeOf9
  v9 := Tryz.zeroValue9
  t20 := Tryz.underlying20
  a20 := Tryz.isAgg20
  z20 := Tryz.sizeOf20
  v20 := Tryz.zeroValue20
  t37 := Tryz.underlying84
  a37 := Tryz.isAgg84
  z37 := Tryz.sizeOf84
  v37 := Tryz.zeroValue84
  t46 := Tryz.underlying167
  a46 := Tryz.isAgg167
  z46 := Tryz.sizeOf167
  v46 := Tryz.zeroValue167
  t51 := Tryz.underlying232
  a51 := Tryz.isAgg232
  z51 := Tryz.sizeOf232
  v51 := Tryz.zeroValue232
  t53 := Tryz.underlying209
  a53 := Tryz.isAgg209
  z53 := Tryz.sizeOf209
  v53 := Tryz.zeroValue209
  t171 := Tryz.underlying233
  a171 := Tryz.isAgg233
  z171 := Tryz.sizeOf233
  v171 := Tryz.zeroValue233
  t173 := Tryz.underlying236
  a173 := Tryz.isAgg236
  z173 := Tryz.sizeOf236
  v173 := Tryz.zeroValue236
  t212 := Tryz.underlying259
  a212 := Tryz.isAgg259
  z212 := Tryz.sizeOf259
  v212 := Tryz.zeroValue259
  t213 := Tryz.underlying260
  a213 := Tryz.isAgg260
  z213 := Tryz.sizeOf260
  t232 := Tryz.underlying279
  a232 := Tryz.isAgg279
  z232 := Tryz.sizeOf279
  v232 := Tryz.zeroValue279
  t233 := Tryz.underlying280
  a233 := Tryz.isAgg280
  z233 := Tryz.sizeOf280
  v233 := Tryz.zeroValue280
  g17 := by kernel_rfl
  g18 := by kernel_rfl
  g19 := by kernel_rfl
  i0 := by kernel_rfl
  i2 := by kernel_rfl
  i3 := by kernel_rfl
  i4 := by kernel_rfl
  i5 := by kernel_rfl
  i9 := by kernel_rfl
  i20 := by kernel_rfl
  i37 := by kernel_rfl
  i46 := by kernel_rfl
  i51 := by kernel_rfl
  i53 := by kernel_rfl
  i171 := by kernel_rfl
  i173 := by kernel_rfl
  i212 := by kernel_rfl
  i232 := by kernel_rfl
  i233 := by kernel_rfl
  m17 := by kernel_rfl
  m18 := by kernel_rfl
  m19 := by kernel_rfl }
open Go.RowKit Go.Sort Go.Lib in
/-- strconv.Itoa: "Itoa is equivalent to FormatInt(int64(i), 10).": i's DECIMAL NUMERAL ('Lib.itoa': a '-' where i is negative, then the digits), FOR EVERY int. The world behind the call: the world before it, new blocks behind the heap (the library's 'var a [24]byte'), draws. (LAID: no walk: one application.) -/
theorem Tryz.strconv_Itoa (n : Int) (h0 : -9223372036854775808 ≤ n) (h1 : n ≤ 9223372036854775807) (w : World) (htab : Lib.TabIs Tryz.prog w "internal/strconv.uint64pow10" .u64 Lib.pow10Tab) :
    Calls Tryz.prog 126 #[.int .i64 n] w fun e w' => e = .returned (.string ⟨(Lib.itoa n).toArray⟩) ∧ ∃ k os, w' = grow (w.drewN k) os := Any.strconv_Itoa Tryz.laysM171 n h0 h1 w htab
def Tryz.lays144_ren : Go.Shelf.Ren := ⟨fun | 144 => 69 | 143 => 121 | 219 => 176 | 217 => 118 | 225 => 222 | 224 => 223 | 267 => 224 | 266 => 175 | 314 => 252 | n => n, fun | 9 => 9 | 4 => 4 | 3 => 3 | 5 => 5 | 46 => 167 | 146 => 238 | 51 => 232 | n => n, fun | 1 => 2 | n => n⟩
theorem Tryz.lays144 : Go.Proofs.Lays.n144 Tryz.prog Tryz.lays144_ren := {
  mixed := by kernel_rfl
  f143 := Tryz.func121.trans (congrArg some (by kernel_rfl))
  f144 := Tryz.func69.trans (congrArg some (by kernel_rfl))
  f217 := Tryz.func118.trans (congrArg some (by kernel_rfl))
  f219 := Tryz.func176.trans (congrArg some (by kernel_rfl))
  f224 := Tryz.func223.trans (congrArg some (by kernel_rfl))
  f225 := Tryz.func222.trans (congrArg some (by kernel_rfl))
  f266 := Tryz.func175.trans (congrArg some (by kernel_rfl))
  f267 := Tryz.func224.trans (congrArg some (by kernel_rfl))
  f314 := Tryz.func252.trans (congrArg some (by kernel_rfl))
  t3 := Tryz.underlying3
  a3 := Tryz.isAgg3
  z3 := Tryz.sizeOf3
  v3 := Tryz.zeroValue3
  t4 := Tryz.underlying4
  a4 := Tryz.isAgg4
  z4 := Tryz.sizeOf4
  v4 := Tryz.zeroValue4
  t5 := Tryz.underlying5
  a5 := Tryz.isAgg5
  z5 := Tryz.sizeOf5
  v5 := Tryz.zeroValue5
  t9 := Tryz.underlying9
  a9 := Tryz.isAgg9
  z9 := Tryz.sizeOf9
  v9 := Tryz.zeroValue9
  t46 := Tryz.underlying167
  a46 := Tryz.isAgg167
  z46 := Tryz.sizeOf167
  v46 := Tryz.zeroValue167
  t51 := Tryz.underlying232
  a51 := Tryz.isAgg232
  z51 := Tryz.sizeOf232
  v51 := Tryz.zeroValue232
  t146 := Tryz.underlying238
  a146 := Tryz.isAgg238
  z146 := Tryz.sizeOf238
  v146 := Tryz.zeroValue238
  g1 := by kernel_rfl }
open Go.RowKit Go.Lib in
/-- strings.Contains: "Contains reports whether substr is within s.": IT RETURNS 'Lib.contains s substr'; the world is as it was. (LAID: no walk: one application.) -/
theorem Tryz.strings_Contains (s sub : ByteArray) (m : Int) (w : World) (hs : s.size < 4294967281) (hm : w.cell? ⟨2, 0, none⟩ = some (.int .i64 m)) :
    Calls Tryz.prog 69 #[.string s, .string sub] w fun e w' => e = .returned (.bool (Lib.contains s.data.toList sub.data.toList)) ∧ w' = w := Any.strings_Contains Tryz.lays144 s sub m w hs hm
def Tryz.lays99_ren : Go.Shelf.Ren := ⟨fun | 99 => 67 | 206 => 119 | n => n, fun | 9 => 9 | 4 => 4 | 3 => 3 | n => n, fun | n => n⟩
theorem Tryz.lays99 : Go.Proofs.Lays.n99 Tryz.prog Tryz.lays99_ren := {
  mixed := by kernel_rfl
  f99 := Tryz.func67.trans (congrArg some (by kernel_rfl))
  f206 := Tryz.func119.trans (congrArg some (by kernel_rfl))
  t3 := Tryz.underlying3
  a3 := Tryz.isAgg3
  z3 := Tryz.sizeOf3
  v3 := Tryz.zeroValue3
  t4 := Tryz.underlying4
  a4 := Tryz.isAgg4
  z4 := Tryz.sizeOf4
  v4 := Tryz.zeroValue4
  t9 := Tryz.underlying9
  a9 := Tryz.isAgg9
  z9 := Tryz.sizeOf9
  v9 := Tryz.zeroValue9 }
open Go.RowKit Go.Lib in
/-- strings.HasPrefix: "HasPrefix reports whether the string s begins with prefix.": IT RETURNS 'Lib.hasPrefix s prefix'; the world is as it was. (LAID: no walk: one application.) -/
theorem Tryz.strings_HasPrefix (s p : ByteArray) (w : World) :
    Calls Tryz.prog 67 #[.string s, .string p] w fun e w' => e = .returned (.bool (Lib.hasPrefix s.data.toList p.data.toList)) ∧ w' = w := Any.strings_HasPrefix Tryz.lays99 s p w
def Tryz.lays100_ren : Go.Shelf.Ren := ⟨fun | 100 => 68 | 207 => 120 | n => n, fun | 9 => 9 | 4 => 4 | 3 => 3 | n => n, fun | n => n⟩
theorem Tryz.lays100 : Go.Proofs.Lays.n100 Tryz.prog Tryz.lays100_ren := {
  mixed := by kernel_rfl
  f100 := Tryz.func68.trans (congrArg some (by kernel_rfl))
  f207 := Tryz.func120.trans (congrArg some (by kernel_rfl))
  t3 := Tryz.underlying3
  a3 := Tryz.isAgg3
  z3 := Tryz.sizeOf3
  v3 := Tryz.zeroValue3
  t4 := Tryz.underlying4
  a4 := Tryz.isAgg4
  z4 := Tryz.sizeOf4
  v4 := Tryz.zeroValue4
  t9 := Tryz.underlying9
  a9 := Tryz.isAgg9
  z9 := Tryz.sizeOf9
  v9 := Tryz.zeroValue9 }
open Go.RowKit Go.Lib in
/-- strings.HasSuffix: "HasSuffix reports whether the string s ends with suffix.": IT RETURNS 'Lib.hasSuffix s suffix'; the world is as it was. ('hs': no Go string is longer: a caller has it of every string that it was handed.) (LAID: no walk: one application.) -/
theorem Tryz.strings_HasSuffix (s p : ByteArray) (w : World) (hs : s.size ≤ 9223372036854775807) :
    Calls Tryz.prog 68 #[.string s, .string p] w fun e w' => e = .returned (.bool (Lib.hasSuffix s.data.toList p.data.toList)) ∧ w' = w := Any.strings_HasSuffix Tryz.lays100 s p w hs
def Tryz.lays101_ren : Go.Shelf.Ren := ⟨fun | 101 => 179 | 208 => 226 | 206 => 119 | n => n, fun | 9 => 9 | 4 => 4 | 3 => 3 | n => n, fun | n => n⟩
theorem Tryz.lays101 : Go.Proofs.Lays.n101 Tryz.prog Tryz.lays101_ren := {
  mixed := by kernel_rfl
  f101 := Tryz.func179.trans (congrArg some (by kernel_rfl))
  f206 := Tryz.func119.trans (congrArg some (by kernel_rfl))
  f208 := Tryz.func226.trans (congrArg some (by kernel_rfl))
  t3 := Tryz.underlying3
  a3 := Tryz.isAgg3
  z3 := Tryz.sizeOf3
  v3 := Tryz.zeroValue3
  t4 := Tryz.underlying4
  a4 := Tryz.isAgg4
  z4 := Tryz.sizeOf4
  v4 := Tryz.zeroValue4
  t9 := Tryz.underlying9
  a9 := Tryz.isAgg9
  z9 := Tryz.sizeOf9
  v9 := Tryz.zeroValue9 }
open Go.RowKit Go.Lib in
/-- strings.TrimPrefix: "TrimPrefix returns s without the provided leading prefix string. If s doesn't start with prefix, s is returned unchanged.": IT RETURNS 'Lib.trimPrefix s prefix'; the world is as it was. (LAID: no walk: one application.) -/
theorem Tryz.strings_TrimPrefix (s p : ByteArray) (w : World) :
    Calls Tryz.prog 179 #[.string s, .string p] w fun e w' => e = .returned (.string ⟨(Lib.trimPrefix s.data.toList p.data.toList).toArray⟩) ∧ w' = w := Any.strings_TrimPrefix Tryz.lays101 s p w
def Tryz.lays155_ren : Go.Shelf.Ren := ⟨fun | 155 => 153 | 154 => 195 | 138 => 236 | 165 => 90 | 143 => 121 | 166 => 91 | 197 => 101 | 169 => 92 | 195 => 263 | 218 => 264 | 240 => 147 | 241 => 148 | 219 => 176 | 260 => 152 | 276 => 192 | 277 => 193 | 217 => 118 | 225 => 222 | 224 => 223 | 267 => 224 | 266 => 175 | 314 => 252 | n => n, fun | 9 => 9 | 3 => 3 | 4 => 4 | 72 => 116 | 0 => 0 | 76 => 120 | 105 => 127 | 21 => 21 | 5 => 5 | 70 => 114 | 20 => 20 | 37 => 84 | 75 => 119 | 127 => 159 | 164 => 204 | 46 => 167 | 119 => 163 | 139 => 166 | 138 => 165 | 146 => 238 | 51 => 232 | 80 => 122 | n => n, fun | 1 => 2 | 3 => 0 | 4 => 1 | n => n⟩
theorem Tryz.lays155 : Go.Proofs.Lays.n155 Tryz.prog Tryz.lays155_ren := {
  mixed := by kernel_rfl
  f138 := Tryz.func236.trans (congrArg some (by kernel_rfl))
  f143 := Tryz.func121.trans (congrArg some (by kernel_rfl))
  f154 := Tryz.func195.trans (congrArg some (by kernel_rfl))
  f155 := Tryz.func153.trans (congrArg some (by kernel_rfl))
  f165 := Tryz.func90.trans (congrArg some (by kernel_rfl))
  f166 := Tryz.func91.trans (congrArg some (by kernel_rfl))
  f169 := Tryz.func92.trans (congrArg some (by kernel_rfl))
  f195 := Tryz.func263.trans (congrArg some (by kernel_rfl))
  f197 := Tryz.func101.trans (congrArg some (by kernel_rfl))
  f217 := Tryz.func118.trans (congrArg some (by kernel_rfl))
  f218 := Tryz.func264.trans (congrArg some (by kernel_rfl))
  f219 := Tryz.func176.trans (congrArg some (by kernel_rfl))
  f224 := Tryz.func223.trans (congrArg some (by kernel_rfl))
  f225 := Tryz.func222.trans (congrArg some (by kernel_rfl))
  f240 := Tryz.func147.trans (congrArg some (by kernel_rfl))
  f241 := Tryz.func148.trans (congrArg some (by kernel_rfl))
  f260 := Tryz.func152.trans (congrArg some (by kernel_rfl))
  f266 := Tryz.func175.trans (congrArg some (by kernel_rfl))
  f267 := Tryz.func224.trans (congrArg some (by kernel_rfl))
  f276 := Tryz.func192.trans (congrArg some (by kernel_rfl))
  f277 := Tryz.func193.trans (congrArg some (by kernel_rfl))
  f314 := Tryz.func252.trans (congrArg some (by kernel_rfl))
  t0 := Tryz.underlying0
  a0 := Tryz.isAgg0
  z0 := Tryz.sizeOf0
  v0 := Tryz.zeroValue0
  t3 := Tryz.underlying3
  a3 := Tryz.isAgg3
  z3 := Tryz.sizeOf3
  v3 := Tryz.zeroValue3
  t4 := Tryz.underlying4
  a4 := Tryz.isAgg4
  z4 := Tryz.sizeOf4
  v4 := Tryz.zeroValue4
  t5 := Tryz.underlying5
  a5 := Tryz.isAgg5
  z5 := Tryz.sizeOf5
  v5 := Tryz.zeroValue5
  t9 := Tryz.underlying9
  a9 := Tryz.isAgg9
  z9 := Tryz.sizeOf9
  v9 := Tryz.zeroValue9
  t20 := Tryz.underlying20
  a20 := Tryz.isAgg20
  z20 := Tryz.sizeOf20
  v20 := Tryz.zeroValue20
  t21 := Tryz.underlying21
  a21 := Tryz.isAgg21
  z21 := Tryz.sizeOf21
  v21 := Tryz.zeroValue21
  t37 := Tryz.underlying84
  a37 := Tryz.isAgg84
  z37 := Tryz.sizeOf84
  v37 := Tryz.zeroValue84
  t46 := Tryz.underlying167
  a46 := Tryz.isAgg167
  z46 := Tryz.sizeOf167
  v46 := Tryz.zeroValue167
  t51 := Tryz.underlying232
  a51 := Tryz.isAgg232
  z51 := Tryz.sizeOf232
  v51 := Tryz.zeroValue232
  t70 := Tryz.underlying114
  a70 := Tryz.isAgg114
  z70 := Tryz.sizeOf114
  v70 := Tryz.zeroValue114
  t72 := Tryz.underlying116
  a72 := Tryz.isAgg116
  z72 := Tryz.sizeOf116
  v72 := Tryz.zeroValue116
  t75 := Tryz.underlying119
  a75 := Tryz.isAgg119
  z75 := Tryz.sizeOf119
  v75 := Tryz.zeroValue119
  t76 := Tryz.underlying120
  a76 := Tryz.isAgg120
  z76 := Tryz.sizeOf120
  v76 := Tryz.zeroValue120
  t105 := Tryz.underlying127
  a105 := Tryz.isAgg127
  z105 := Tryz.sizeOf127
  v105 := Tryz.zeroValue127
  t119 := Tryz.underlying163
  a119 := Tryz.isAgg163
  z119 := Tryz.sizeOf163
  t127 := Tryz.underlying159
  a127 := Tryz.isAgg159
  z127 := Tryz.sizeOf159
  v127 := Tryz.zeroValue159
  t138 := Tryz.underlying165
  a138 := Tryz.isAgg165
  z138 := Tryz.sizeOf165
  v138 := Tryz.zeroValue165
  t139 := Tryz.underlying166
  a139 := Tryz.isAgg166
  z139 := Tryz.sizeOf166
  v139 := Tryz.zeroValue166
  t146 := Tryz.underlying238
  a146 := Tryz.isAgg238
  z146 := Tryz.sizeOf238
  v146 := Tryz.zeroValue238
  t164 := Tryz.underlying204
  a164 := Tryz.isAgg204
  z164 := Tryz.sizeOf204
  v164 := Tryz.zeroValue204
  g1 := by kernel_rfl
  g3 := by kernel_rfl
  g4 := by kernel_rfl }
theorem Tryz.Builder_Extra_155 : Builder.Extra Tryz.prog Tryz.lays155_ren := {
  sizeBuilder := by kernel_rfl
  liesBuilder := by kernel_rfl
  t5 := Tryz.underlying5
  a5 := Tryz.isAgg5
  z5 := Tryz.sizeOf5
  v5 := Tryz.zeroValue5
  infoByte := by kernel_rfl
  cellsByte := by kernel_rfl
  sizeByte := by kernel_rfl
  neB5 := by decide }
open Go.RowKit Go.Lib in
/-- strings.ReplaceAll: "ReplaceAll returns a copy of the string s with all non-overlapping instances of old replaced by new.": AT AN old THAT IS NOT EMPTY: 'Lib.replaceAll s old new'. (LAID: no walk: one application.) -/
theorem Tryz.strings_ReplaceAll (s old new : ByteArray) (m : Int) (w : World) (hs : s.size < 4294967281) (hm : w.cell? ⟨2, 0, none⟩ = some (.int .i64 m)) (h1 : 1 ≤ old.size) (hlen : s.size + Lib.countB s old * new.size ≤ 140737488355328) :
    Calls Tryz.prog 153 #[.string s, .string old, .string new] w fun e w' =>
      e = .returned (.string ⟨(Lib.replaceAll s.data.toList old.data.toList new.data.toList).toArray⟩) ∧ Below w.heap.size w w' := Any.strings_ReplaceAll Tryz.lays155 Tryz.Builder_Extra_155 s old new m w hs hm h1 hlen
def Tryz.lays197_ren : Go.Shelf.Ren := ⟨fun | 197 => 101 | 260 => 152 | n => n, fun | 9 => 9 | 21 => 21 | 3 => 3 | 4 => 4 | 5 => 5 | 105 => 127 | 119 => 163 | 0 => 0 | 46 => 167 | 139 => 166 | 138 => 165 | n => n, fun | 3 => 0 | 4 => 1 | n => n⟩
theorem Tryz.lays197 : Go.Proofs.Lays.n197 Tryz.prog Tryz.lays197_ren := {
  mixed := by kernel_rfl
  f197 := Tryz.func101.trans (congrArg some (by kernel_rfl))
  f260 := Tryz.func152.trans (congrArg some (by kernel_rfl))
  t0 := Tryz.underlying0
  a0 := Tryz.isAgg0
  z0 := Tryz.sizeOf0
  v0 := Tryz.zeroValue0
  t3 := Tryz.underlying3
  a3 := Tryz.isAgg3
  z3 := Tryz.sizeOf3
  v3 := Tryz.zeroValue3
  t4 := Tryz.underlying4
  a4 := Tryz.isAgg4
  z4 := Tryz.sizeOf4
  v4 := Tryz.zeroValue4
  t5 := Tryz.underlying5
  a5 := Tryz.isAgg5
  z5 := Tryz.sizeOf5
  v5 := Tryz.zeroValue5
  t9 := Tryz.underlying9
  a9 := Tryz.isAgg9
  z9 := Tryz.sizeOf9
  v9 := Tryz.zeroValue9
  t21 := Tryz.underlying21
  a21 := Tryz.isAgg21
  z21 := Tryz.sizeOf21
  v21 := Tryz.zeroValue21
  t46 := Tryz.underlying167
  a46 := Tryz.isAgg167
  z46 := Tryz.sizeOf167
  v46 := Tryz.zeroValue167
  t105 := Tryz.underlying127
  a105 := Tryz.isAgg127
  z105 := Tryz.sizeOf127
  v105 := Tryz.zeroValue127
  t119 := Tryz.underlying163
  a119 := Tryz.isAgg163
  z119 := Tryz.sizeOf163
  t138 := Tryz.underlying165
  a138 := Tryz.isAgg165
  z138 := Tryz.sizeOf165
  v138 := Tryz.zeroValue165
  t139 := Tryz.underlying166
  a139 := Tryz.isAgg166
  z139 := Tryz.sizeOf166
  v139 := Tryz.zeroValue166
  g3 := by kernel_rfl
  g4 := by kernel_rfl }
def Tryz.lays105_ren : Go.Shelf.Ren := ⟨fun | 105 => 159 | 212 => 198 | 99 => 67 | 165 => 90 | 166 => 91 | 170 => 199 | 169 => 92 | 263 => 242 | 264 => 243 | 206 => 119 | 240 => 147 | 241 => 148 | 276 => 192 | 277 => 193 | n => n, fun | 9 => 9 | 3 => 3 | 4 => 4 | 20 => 20 | 0 => 0 | 46 => 167 | 109 => 212 | 5 => 5 | 72 => 116 | 76 => 120 | 51 => 232 | 146 => 238 | 53 => 209 | 148 => 240 | 70 => 114 | 37 => 84 | 75 => 119 | 127 => 159 | 164 => 204 | 80 => 122 | n => n, fun | n => n⟩
theorem Tryz.lays105 : Go.Proofs.Lays.n105 Tryz.prog Tryz.lays105_ren := {
  mixed := by kernel_rfl
  f99 := Tryz.func67.trans (congrArg some (by kernel_rfl))
  f105 := Tryz.func159.trans (congrArg some (by kernel_rfl))
  f165 := Tryz.func90.trans (congrArg some (by kernel_rfl))
  f166 := Tryz.func91.trans (congrArg some (by kernel_rfl))
  f169 := Tryz.func92.trans (congrArg some (by kernel_rfl))
  f170 := Tryz.func199.trans (congrArg some (by kernel_rfl))
  f206 := Tryz.func119.trans (congrArg some (by kernel_rfl))
  f212 := Tryz.func198.trans (congrArg some (by kernel_rfl))
  f240 := Tryz.func147.trans (congrArg some (by kernel_rfl))
  f241 := Tryz.func148.trans (congrArg some (by kernel_rfl))
  f263 := Tryz.func242.trans (congrArg some (by kernel_rfl))
  f264 := Tryz.func243.trans (congrArg some (by kernel_rfl))
  f276 := Tryz.func192.trans (congrArg some (by kernel_rfl))
  f277 := Tryz.func193.trans (congrArg some (by kernel_rfl))
  t0 := Tryz.underlying0
  a0 := Tryz.isAgg0
  z0 := Tryz.sizeOf0
  v0 := Tryz.zeroValue0
  t3 := Tryz.underlying3
  a3 := Tryz.isAgg3
  z3 := Tryz.sizeOf3
  v3 := Tryz.zeroValue3
  t4 := Tryz.underlying4
  a4 := Tryz.isAgg4
  z4 := Tryz.sizeOf4
  v4 := Tryz.zeroValue4
  t5 := Tryz.underlying5
  a5 := Tryz.isAgg5
  z5 := Tryz.sizeOf5
  v5 := Tryz.zeroValue5
  t9 := Tryz.underlying9
  a9 := Tryz.isAgg9
  z9 := Tryz.sizeOf9
  v9 := Tryz.zeroValue9
  t20 := Tryz.underlying20
  a20 := Tryz.isAgg20
  z20 := Tryz.sizeOf20
  v20 := Tryz.zeroValue20
  t37 := Tryz.underlying84
  a37 := Tryz.isAgg84
  z37 := Tryz.sizeOf84
  v37 := Tryz.zeroValue84
  t46 := Tryz.underlying167
  a46 := Tryz.isAgg167
  z46 := Tryz.sizeOf167
  v46 := Tryz.zeroValue167
  t51 := Tryz.underlying232
  a51 := Tryz.isAgg232
  z51 := Tryz.sizeOf232
  v51 := Tryz.zeroValue232
  t53 := Tryz.underlying209
  a53 := Tryz.isAgg209
  z53 := Tryz.sizeOf209
  v53 := Tryz.zeroValue209
  t70 := Tryz.underlying114
  a70 := Tryz.isAgg114
  z70 := Tryz.sizeOf114
  v70 := Tryz.zeroValue114
  t72 := Tryz.underlying116
  a72 := Tryz.isAgg116
  z72 := Tryz.sizeOf116
  v72 := Tryz.zeroValue116
  t75 := Tryz.underlying119
  a75 := Tryz.isAgg119
  z75 := Tryz.sizeOf119
  v75 := Tryz.zeroValue119
  t76 := Tryz.underlying120
  a76 := Tryz.isAgg120
  z76 := Tryz.sizeOf120
  v76 := Tryz.zeroValue120
  t109 := Tryz.underlying212
  a109 := Tryz.isAgg212
  z109 := Tryz.sizeOf212
  v109 := Tryz.zeroValue212
  t127 := Tryz.underlying159
  a127 := Tryz.isAgg159
  z127 := Tryz.sizeOf159
  v127 := Tryz.zeroValue159
  t146 := Tryz.underlying238
  a146 := Tryz.isAgg238
  z146 := Tryz.sizeOf238
  v146 := Tryz.zeroValue238
  t148 := Tryz.underlying240
  a148 := Tryz.isAgg240
  z148 := Tryz.sizeOf240
  v148 := Tryz.zeroValue240
  t164 := Tryz.underlying204
  a164 := Tryz.isAgg204
  z164 := Tryz.sizeOf204
  v164 := Tryz.zeroValue204 }
theorem Tryz.Builder_Extra_105 : Builder.Extra Tryz.prog Tryz.lays105_ren := {
  sizeBuilder := by kernel_rfl
  liesBuilder := by kernel_rfl
  t5 := Tryz.underlying5
  a5 := Tryz.isAgg5
  z5 := Tryz.sizeOf5
  v5 := Tryz.zeroValue5
  infoByte := by kernel_rfl
  cellsByte := by kernel_rfl
  sizeByte := by kernel_rfl
  neB5 := by decide }
open Go.RowKit Go.Lib in
/-- **strings.Repeat: count ≥ 0, the result within one allocation: count copies of s.** (LAID: no walk: one application.) -/
theorem Tryz.strings_Repeat (s : ByteArray) (c : Nat) (w : World) (hc : c ≤ 9223372036854775807) (hlen : s.size * c ≤ 140737488355328) :
    Calls Tryz.prog 159 #[.string s, .int .i64 c] w fun e w' => e = .returned (.string ⟨(Lib.repeatL s.data.toList c).toArray⟩) ∧ Below w.heap.size w w' := Any.strings_Repeat Tryz.lays105 Tryz.Builder_Extra_105 s c w hc hlen
open Go.RowKit Go.Lib in
/-- **unicode/utf8.DecodeRuneInString AT EVERY STRING.** (LAID: no walk: one application.) -/
theorem Tryz.utf8_DecodeRuneInString (s : ByteArray) (w : World) (hT : Lib.Utf8Tabs 0 1 w) :
    Calls Tryz.prog 101 #[.string s] w fun e w' => e = .returned (.tuple #[.int .i32 (Lib.decodeGo s).1, .int .i64 (Lib.decodeGo s).2]) ∧ Below w.heap.size w w' := Any.utf8_DecodeRuneInString Tryz.lays197 s w hT
def Tryz.laysValid_ren : Go.Shelf.Ren := ⟨fun | 196 => 100 | 259 => 151 | n => n, fun | 9 => 9 | 4 => 4 | 3 => 3 | 5 => 5 | 12 => 12 | 119 => 163 | 0 => 0 | 46 => 167 | 139 => 166 | 138 => 165 | 53 => 209 | n => n, fun | 3 => 0 | 4 => 1 | n => n⟩
theorem Tryz.laysValid : Go.Proofs.Lays.n196 Tryz.prog Tryz.laysValid_ren := {
  mixed := by kernel_rfl
  f196 := Tryz.func100.trans (congrArg some (by kernel_rfl))
  f259 := Tryz.func151.trans (congrArg some (by kernel_rfl))
  t0 := Tryz.underlying0
  a0 := Tryz.isAgg0
  z0 := Tryz.sizeOf0
  v0 := Tryz.zeroValue0
  t3 := Tryz.underlying3
  a3 := Tryz.isAgg3
  z3 := Tryz.sizeOf3
  v3 := Tryz.zeroValue3
  t4 := Tryz.underlying4
  a4 := Tryz.isAgg4
  z4 := Tryz.sizeOf4
  v4 := Tryz.zeroValue4
  t5 := Tryz.underlying5
  a5 := Tryz.isAgg5
  z5 := Tryz.sizeOf5
  v5 := Tryz.zeroValue5
  t9 := Tryz.underlying9
  a9 := Tryz.isAgg9
  z9 := Tryz.sizeOf9
  v9 := Tryz.zeroValue9
  t12 := Tryz.underlying12
  a12 := Tryz.isAgg12
  z12 := Tryz.sizeOf12
  v12 := Tryz.zeroValue12
  t46 := Tryz.underlying167
  a46 := Tryz.isAgg167
  z46 := Tryz.sizeOf167
  v46 := Tryz.zeroValue167
  t53 := Tryz.underlying209
  a53 := Tryz.isAgg209
  z53 := Tryz.sizeOf209
  v53 := Tryz.zeroValue209
  t119 := Tryz.underlying163
  a119 := Tryz.isAgg163
  z119 := Tryz.sizeOf163
  t138 := Tryz.underlying165
  a138 := Tryz.isAgg165
  z138 := Tryz.sizeOf165
  v138 := Tryz.zeroValue165
  t139 := Tryz.underlying166
  a139 := Tryz.isAgg166
  z139 := Tryz.sizeOf166
  v139 := Tryz.zeroValue166
  g3 := by kernel_rfl
  g4 := by kernel_rfl }
open Go.RowKit in
theorem Tryz.utf8_ValidString (s : ByteArray) (w : World) (hs : s.size ≤ 9223372036854775807) (hT : Lib.Utf8Tabs 0 1 w) :
    Calls Tryz.prog 100 #[.string s] w fun e w' => e = .returned (.bool (Lib.validD s.data.toList)) ∧ Below w.heap.size w w' := Any.utf8_ValidString Tryz.laysValid s w hs hT
end Go.Proofs
