/-
  DERIVED: THE SHELF's CONTRACTS AT THIS DUMP, IN PLAIN WORDS (tools/lay-plain.mjs out of 'YtdegjfmjjabnnaaGreatDoorShelf.lean', which tools/lay-shelf.mjs wrote): THE SAME DECLARATIONS UNDER THE SAME NAMES: 'import', 'namespace', 'open', 'def', 'theorem' AND NOTHING ELSE: no command of the shelf's: FOR A HAND-IN. Each laying: the table of numbers ('.._ren') and one theorem, a field a fact of the dump's own or the kernel's comparison; each contract: ONE APPLICATION.
-/
import Derived.Shelf.Strings.Builder1
import Derived.Shelf.Strings.Builder2
import Derived.Shelf.Strings.Trim
import Derived.Shelf.Small.Utf8
import Derived.Shelf.Small.Strs
import Derived.Shelf.Small.Wraps
import Derived.Shelf.Strings.BuilderF
import Derived.Shelf.Strings.BuilderK
import Derived.Shelf.Strings.Builder2Cap
import Derived.Shelf.Strconv.Atoi
import Derived.Shelf.Strconv.Itoa0
import Derived.Shelf.Strconv.Itoa1
import Derived.Shelf.LaysM
import Derived.Shelf.Strconv.Itoa2
import Derived.Shelf.Strconv.Itoa3
import Derived.Shelf.Strconv.AtoiErrFast
import Derived.Shelf.Strconv.ParseIntEmpty
import Derived.Shelf.Strconv.AtoiFail
import Derived.Shelf.Strconv.Clone
import Derived.Shelf.Strconv.SyntaxError
import Derived.Shelf.LaysC
import Derived.Shelf.Strconv.ToError
import Derived.Shelf.Strconv.Lower
import Derived.Shelf.Strconv.ParseUint10
import Derived.Shelf.Strconv.ParseUint10Empty
import Derived.Shelf.Strconv.ParseUint10Any
import Derived.Shelf.Strconv.ParseInt10
import Derived.Shelf.Strconv.AtoiLong
import Derived.Shelf.Strconv.AtoiInnerAll
import Derived.Shelf.Strconv.RangeError
import Derived.Shelf.Strconv.ToErrorRange
import Derived.Shelf.Strconv.AtoiAll
import Derived.Shelf.Strconv.ErrVarAll
import Derived.Shelf.Strconv.ParseUintEmpty
import Derived.Shelf.Strconv.ParseUint10b64
import Derived.Shelf.Strconv.ParseUint10b32
import Derived.Shelf.Strconv.ParseUint10b16
import Derived.Shelf.Strconv.ParseUint10b8
import Derived.Shelf.Strconv.ParseUint10At
import Derived.Shelf.Strconv.ParseInt10At64
import Derived.Shelf.Strconv.ParseInt10At32
import Derived.Shelf.Strconv.ParseInt10At16
import Derived.Shelf.Strconv.ParseInt10At8
import Derived.Shelf.Strconv.ParseInt10All
import Derived.Shelf.Strings.Search1
import Derived.Shelf.Strings.Search2
import Derived.Shelf.Strings.Search3
import Derived.Shelf.Strings.Cut
import Derived.Shelf.Strings.Shaped
import Derived.Shelf.Strings.Prefix
import Derived.Shelf.Unicode.Decode
import Derived.Shelf.Strings.Runes
import Derived.Shelf.Strings.AsciiSet
import Derived.Shelf.Bits.Mul64
import Derived.Shelf.Strings.Repeat
import Derived.Shelf.Unicode.DecodeSlow
import Derived.Shelf.Unicode.DecodeAny
import Derived.Shelf.Strings.BuilderCap
import Derived.Test.YtdegjfmjjabnnaaGreatDoorProg
namespace Go.Proofs
open Go.Shelf
def Tryz.lays169_ren : Go.Shelf.Ren := ⟨fun | 169 => 27 | n => n, fun | 70 => 54 | 9 => 9 | 0 => 0 | 72 => 57 | 37 => 55 | 127 => 79 | 3 => 3 | 5 => 5 | n => n, fun | n => n⟩
theorem Tryz.lays169 : Go.Proofs.Lays.n169 Tryz.prog Tryz.lays169_ren := {
  mixed := by kernel_rfl
  f169 := Tryz.func27.trans (congrArg some (by kernel_rfl))
  t0 := Tryz.underlying0
  a0 := Tryz.isAgg0
  z0 := Tryz.sizeOf0
  v0 := Tryz.zeroValue0
  t3 := Tryz.underlying3
  a3 := Tryz.isAgg3
  z3 := Tryz.sizeOf3
  v3 := Tryz.zeroValue3
  t9 := Tryz.underlying9
  a9 := Tryz.isAgg9
  z9 := Tryz.sizeOf9
  v9 := Tryz.zeroValue9
  t37 := Tryz.underlying55
  a37 := Tryz.isAgg55
  z37 := Tryz.sizeOf55
  v37 := Tryz.zeroValue55
  t70 := Tryz.underlying54
  a70 := Tryz.isAgg54
  z70 := Tryz.sizeOf54
  v70 := Tryz.zeroValue54
  t72 := Tryz.underlying57
  a72 := Tryz.isAgg57
  z72 := Tryz.sizeOf57
  v72 := Tryz.zeroValue57
  t127 := Tryz.underlying79
  a127 := Tryz.isAgg79
  z127 := Tryz.sizeOf79
  v127 := Tryz.zeroValue79 }
theorem Tryz.Builder_Extra_169 : Builder.Extra Tryz.prog Tryz.lays169_ren := {
  sizeBuilder := by kernel_rfl
  liesBuilder := by kernel_rfl
  t5 := Tryz.underlying5
  a5 := Tryz.isAgg5
  z5 := Tryz.sizeOf5
  v5 := Tryz.zeroValue5
  infoByte := by kernel_rfl
  cellsByte := by kernel_rfl
  sizeByte := by kernel_rfl
  neB5 := by decide }
def Tryz.lays161_ren : Go.Shelf.Ren := ⟨fun | 161 => 45 | 231 => 61 | 227 => 62 | 233 => 63 | 235 => 64 | 228 => 85 | 197 => 82 | 151 => 86 | 260 => 97 | 152 => 98 | 137 => 44 | 119 => 103 | 224 => 75 | 225 => 74 | 217 => 60 | 266 => 84 | n => n, fun | 9 => 9 | 4 => 4 | 3 => 3 | 5 => 5 | 117 => 100 | 116 => 99 | 0 => 0 | 124 => 103 | 105 => 122 | 21 => 21 | 119 => 145 | 46 => 86 | 139 => 148 | 138 => 147 | n => n, fun | 3 => 4 | 4 => 5 | n => n⟩
theorem Tryz.lays161 : Go.Proofs.Lays.n161 Tryz.prog Tryz.lays161_ren := {
  mixed := by kernel_rfl
  f119 := Tryz.func103.trans (congrArg some (by kernel_rfl))
  f137 := Tryz.func44.trans (congrArg some (by kernel_rfl))
  f151 := Tryz.func86.trans (congrArg some (by kernel_rfl))
  f152 := Tryz.func98.trans (congrArg some (by kernel_rfl))
  f161 := Tryz.func45.trans (congrArg some (by kernel_rfl))
  f197 := Tryz.func82.trans (congrArg some (by kernel_rfl))
  f217 := Tryz.func60.trans (congrArg some (by kernel_rfl))
  f224 := Tryz.func75.trans (congrArg some (by kernel_rfl))
  f225 := Tryz.func74.trans (congrArg some (by kernel_rfl))
  f227 := Tryz.func62.trans (congrArg some (by kernel_rfl))
  f228 := Tryz.func85.trans (congrArg some (by kernel_rfl))
  f231 := Tryz.func61.trans (congrArg some (by kernel_rfl))
  f233 := Tryz.func63.trans (congrArg some (by kernel_rfl))
  f235 := Tryz.func64.trans (congrArg some (by kernel_rfl))
  f260 := Tryz.func97.trans (congrArg some (by kernel_rfl))
  f266 := Tryz.func84.trans (congrArg some (by kernel_rfl))
  t0 := Tryz.underlying0
  a0 := Tryz.isAgg0
  z0 := Tryz.sizeOf0
  v0 := Tryz.zeroValue0
  t3 := Tryz.underlying3
  a3 := Tryz.isAgg3
  z3 := Tryz.sizeOf3
  v3 := Tryz.zeroValue3
  t4 := Tryz.underlying4
  a4 := Tryz.isAgg4
  z4 := Tryz.sizeOf4
  v4 := Tryz.zeroValue4
  t5 := Tryz.underlying5
  a5 := Tryz.isAgg5
  z5 := Tryz.sizeOf5
  v5 := Tryz.zeroValue5
  t9 := Tryz.underlying9
  a9 := Tryz.isAgg9
  z9 := Tryz.sizeOf9
  v9 := Tryz.zeroValue9
  t21 := Tryz.underlying21
  a21 := Tryz.isAgg21
  z21 := Tryz.sizeOf21
  v21 := Tryz.zeroValue21
  t46 := Tryz.underlying86
  a46 := Tryz.isAgg86
  z46 := Tryz.sizeOf86
  v46 := Tryz.zeroValue86
  t105 := Tryz.underlying122
  a105 := Tryz.isAgg122
  z105 := Tryz.sizeOf122
  v105 := Tryz.zeroValue122
  t116 := Tryz.underlying99
  a116 := Tryz.isAgg99
  z116 := Tryz.sizeOf99
  t117 := Tryz.underlying100
  a117 := Tryz.isAgg100
  z117 := Tryz.sizeOf100
  v117 := Tryz.zeroValue100
  t119 := Tryz.underlying145
  a119 := Tryz.isAgg145
  z119 := Tryz.sizeOf145
  t124 := Tryz.underlying103
  a124 := Tryz.isAgg103
  z124 := Tryz.sizeOf103
  v124 := Tryz.zeroValue103
  t138 := Tryz.underlying147
  a138 := Tryz.isAgg147
  z138 := Tryz.sizeOf147
  v138 := Tryz.zeroValue147
  t139 := Tryz.underlying148
  a139 := Tryz.isAgg148
  z139 := Tryz.sizeOf148
  v139 := Tryz.zeroValue148
  g3 := by kernel_rfl
  g4 := by kernel_rfl }
open Go.RowKit in
/-- strings.TrimLeft: "TrimLeft returns a slice of the string s with all leading Unicode code points contained in cutset removed.": AT A cutset OF ONE ASCII BYTE. The world is as it was. (LAID: no walk: one application.) -/
theorem Tryz.strings_TrimLeft_one (s : ByteArray) (c : UInt8) (hc : c.toNat < 128) (w : World) :
    Calls Tryz.prog 45 #[.string s, .string ⟨#[c]⟩] w fun e w' => e = .returned (.string ⟨(Lib.trimLeftB s.data.toList c).toArray⟩) ∧ w' = w := Any.strings_TrimLeft_one Tryz.lays161 s c hc w
def Tryz.lays137_ren : Go.Shelf.Ren := ⟨fun | 137 => 44 | 217 => 60 | 266 => 84 | n => n, fun | 9 => 9 | 5 => 5 | 3 => 3 | n => n, fun | n => n⟩
theorem Tryz.lays137 : Go.Proofs.Lays.n137 Tryz.prog Tryz.lays137_ren := {
  mixed := by kernel_rfl
  f137 := Tryz.func44.trans (congrArg some (by kernel_rfl))
  f217 := Tryz.func60.trans (congrArg some (by kernel_rfl))
  f266 := Tryz.func84.trans (congrArg some (by kernel_rfl))
  t3 := Tryz.underlying3
  a3 := Tryz.isAgg3
  z3 := Tryz.sizeOf3
  v3 := Tryz.zeroValue3
  t5 := Tryz.underlying5
  a5 := Tryz.isAgg5
  z5 := Tryz.sizeOf5
  v5 := Tryz.zeroValue5
  t9 := Tryz.underlying9
  a9 := Tryz.isAgg9
  z9 := Tryz.sizeOf9
  v9 := Tryz.zeroValue9 }
open Go.RowKit in
/-- strings.IndexByte: "IndexByte returns the index of the first instance of c in s, or -1 if c is not present in s.": IT RETURNS 'Lib.indexByte s c'; the world is as it was. (LAID: no walk: one application.) -/
theorem Tryz.strings_IndexByte (s : ByteArray) (c : Int) (w : World) :
    Calls Tryz.prog 44 #[.string s, .int .u8 c] w fun e w' => e = .returned (.int .i64 (Lib.indexByte s.data.toList c.toNat.toUInt8)) ∧ w' = w := Any.strings_IndexByte Tryz.lays137 s c w
def Tryz.lays103_ren : Go.Shelf.Ren := ⟨fun | 103 => 29 | 210 => 46 | 206 => 65 | n => n, fun | 9 => 9 | 4 => 4 | 24 => 69 | 3 => 3 | n => n, fun | n => n⟩
theorem Tryz.lays103 : Go.Proofs.Lays.n103 Tryz.prog Tryz.lays103_ren := {
  mixed := by kernel_rfl
  f103 := Tryz.func29.trans (congrArg some (by kernel_rfl))
  f206 := Tryz.func65.trans (congrArg some (by kernel_rfl))
  f210 := Tryz.func46.trans (congrArg some (by kernel_rfl))
  t3 := Tryz.underlying3
  a3 := Tryz.isAgg3
  z3 := Tryz.sizeOf3
  v3 := Tryz.zeroValue3
  t4 := Tryz.underlying4
  a4 := Tryz.isAgg4
  z4 := Tryz.sizeOf4
  v4 := Tryz.zeroValue4
  t9 := Tryz.underlying9
  a9 := Tryz.isAgg9
  z9 := Tryz.sizeOf9
  v9 := Tryz.zeroValue9
  t24 := Tryz.underlying69
  a24 := Tryz.isAgg69
  z24 := Tryz.sizeOf69
  v24 := Tryz.zeroValue69 }
open Go.RowKit in
/-- strings.CutPrefix: "CutPrefix returns s without the provided leading prefix string and reports whether it found the prefix. If s doesn't start with prefix, CutPrefix returns s, false. If prefix is the empty string, CutPrefix returns s, true.": IT RETURNS '(Lib.trimPrefix s p, Lib.hasPrefix s p)'; the world is as it was. (LAID: no walk: one application.) -/
theorem Tryz.strings_CutPrefix (s p : ByteArray) (w : World) :
    Calls Tryz.prog 29 #[.string s, .string p] w fun e w' => e = .returned (.tuple #[.string ⟨(Lib.trimPrefix s.data.toList p.data.toList).toArray⟩, .bool (Lib.hasPrefix s.data.toList p.data.toList)]) ∧ w' = w := Any.strings_CutPrefix Tryz.lays103 s p w
open Go.RowKit in
/-- (*strings.Builder).String: "String returns the accumulated string.": WHATEVER THE BUILDER HOLDS; THE FORM '_k': OVER 'Lib.IsBuilderF' (a builder that 'String()' may have read), AND WITH THE FRAME THAT REACHES ABOVE THE BUILDER: 'Lib.OthersKept': every block that is not b and is no row of uint8's stands as it stood: the iterator of a range among them. (LAID: no walk: one application.) -/
theorem Tryz.Builder_String_any_k (B b : Nat) (l : List UInt8) (w : World) (h : Lib.IsBuilderF 57 5 B b (Lib.byteCells l) w) (hBw : B ≤ w.heap.size) :
    Calls Tryz.prog 27 #[.pointer (some ⟨b, 0, none⟩)] w fun e w' => e = .returned (.string ⟨l.toArray⟩) ∧ (Lib.IsBuilderF 57 5 B b (Lib.byteCells l) w' ∧ Below B w w' ∧ Lib.OthersKept 5 (some b) w w') := Any.Builder_String_any_k Tryz.lays169 Tryz.Builder_Extra_169 B b l w h hBw
def Tryz.laysM171_ren : Go.Shelf.Ren := ⟨fun | 171 => 25 | 243 => 42 | 246 => 58 | 283 => 77 | 284 => 78 | 285 => 79 | 286 => 80 | 129 => 93 | 317 => 92 | 318 => 94 | 319 => 95 | 320 => 96 | 337 => 101 | 338 => 102 | n => n, fun | 3 => 3 | 9 => 9 | 2 => 2 | 4 => 4 | 171 => 117 | 0 => 0 | 53 => 113 | 37 => 55 | 5 => 5 | 173 => 120 | 212 => 135 | 51 => 110 | 20 => 20 | 213 => 136 | 46 => 86 | 232 => 150 | 233 => 151 | n => n, fun | 17 => 3 | 18 => 6 | 19 => 7 | n => n⟩
theorem Tryz.laysM171 : Go.Proofs.LaysM.n171 Tryz.prog Tryz.laysM171_ren := {
  mixed := by kernel_rfl
  f129 := Tryz.func93.trans (congrArg some (by kernel_rfl))
  f171 := Tryz.func25.trans (congrArg some (by kernel_rfl))
  f243 := Tryz.func42.trans (congrArg some (by kernel_rfl))
  f246 := Tryz.func58.trans (congrArg some (by kernel_rfl))
  f283 := Tryz.func77.trans (congrArg some (by kernel_rfl))
  f284 := Tryz.func78.trans (congrArg some (by kernel_rfl))
  f285 := Tryz.func79.trans (congrArg some (by kernel_rfl))
  f286 := Tryz.func80.trans (congrArg some (by kernel_rfl))
  f317 := Tryz.func92.trans (congrArg some (by kernel_rfl))
  f318 := Tryz.func94.trans (congrArg some (by kernel_rfl))
  f319 := Tryz.func95.trans (congrArg some (by kernel_rfl))
  f320 := Tryz.func96.trans (congrArg some (by kernel_rfl))
  f337 := Tryz.func101.trans (congrArg some (by kernel_rfl))
  f338 := Tryz.func102.trans (congrArg some (by kernel_rfl))
  t0 := Tryz.underlying0
  a0 := Tryz.isAgg0
  z0 := Tryz.sizeOf0
  v0 := Tryz.zeroValue0
  t2 := Tryz.underlying2
  a2 := Tryz.isAgg2
  z2 := Tryz.sizeOf2
  v2 := Tryz.zeroValue2
  t3 := Tryz.underlying3
  a3 := Tryz.isAgg3
  z3 := Tryz.sizeOf3
  v3 := Tryz.zeroValue3
  t4 := Tryz.underlying4
  a4 := Tryz.isAgg4
  z4 := Tryz.sizeOf4
  v4 := Tryz.zeroValue4
  t5 := Tryz.underlying5
  a5 := Tryz.isAgg5
  z5 := Tryz.sizeOf5
  v5 := Tryz.zeroValue5
  t9 := Tryz.underlying9
  a9 := Tryz.isAgg9
  z9 := Tryz.sizeOf9
  v9 := Tryz.zeroValue9
  t20 := Tryz.underlying20
  a20 := Tryz.isAgg20
  z20 := Tryz.sizeOf20
  v20 := Tryz.zeroValue20
  t37 := Tryz.underlying55
  a37 := Tryz.isAgg55
  z37 := Tryz.sizeOf55
  v37 := Tryz.zeroValue55
  t46 := Tryz.underlying86
  a46 := Tryz.isAgg86
  z46 := Tryz.sizeOf86
  v46 := Tryz.zeroValue86
  t51 := Tryz.underlying110
  a51 := Tryz.isAgg110
  z51 := Tryz.sizeOf110
  v51 := Tryz.zeroValue110
  t53 := Tryz.underlying113
  a53 := Tryz.isAgg113
  z53 := Tryz.sizeOf113
  v53 := Tryz.zeroValue113
  t171 := Tryz.underlying117
  a171 := Tryz.isAgg117
  z171 := Tryz.sizeOf117
  v171 := Tryz.zeroValue117
  t173 := Tryz.underlying120
  a173 := Tryz.isAgg120
  z173 := Tryz.sizeOf120
  v173 := Tryz.zeroValue120
  t212 := Tryz.underlying135
  a212 := Tryz.isAgg135
  z212 := Tryz.sizeOf135
  v212 := Tryz.zeroValue135
  t213 := Tryz.underlying136
  a213 := Tryz.isAgg136
  z213 := Tryz.sizeOf136
  t232 := Tryz.underlying150
  a232 := Tryz.isAgg150
  z232 := Tryz.sizeOf150
  v232 := Tryz.zeroValue150
  t233 := Tryz.underlying151
  a233 := Tryz.isAgg151
  z233 := Tryz.sizeOf151
  v233 := Tryz.zeroValue151
  g17 := by kernel_rfl
  g18 := by kernel_rfl
  g19 := by kernel_rfl
  i0 := by kernel_rfl
  i2 := by kernel_rfl
  i3 := by kernel_rfl
  i4 := by kernel_rfl
  i5 := by kernel_rfl
  i9 := by kernel_rfl
  i20 := by kernel_rfl
  i37 := by kernel_rfl
  i46 := by kernel_rfl
  i51 := by kernel_rfl
  i53 := by kernel_rfl
  i171 := by kernel_rfl
  i173 := by kernel_rfl
  i212 := by kernel_rfl
  i232 := by kernel_rfl
  i233 := by kernel_rfl
  m17 := by kernel_rfl
  m18 := by kernel_rfl
  m19 := by kernel_rfl }
open Go.RowKit Go.Sort Go.Lib in
/-- strconv.Itoa: "Itoa is equivalent to FormatInt(int64(i), 10).": i's DECIMAL NUMERAL ('Lib.itoa': a '-' where i is negative, then the digits), FOR EVERY int. The world behind the call: the world before it, new blocks behind the heap (the library's 'var a [24]byte'), draws. (LAID: no walk: one application.) -/
theorem Tryz.strconv_Itoa (n : Int) (h0 : -9223372036854775808 ≤ n) (h1 : n ≤ 9223372036854775807) (w : World) (htab : Lib.TabIs Tryz.prog w "internal/strconv.uint64pow10" .u64 Lib.pow10Tab) :
    Calls Tryz.prog 25 #[.int .i64 n] w fun e w' => e = .returned (.string ⟨(Lib.itoa n).toArray⟩) ∧ ∃ k os, w' = grow (w.drewN k) os := Any.strconv_Itoa Tryz.laysM171 n h0 h1 w htab
def Tryz.lays143_ren : Go.Shelf.Ren := ⟨fun | 143 => 83 | 219 => 53 | 217 => 60 | 225 => 74 | 224 => 75 | 267 => 76 | 266 => 84 | 314 => 91 | n => n, fun | 9 => 9 | 3 => 3 | 4 => 4 | 5 => 5 | 46 => 86 | 146 => 111 | 51 => 110 | n => n, fun | 1 => 0 | n => n⟩
theorem Tryz.lays143 : Go.Proofs.Lays.n143 Tryz.prog Tryz.lays143_ren := {
  mixed := by kernel_rfl
  f143 := Tryz.func83.trans (congrArg some (by kernel_rfl))
  f217 := Tryz.func60.trans (congrArg some (by kernel_rfl))
  f219 := Tryz.func53.trans (congrArg some (by kernel_rfl))
  f224 := Tryz.func75.trans (congrArg some (by kernel_rfl))
  f225 := Tryz.func74.trans (congrArg some (by kernel_rfl))
  f266 := Tryz.func84.trans (congrArg some (by kernel_rfl))
  f267 := Tryz.func76.trans (congrArg some (by kernel_rfl))
  f314 := Tryz.func91.trans (congrArg some (by kernel_rfl))
  t3 := Tryz.underlying3
  a3 := Tryz.isAgg3
  z3 := Tryz.sizeOf3
  v3 := Tryz.zeroValue3
  t4 := Tryz.underlying4
  a4 := Tryz.isAgg4
  z4 := Tryz.sizeOf4
  v4 := Tryz.zeroValue4
  t5 := Tryz.underlying5
  a5 := Tryz.isAgg5
  z5 := Tryz.sizeOf5
  v5 := Tryz.zeroValue5
  t9 := Tryz.underlying9
  a9 := Tryz.isAgg9
  z9 := Tryz.sizeOf9
  v9 := Tryz.zeroValue9
  t46 := Tryz.underlying86
  a46 := Tryz.isAgg86
  z46 := Tryz.sizeOf86
  v46 := Tryz.zeroValue86
  t51 := Tryz.underlying110
  a51 := Tryz.isAgg110
  z51 := Tryz.sizeOf110
  v51 := Tryz.zeroValue110
  t146 := Tryz.underlying111
  a146 := Tryz.isAgg111
  z146 := Tryz.sizeOf111
  v146 := Tryz.zeroValue111
  g1 := by kernel_rfl }
open Go.RowKit Go.Lib in
/-- strings.Index: "Index returns the index of the first instance of substr in s, or -1 if substr is not present in s.": AT A substr OF ONE BYTE c: IT RETURNS 'Lib.indexByte s c'; the world is as it was. (LAID: no walk: one application.) -/
theorem Tryz.strings_Index_one (s : ByteArray) (c : UInt8) (w : World) :
    Calls Tryz.prog 83 #[.string s, .string ⟨#[c]⟩] w fun e w' => e = .returned (.int .i64 (Lib.indexByte s.data.toList c)) ∧ w' = w := Any.strings_Index_one Tryz.lays143 s c w
def Tryz.lays145_ren : Go.Shelf.Ren := ⟨fun | 145 => 13 | 220 => 32 | 219 => 53 | 217 => 60 | 225 => 74 | 224 => 75 | 267 => 76 | 266 => 84 | 314 => 91 | n => n, fun | 9 => 9 | 4 => 4 | 59 => 41 | 3 => 3 | 5 => 5 | 46 => 86 | 146 => 111 | 51 => 110 | n => n, fun | 1 => 0 | n => n⟩
theorem Tryz.lays145 : Go.Proofs.Lays.n145 Tryz.prog Tryz.lays145_ren := {
  mixed := by kernel_rfl
  f145 := Tryz.func13.trans (congrArg some (by kernel_rfl))
  f217 := Tryz.func60.trans (congrArg some (by kernel_rfl))
  f219 := Tryz.func53.trans (congrArg some (by kernel_rfl))
  f220 := Tryz.func32.trans (congrArg some (by kernel_rfl))
  f224 := Tryz.func75.trans (congrArg some (by kernel_rfl))
  f225 := Tryz.func74.trans (congrArg some (by kernel_rfl))
  f266 := Tryz.func84.trans (congrArg some (by kernel_rfl))
  f267 := Tryz.func76.trans (congrArg some (by kernel_rfl))
  f314 := Tryz.func91.trans (congrArg some (by kernel_rfl))
  t3 := Tryz.underlying3
  a3 := Tryz.isAgg3
  z3 := Tryz.sizeOf3
  v3 := Tryz.zeroValue3
  t4 := Tryz.underlying4
  a4 := Tryz.isAgg4
  z4 := Tryz.sizeOf4
  v4 := Tryz.zeroValue4
  t5 := Tryz.underlying5
  a5 := Tryz.isAgg5
  z5 := Tryz.sizeOf5
  v5 := Tryz.zeroValue5
  t9 := Tryz.underlying9
  a9 := Tryz.isAgg9
  z9 := Tryz.sizeOf9
  v9 := Tryz.zeroValue9
  t46 := Tryz.underlying86
  a46 := Tryz.isAgg86
  z46 := Tryz.sizeOf86
  v46 := Tryz.zeroValue86
  t51 := Tryz.underlying110
  a51 := Tryz.isAgg110
  z51 := Tryz.sizeOf110
  v51 := Tryz.zeroValue110
  t59 := Tryz.underlying41
  a59 := Tryz.isAgg41
  z59 := Tryz.sizeOf41
  v59 := Tryz.zeroValue41
  t146 := Tryz.underlying111
  a146 := Tryz.isAgg111
  z146 := Tryz.sizeOf111
  v146 := Tryz.zeroValue111
  g1 := by kernel_rfl }
open Go.RowKit Go.Lib in
/-- strings.Cut: "Cut slices s around the first instance of sep, returning the text before and after sep. The found result reports whether sep appears in s. If sep does not appear in s, cut returns s, "", false.": IT RETURNS 'Lib.cut s sep'; the world is as it was but for the count of draws. (LAID: no walk: one application.) -/
theorem Tryz.strings_Cut (s sep : ByteArray) (m : Int) (w : World) (hs : s.size < 4294967281) (hm : w.cell? ⟨0, 0, none⟩ = some (.int .i64 m)) :
    Calls Tryz.prog 13 #[.string s, .string sep] w fun e w' => e = .returned (.tuple #[.string ⟨(Lib.cut s.data.toList sep.data.toList).1.toArray⟩, .string ⟨(Lib.cut s.data.toList sep.data.toList).2.1.toArray⟩, .bool (Lib.cut s.data.toList sep.data.toList).2.2]) ∧ ∃ n, w' = w.drewN n := Any.strings_Cut Tryz.lays145 s sep m w hs hm
def Tryz.lays99_ren : Go.Shelf.Ren := ⟨fun | 99 => 50 | 206 => 65 | n => n, fun | 9 => 9 | 4 => 4 | 3 => 3 | n => n, fun | n => n⟩
theorem Tryz.lays99 : Go.Proofs.Lays.n99 Tryz.prog Tryz.lays99_ren := {
  mixed := by kernel_rfl
  f99 := Tryz.func50.trans (congrArg some (by kernel_rfl))
  f206 := Tryz.func65.trans (congrArg some (by kernel_rfl))
  t3 := Tryz.underlying3
  a3 := Tryz.isAgg3
  z3 := Tryz.sizeOf3
  v3 := Tryz.zeroValue3
  t4 := Tryz.underlying4
  a4 := Tryz.isAgg4
  z4 := Tryz.sizeOf4
  v4 := Tryz.zeroValue4
  t9 := Tryz.underlying9
  a9 := Tryz.isAgg9
  z9 := Tryz.sizeOf9
  v9 := Tryz.zeroValue9 }
open Go.RowKit Go.Lib in
/-- strings.HasPrefix: "HasPrefix reports whether the string s begins with prefix.": IT RETURNS 'Lib.hasPrefix s prefix'; the world is as it was. (LAID: no walk: one application.) -/
theorem Tryz.strings_HasPrefix (s p : ByteArray) (w : World) :
    Calls Tryz.prog 50 #[.string s, .string p] w fun e w' => e = .returned (.bool (Lib.hasPrefix s.data.toList p.data.toList)) ∧ w' = w := Any.strings_HasPrefix Tryz.lays99 s p w
def Tryz.lays105_ren : Go.Shelf.Ren := ⟨fun | 105 => 31 | 212 => 49 | 99 => 50 | 165 => 51 | 166 => 24 | 170 => 52 | 169 => 27 | 263 => 71 | 264 => 72 | 206 => 65 | 240 => 41 | 241 => 73 | 276 => 57 | 277 => 90 | n => n, fun | 9 => 9 | 3 => 3 | 4 => 4 | 20 => 20 | 0 => 0 | 46 => 86 | 109 => 87 | 5 => 5 | 72 => 57 | 76 => 62 | 51 => 110 | 146 => 111 | 53 => 113 | 148 => 114 | 70 => 54 | 37 => 55 | 75 => 61 | 127 => 79 | 164 => 93 | 80 => 66 | n => n, fun | n => n⟩
theorem Tryz.lays105 : Go.Proofs.Lays.n105 Tryz.prog Tryz.lays105_ren := {
  mixed := by kernel_rfl
  f99 := Tryz.func50.trans (congrArg some (by kernel_rfl))
  f105 := Tryz.func31.trans (congrArg some (by kernel_rfl))
  f165 := Tryz.func51.trans (congrArg some (by kernel_rfl))
  f166 := Tryz.func24.trans (congrArg some (by kernel_rfl))
  f169 := Tryz.func27.trans (congrArg some (by kernel_rfl))
  f170 := Tryz.func52.trans (congrArg some (by kernel_rfl))
  f206 := Tryz.func65.trans (congrArg some (by kernel_rfl))
  f212 := Tryz.func49.trans (congrArg some (by kernel_rfl))
  f240 := Tryz.func41.trans (congrArg some (by kernel_rfl))
  f241 := Tryz.func73.trans (congrArg some (by kernel_rfl))
  f263 := Tryz.func71.trans (congrArg some (by kernel_rfl))
  f264 := Tryz.func72.trans (congrArg some (by kernel_rfl))
  f276 := Tryz.func57.trans (congrArg some (by kernel_rfl))
  f277 := Tryz.func90.trans (congrArg some (by kernel_rfl))
  t0 := Tryz.underlying0
  a0 := Tryz.isAgg0
  z0 := Tryz.sizeOf0
  v0 := Tryz.zeroValue0
  t3 := Tryz.underlying3
  a3 := Tryz.isAgg3
  z3 := Tryz.sizeOf3
  v3 := Tryz.zeroValue3
  t4 := Tryz.underlying4
  a4 := Tryz.isAgg4
  z4 := Tryz.sizeOf4
  v4 := Tryz.zeroValue4
  t5 := Tryz.underlying5
  a5 := Tryz.isAgg5
  z5 := Tryz.sizeOf5
  v5 := Tryz.zeroValue5
  t9 := Tryz.underlying9
  a9 := Tryz.isAgg9
  z9 := Tryz.sizeOf9
  v9 := Tryz.zeroValue9
  t20 := Tryz.underlying20
  a20 := Tryz.isAgg20
  z20 := Tryz.sizeOf20
  v20 := Tryz.zeroValue20
  t37 := Tryz.underlying55
  a37 := Tryz.isAgg55
  z37 := Tryz.sizeOf55
  v37 := Tryz.zeroValue55
  t46 := Tryz.underlying86
  a46 := Tryz.isAgg86
  z46 := Tryz.sizeOf86
  v46 := Tryz.zeroValue86
  t51 := Tryz.underlying110
  a51 := Tryz.isAgg110
  z51 := Tryz.sizeOf110
  v51 := Tryz.zeroValue110
  t53 := Tryz.underlying113
  a53 := Tryz.isAgg113
  z53 := Tryz.sizeOf113
  v53 := Tryz.zeroValue113
  t70 := Tryz.underlying54
  a70 := Tryz.isAgg54
  z70 := Tryz.sizeOf54
  v70 := Tryz.zeroValue54
  t72 := Tryz.underlying57
  a72 := Tryz.isAgg57
  z72 := Tryz.sizeOf57
  v72 := Tryz.zeroValue57
  t75 := Tryz.underlying61
  a75 := Tryz.isAgg61
  z75 := Tryz.sizeOf61
  v75 := Tryz.zeroValue61
  t76 := Tryz.underlying62
  a76 := Tryz.isAgg62
  z76 := Tryz.sizeOf62
  v76 := Tryz.zeroValue62
  t109 := Tryz.underlying87
  a109 := Tryz.isAgg87
  z109 := Tryz.sizeOf87
  v109 := Tryz.zeroValue87
  t127 := Tryz.underlying79
  a127 := Tryz.isAgg79
  z127 := Tryz.sizeOf79
  v127 := Tryz.zeroValue79
  t146 := Tryz.underlying111
  a146 := Tryz.isAgg111
  z146 := Tryz.sizeOf111
  v146 := Tryz.zeroValue111
  t148 := Tryz.underlying114
  a148 := Tryz.isAgg114
  z148 := Tryz.sizeOf114
  v148 := Tryz.zeroValue114
  t164 := Tryz.underlying93
  a164 := Tryz.isAgg93
  z164 := Tryz.sizeOf93
  v164 := Tryz.zeroValue93 }
theorem Tryz.Builder_Extra_105 : Builder.Extra Tryz.prog Tryz.lays105_ren := {
  sizeBuilder := by kernel_rfl
  liesBuilder := by kernel_rfl
  t5 := Tryz.underlying5
  a5 := Tryz.isAgg5
  z5 := Tryz.sizeOf5
  v5 := Tryz.zeroValue5
  infoByte := by kernel_rfl
  cellsByte := by kernel_rfl
  sizeByte := by kernel_rfl
  neB5 := by decide }
open Go.RowKit Go.Lib in
/-- **strings.Repeat: count ≥ 0, the result within one allocation: count copies of s.** (LAID: no walk: one application.) -/
theorem Tryz.strings_Repeat (s : ByteArray) (c : Nat) (w : World) (hc : c ≤ 9223372036854775807) (hlen : s.size * c ≤ 140737488355328) :
    Calls Tryz.prog 31 #[.string s, .int .i64 c] w fun e w' => e = .returned (.string ⟨(Lib.repeatL s.data.toList c).toArray⟩) ∧ Below w.heap.size w w' := Any.strings_Repeat Tryz.lays105 Tryz.Builder_Extra_105 s c w hc hlen
end Go.Proofs
