/-
  DERIVED: THE SHELF's CONTRACTS AT THIS DUMP, IN PLAIN WORDS (tools/lay-plain.mjs out of 'YtfklmopnifkieaaGreatDoorShelf.lean', which tools/lay-shelf.mjs wrote): THE SAME DECLARATIONS UNDER THE SAME NAMES: 'import', 'namespace', 'open', 'def', 'theorem' AND NOTHING ELSE: no command of the shelf's: FOR A HAND-IN. Each laying: the table of numbers ('.._ren') and one theorem, a field a fact of the dump's own or the kernel's comparison; each contract: ONE APPLICATION.
-/
import Derived.Shelf.Unicode.ValidAny
import Derived.Shelf.Strings.Builder1
import Derived.Shelf.Strings.Builder2
import Derived.Shelf.Small.Utf8
import Derived.Shelf.Small.Strs
import Derived.Shelf.Strings.BuilderF
import Derived.Shelf.Strings.BuilderK
import Derived.Shelf.Strings.BuilderRune
import Derived.Shelf.Strings.Builder2Cap
import Derived.Shelf.Strconv.Itoa0
import Derived.Shelf.Strconv.Itoa1
import Derived.Shelf.LaysM
import Derived.Shelf.Strconv.Clone
import Derived.Shelf.Strconv.SyntaxError
import Derived.Shelf.LaysC
import Derived.Shelf.Strconv.ToError
import Derived.Shelf.Strconv.Lower
import Derived.Shelf.Strconv.ParseUint10
import Derived.Shelf.Strconv.ParseUint10Empty
import Derived.Shelf.Strconv.ParseUint10Any
import Derived.Shelf.Strconv.RangeError
import Derived.Shelf.Strconv.ToErrorRange
import Derived.Shelf.Strings.Search1
import Derived.Shelf.Strings.Search2
import Derived.Shelf.Strings.Search3
import Derived.Shelf.Strings.Cut
import Derived.Shelf.Strings.Count
import Derived.Shelf.Strings.Shaped
import Derived.Shelf.Strings.Prefix
import Derived.Shelf.Strings.Split
import Derived.Shelf.Strings.Replace
import Derived.Shelf.Strings.Runes
import Derived.Shelf.Strings.IndexAny
import Derived.Shelf.Strings.AsciiSet
import Derived.Shelf.Strings.IndexAnyAll
import Derived.Shelf.Bits.Mul64
import Derived.Shelf.Strings.Repeat
import Derived.Shelf.Unicode.DecodeSlow
import Derived.Shelf.Unicode.DecodeAny
import Derived.Shelf.Strings.BuilderCap
import Derived.Test.YtfklmopnifkieaaGreatDoorProg
namespace Go.Proofs
open Go.Shelf
def Tryz.lays169_ren : Go.Shelf.Ren := ⟨fun | 169 => 31 | n => n, fun | 70 => 48 | 9 => 9 | 0 => 0 | 72 => 51 | 37 => 49 | 127 => 67 | 3 => 3 | 5 => 5 | n => n, fun | n => n⟩
theorem Tryz.lays169 : Go.Proofs.Lays.n169 Tryz.prog Tryz.lays169_ren := {
  mixed := by kernel_rfl
  f169 := Tryz.func31.trans (congrArg some (by kernel_rfl))
  t0 := Tryz.underlying0
  a0 := Tryz.isAgg0
  z0 := Tryz.sizeOf0
  v0 := Tryz.zeroValue0
  t3 := Tryz.underlying3
  a3 := Tryz.isAgg3
  z3 := Tryz.sizeOf3
  v3 := Tryz.zeroValue3
  t9 := Tryz.underlying9
  a9 := Tryz.isAgg9
  z9 := Tryz.sizeOf9
  v9 := Tryz.zeroValue9
  t37 := Tryz.underlying49
  a37 := Tryz.isAgg49
  z37 := Tryz.sizeOf49
  v37 := Tryz.zeroValue49
  t70 := Tryz.underlying48
  a70 := Tryz.isAgg48
  z70 := Tryz.sizeOf48
  v70 := Tryz.zeroValue48
  t72 := Tryz.underlying51
  a72 := Tryz.isAgg51
  z72 := Tryz.sizeOf51
  v72 := Tryz.zeroValue51
  t127 := Tryz.underlying67
  a127 := Tryz.isAgg67
  z127 := Tryz.sizeOf67
  v127 := Tryz.zeroValue67 }
theorem Tryz.Builder_Extra_169 : Builder.Extra Tryz.prog Tryz.lays169_ren := {
  sizeBuilder := by kernel_rfl
  liesBuilder := by kernel_rfl
  t5 := Tryz.underlying5
  a5 := Tryz.isAgg5
  z5 := Tryz.sizeOf5
  v5 := Tryz.zeroValue5
  infoByte := by kernel_rfl
  cellsByte := by kernel_rfl
  sizeByte := by kernel_rfl
  neB5 := by decide }
def Tryz.lays137_ren : Go.Shelf.Ren := ⟨fun | 137 => 137 | 217 => 87 | 266 => 107 | n => n, fun | 9 => 9 | 5 => 5 | 3 => 3 | n => n, fun | n => n⟩
theorem Tryz.lays137 : Go.Proofs.Lays.n137 Tryz.prog Tryz.lays137_ren := {
  mixed := by kernel_rfl
  f137 := Tryz.func137.trans (congrArg some (by kernel_rfl))
  f217 := Tryz.func87.trans (congrArg some (by kernel_rfl))
  f266 := Tryz.func107.trans (congrArg some (by kernel_rfl))
  t3 := Tryz.underlying3
  a3 := Tryz.isAgg3
  z3 := Tryz.sizeOf3
  v3 := Tryz.zeroValue3
  t5 := Tryz.underlying5
  a5 := Tryz.isAgg5
  z5 := Tryz.sizeOf5
  v5 := Tryz.zeroValue5
  t9 := Tryz.underlying9
  a9 := Tryz.isAgg9
  z9 := Tryz.sizeOf9
  v9 := Tryz.zeroValue9 }
open Go.RowKit in
/-- strings.IndexByte: "IndexByte returns the index of the first instance of c in s, or -1 if c is not present in s.": IT RETURNS 'Lib.indexByte s c'; the world is as it was. (LAID: no walk: one application.) -/
theorem Tryz.strings_IndexByte (s : ByteArray) (c : Int) (w : World) :
    Calls Tryz.prog 137 #[.string s, .int .u8 c] w fun e w' => e = .returned (.int .i64 (Lib.indexByte s.data.toList c.toNat.toUInt8)) ∧ w' = w := Any.strings_IndexByte Tryz.lays137 s c w
open Go.RowKit in
/-- (*strings.Builder).String: "String returns the accumulated string.": WHATEVER THE BUILDER HOLDS; THE FORM '_k': OVER 'Lib.IsBuilderF' (a builder that 'String()' may have read), AND WITH THE FRAME THAT REACHES ABOVE THE BUILDER: 'Lib.OthersKept': every block that is not b and is no row of uint8's stands as it stood: the iterator of a range among them. (LAID: no walk: one application.) -/
theorem Tryz.Builder_String_any_k (B b : Nat) (l : List UInt8) (w : World) (h : Lib.IsBuilderF 51 5 B b (Lib.byteCells l) w) (hBw : B ≤ w.heap.size) :
    Calls Tryz.prog 31 #[.pointer (some ⟨b, 0, none⟩)] w fun e w' => e = .returned (.string ⟨l.toArray⟩) ∧ (Lib.IsBuilderF 51 5 B b (Lib.byteCells l) w' ∧ Below B w w' ∧ Lib.OthersKept 5 (some b) w w') := Any.Builder_String_any_k Tryz.lays169 Tryz.Builder_Extra_169 B b l w h hBw
def Tryz.lays143_ren : Go.Shelf.Ren := ⟨fun | 143 => 94 | 219 => 70 | 217 => 87 | 225 => 88 | 224 => 89 | 267 => 90 | 266 => 107 | 314 => 108 | n => n, fun | 9 => 9 | 3 => 3 | 4 => 4 | 5 => 5 | 46 => 94 | 146 => 116 | 51 => 109 | n => n, fun | 1 => 2 | n => n⟩
theorem Tryz.lays143 : Go.Proofs.Lays.n143 Tryz.prog Tryz.lays143_ren := {
  mixed := by kernel_rfl
  f143 := Tryz.func94.trans (congrArg some (by kernel_rfl))
  f217 := Tryz.func87.trans (congrArg some (by kernel_rfl))
  f219 := Tryz.func70.trans (congrArg some (by kernel_rfl))
  f224 := Tryz.func89.trans (congrArg some (by kernel_rfl))
  f225 := Tryz.func88.trans (congrArg some (by kernel_rfl))
  f266 := Tryz.func107.trans (congrArg some (by kernel_rfl))
  f267 := Tryz.func90.trans (congrArg some (by kernel_rfl))
  f314 := Tryz.func108.trans (congrArg some (by kernel_rfl))
  t3 := Tryz.underlying3
  a3 := Tryz.isAgg3
  z3 := Tryz.sizeOf3
  v3 := Tryz.zeroValue3
  t4 := Tryz.underlying4
  a4 := Tryz.isAgg4
  z4 := Tryz.sizeOf4
  v4 := Tryz.zeroValue4
  t5 := Tryz.underlying5
  a5 := Tryz.isAgg5
  z5 := Tryz.sizeOf5
  v5 := Tryz.zeroValue5
  t9 := Tryz.underlying9
  a9 := Tryz.isAgg9
  z9 := Tryz.sizeOf9
  v9 := Tryz.zeroValue9
  t46 := Tryz.underlying94
  a46 := Tryz.isAgg94
  z46 := Tryz.sizeOf94
  v46 := Tryz.zeroValue94
  t51 := Tryz.underlying109
  a51 := Tryz.isAgg109
  z51 := Tryz.sizeOf109
  v51 := Tryz.zeroValue109
  t146 := Tryz.underlying116
  a146 := Tryz.isAgg116
  z146 := Tryz.sizeOf116
  v146 := Tryz.zeroValue116
  g1 := by kernel_rfl }
open Go.RowKit Go.Lib in
/-- strings.Index: "Index returns the index of the first instance of substr in s, or -1 if substr is not present in s.": IT RETURNS 'Lib.index s substr'; the world is as it was. (LAID: no walk: one application.) -/
theorem Tryz.strings_Index (s sub : ByteArray) (m : Int) (w : World) (hs : s.size < 4294967281) (hm : w.cell? ⟨2, 0, none⟩ = some (.int .i64 m)) :
    Calls Tryz.prog 94 #[.string s, .string sub] w fun e w' => e = .returned (.int .i64 (Lib.index s.data.toList sub.data.toList)) ∧ w' = w := Any.strings_Index Tryz.lays143 s sub m w hs hm
def Tryz.lays145_ren : Go.Shelf.Ren := ⟨fun | 145 => 34 | 220 => 50 | 219 => 70 | 217 => 87 | 225 => 88 | 224 => 89 | 267 => 90 | 266 => 107 | 314 => 108 | n => n, fun | 9 => 9 | 4 => 4 | 59 => 60 | 3 => 3 | 5 => 5 | 46 => 94 | 146 => 116 | 51 => 109 | n => n, fun | 1 => 2 | n => n⟩
theorem Tryz.lays145 : Go.Proofs.Lays.n145 Tryz.prog Tryz.lays145_ren := {
  mixed := by kernel_rfl
  f145 := Tryz.func34.trans (congrArg some (by kernel_rfl))
  f217 := Tryz.func87.trans (congrArg some (by kernel_rfl))
  f219 := Tryz.func70.trans (congrArg some (by kernel_rfl))
  f220 := Tryz.func50.trans (congrArg some (by kernel_rfl))
  f224 := Tryz.func89.trans (congrArg some (by kernel_rfl))
  f225 := Tryz.func88.trans (congrArg some (by kernel_rfl))
  f266 := Tryz.func107.trans (congrArg some (by kernel_rfl))
  f267 := Tryz.func90.trans (congrArg some (by kernel_rfl))
  f314 := Tryz.func108.trans (congrArg some (by kernel_rfl))
  t3 := Tryz.underlying3
  a3 := Tryz.isAgg3
  z3 := Tryz.sizeOf3
  v3 := Tryz.zeroValue3
  t4 := Tryz.underlying4
  a4 := Tryz.isAgg4
  z4 := Tryz.sizeOf4
  v4 := Tryz.zeroValue4
  t5 := Tryz.underlying5
  a5 := Tryz.isAgg5
  z5 := Tryz.sizeOf5
  v5 := Tryz.zeroValue5
  t9 := Tryz.underlying9
  a9 := Tryz.isAgg9
  z9 := Tryz.sizeOf9
  v9 := Tryz.zeroValue9
  t46 := Tryz.underlying94
  a46 := Tryz.isAgg94
  z46 := Tryz.sizeOf94
  v46 := Tryz.zeroValue94
  t51 := Tryz.underlying109
  a51 := Tryz.isAgg109
  z51 := Tryz.sizeOf109
  v51 := Tryz.zeroValue109
  t59 := Tryz.underlying60
  a59 := Tryz.isAgg60
  z59 := Tryz.sizeOf60
  v59 := Tryz.zeroValue60
  t146 := Tryz.underlying116
  a146 := Tryz.isAgg116
  z146 := Tryz.sizeOf116
  v146 := Tryz.zeroValue116
  g1 := by kernel_rfl }
open Go.RowKit Go.Lib in
/-- strings.Cut: "Cut slices s around the first instance of sep, returning the text before and after sep. The found result reports whether sep appears in s. If sep does not appear in s, cut returns s, "", false.": IT RETURNS 'Lib.cut s sep'; the world is as it was but for the count of draws. (LAID: no walk: one application.) -/
theorem Tryz.strings_Cut (s sep : ByteArray) (m : Int) (w : World) (hs : s.size < 4294967281) (hm : w.cell? ⟨2, 0, none⟩ = some (.int .i64 m)) :
    Calls Tryz.prog 34 #[.string s, .string sep] w fun e w' => e = .returned (.tuple #[.string ⟨(Lib.cut s.data.toList sep.data.toList).1.toArray⟩, .string ⟨(Lib.cut s.data.toList sep.data.toList).2.1.toArray⟩, .bool (Lib.cut s.data.toList sep.data.toList).2.2]) ∧ ∃ n, w' = w.drewN n := Any.strings_Cut Tryz.lays145 s sep m w hs hm
def Tryz.lays138_ren : Go.Shelf.Ren := ⟨fun | 138 => 73 | 195 => 92 | 218 => 93 | 143 => 94 | 219 => 70 | 217 => 87 | 225 => 88 | 224 => 89 | 267 => 90 | 266 => 107 | 314 => 108 | n => n, fun | 9 => 9 | 3 => 3 | 4 => 4 | 5 => 5 | 0 => 0 | 46 => 94 | 146 => 116 | 51 => 109 | n => n, fun | 1 => 2 | n => n⟩
theorem Tryz.lays138 : Go.Proofs.Lays.n138 Tryz.prog Tryz.lays138_ren := {
  mixed := by kernel_rfl
  f138 := Tryz.func73.trans (congrArg some (by kernel_rfl))
  f143 := Tryz.func94.trans (congrArg some (by kernel_rfl))
  f195 := Tryz.func92.trans (congrArg some (by kernel_rfl))
  f217 := Tryz.func87.trans (congrArg some (by kernel_rfl))
  f218 := Tryz.func93.trans (congrArg some (by kernel_rfl))
  f219 := Tryz.func70.trans (congrArg some (by kernel_rfl))
  f224 := Tryz.func89.trans (congrArg some (by kernel_rfl))
  f225 := Tryz.func88.trans (congrArg some (by kernel_rfl))
  f266 := Tryz.func107.trans (congrArg some (by kernel_rfl))
  f267 := Tryz.func90.trans (congrArg some (by kernel_rfl))
  f314 := Tryz.func108.trans (congrArg some (by kernel_rfl))
  t0 := Tryz.underlying0
  a0 := Tryz.isAgg0
  z0 := Tryz.sizeOf0
  v0 := Tryz.zeroValue0
  t3 := Tryz.underlying3
  a3 := Tryz.isAgg3
  z3 := Tryz.sizeOf3
  v3 := Tryz.zeroValue3
  t4 := Tryz.underlying4
  a4 := Tryz.isAgg4
  z4 := Tryz.sizeOf4
  v4 := Tryz.zeroValue4
  t5 := Tryz.underlying5
  a5 := Tryz.isAgg5
  z5 := Tryz.sizeOf5
  v5 := Tryz.zeroValue5
  t9 := Tryz.underlying9
  a9 := Tryz.isAgg9
  z9 := Tryz.sizeOf9
  v9 := Tryz.zeroValue9
  t46 := Tryz.underlying94
  a46 := Tryz.isAgg94
  z46 := Tryz.sizeOf94
  v46 := Tryz.zeroValue94
  t51 := Tryz.underlying109
  a51 := Tryz.isAgg109
  z51 := Tryz.sizeOf109
  v51 := Tryz.zeroValue109
  t146 := Tryz.underlying116
  a146 := Tryz.isAgg116
  z146 := Tryz.sizeOf116
  v146 := Tryz.zeroValue116
  g1 := by kernel_rfl }
open Go.RowKit Go.Lib in
/-- strings.Count AT A substr OF ONE BYTE ('hp'): "Count counts the number of non-overlapping instances of substr in s.": IT RETURNS 'Lib.countByte s (that byte)'; the world is as it was. ✋ NO CONTRACT HERE YET at an empty substr (utf8.RuneCountInString) or at a longer one (a loop over strings.Index). (LAID: no walk: one application.) -/
theorem Tryz.strings_Count_one (s : ByteArray) (c : UInt8) (w : World) :
    Calls Tryz.prog 73 #[.string s, .string ⟨#[c]⟩] w fun e w' => e = .returned (.int .i64 (Lib.countByte s.data.toList c)) ∧ w' = w := Any.strings_Count_one Tryz.lays138 s c w
def Tryz.lays99_ren : Go.Shelf.Ren := ⟨fun | 99 => 83 | 206 => 103 | n => n, fun | 9 => 9 | 4 => 4 | 3 => 3 | n => n, fun | n => n⟩
theorem Tryz.lays99 : Go.Proofs.Lays.n99 Tryz.prog Tryz.lays99_ren := {
  mixed := by kernel_rfl
  f99 := Tryz.func83.trans (congrArg some (by kernel_rfl))
  f206 := Tryz.func103.trans (congrArg some (by kernel_rfl))
  t3 := Tryz.underlying3
  a3 := Tryz.isAgg3
  z3 := Tryz.sizeOf3
  v3 := Tryz.zeroValue3
  t4 := Tryz.underlying4
  a4 := Tryz.isAgg4
  z4 := Tryz.sizeOf4
  v4 := Tryz.zeroValue4
  t9 := Tryz.underlying9
  a9 := Tryz.isAgg9
  z9 := Tryz.sizeOf9
  v9 := Tryz.zeroValue9 }
open Go.RowKit Go.Lib in
/-- strings.HasPrefix: "HasPrefix reports whether the string s begins with prefix.": IT RETURNS 'Lib.hasPrefix s prefix'; the world is as it was. (LAID: no walk: one application.) -/
theorem Tryz.strings_HasPrefix (s p : ByteArray) (w : World) :
    Calls Tryz.prog 83 #[.string s, .string p] w fun e w' => e = .returned (.bool (Lib.hasPrefix s.data.toList p.data.toList)) ∧ w' = w := Any.strings_HasPrefix Tryz.lays99 s p w
def Tryz.lays146_ren : Go.Shelf.Ren := ⟨fun | 146 => 74 | 221 => 95 | 268 => 110 | 138 => 73 | 143 => 94 | 195 => 92 | 197 => 57 | 218 => 93 | 219 => 70 | 260 => 77 | 217 => 87 | 225 => 88 | 224 => 89 | 267 => 90 | 266 => 107 | 314 => 108 | n => n, fun | 9 => 9 | 31 => 23 | 3 => 3 | 4 => 4 | 0 => 0 | 105 => 63 | 21 => 21 | 5 => 5 | 46 => 94 | 119 => 90 | 139 => 93 | 138 => 92 | 146 => 116 | 51 => 109 | n => n, fun | 1 => 2 | 3 => 0 | 4 => 1 | n => n⟩
theorem Tryz.lays146 : Go.Proofs.Lays.n146 Tryz.prog Tryz.lays146_ren := {
  mixed := by kernel_rfl
  f138 := Tryz.func73.trans (congrArg some (by kernel_rfl))
  f143 := Tryz.func94.trans (congrArg some (by kernel_rfl))
  f146 := Tryz.func74.trans (congrArg some (by kernel_rfl))
  f195 := Tryz.func92.trans (congrArg some (by kernel_rfl))
  f197 := Tryz.func57.trans (congrArg some (by kernel_rfl))
  f217 := Tryz.func87.trans (congrArg some (by kernel_rfl))
  f218 := Tryz.func93.trans (congrArg some (by kernel_rfl))
  f219 := Tryz.func70.trans (congrArg some (by kernel_rfl))
  f221 := Tryz.func95.trans (congrArg some (by kernel_rfl))
  f224 := Tryz.func89.trans (congrArg some (by kernel_rfl))
  f225 := Tryz.func88.trans (congrArg some (by kernel_rfl))
  f260 := Tryz.func77.trans (congrArg some (by kernel_rfl))
  f266 := Tryz.func107.trans (congrArg some (by kernel_rfl))
  f267 := Tryz.func90.trans (congrArg some (by kernel_rfl))
  f268 := Tryz.func110.trans (congrArg some (by kernel_rfl))
  f314 := Tryz.func108.trans (congrArg some (by kernel_rfl))
  t0 := Tryz.underlying0
  a0 := Tryz.isAgg0
  z0 := Tryz.sizeOf0
  v0 := Tryz.zeroValue0
  t3 := Tryz.underlying3
  a3 := Tryz.isAgg3
  z3 := Tryz.sizeOf3
  v3 := Tryz.zeroValue3
  t4 := Tryz.underlying4
  a4 := Tryz.isAgg4
  z4 := Tryz.sizeOf4
  v4 := Tryz.zeroValue4
  t5 := Tryz.underlying5
  a5 := Tryz.isAgg5
  z5 := Tryz.sizeOf5
  v5 := Tryz.zeroValue5
  t9 := Tryz.underlying9
  a9 := Tryz.isAgg9
  z9 := Tryz.sizeOf9
  v9 := Tryz.zeroValue9
  t21 := Tryz.underlying21
  a21 := Tryz.isAgg21
  z21 := Tryz.sizeOf21
  v21 := Tryz.zeroValue21
  t31 := Tryz.underlying23
  a31 := Tryz.isAgg23
  z31 := Tryz.sizeOf23
  v31 := Tryz.zeroValue23
  t46 := Tryz.underlying94
  a46 := Tryz.isAgg94
  z46 := Tryz.sizeOf94
  v46 := Tryz.zeroValue94
  t51 := Tryz.underlying109
  a51 := Tryz.isAgg109
  z51 := Tryz.sizeOf109
  v51 := Tryz.zeroValue109
  t105 := Tryz.underlying63
  a105 := Tryz.isAgg63
  z105 := Tryz.sizeOf63
  v105 := Tryz.zeroValue63
  t119 := Tryz.underlying90
  a119 := Tryz.isAgg90
  z119 := Tryz.sizeOf90
  t138 := Tryz.underlying92
  a138 := Tryz.isAgg92
  z138 := Tryz.sizeOf92
  v138 := Tryz.zeroValue92
  t139 := Tryz.underlying93
  a139 := Tryz.isAgg93
  z139 := Tryz.sizeOf93
  v139 := Tryz.zeroValue93
  t146 := Tryz.underlying116
  a146 := Tryz.isAgg116
  z146 := Tryz.sizeOf116
  v146 := Tryz.zeroValue116
  g1 := by kernel_rfl
  g3 := by kernel_rfl
  g4 := by kernel_rfl }
open Go.RowKit Go.Lib in
/-- strings.Split. (LAID: no walk: one application.) -/
theorem Tryz.strings_Split (s sep : ByteArray) (m : Int) (w : World) (hs : s.size < 4294967281) (hm : w.cell? ⟨2, 0, none⟩ = some (.int .i64 m)) (h1 : 1 ≤ sep.size) :
    Calls Tryz.prog 74 #[.string s, .string sep] w fun e w' =>
      e = .returned (.slice (some ⟨w.heap.size, 0, none⟩) (Lib.countB s sep + 1) (Lib.countB s sep + 1)) ∧ w' = w.alloc (.cells ((Lib.splitB sep 0 (Lib.countB s sep) s).map Value.string).toArray 9) := Any.strings_Split Tryz.lays146 (by kernel_rfl) s sep m w hs hm h1
def Tryz.lays155_ren : Go.Shelf.Ren := ⟨fun | 155 => 64 | 154 => 79 | 138 => 73 | 165 => 84 | 143 => 94 | 166 => 29 | 197 => 57 | 169 => 31 | 195 => 92 | 218 => 93 | 240 => 42 | 241 => 104 | 219 => 70 | 260 => 77 | 276 => 62 | 277 => 116 | 217 => 87 | 225 => 88 | 224 => 89 | 267 => 90 | 266 => 107 | 314 => 108 | n => n, fun | 9 => 9 | 3 => 3 | 4 => 4 | 72 => 51 | 0 => 0 | 76 => 54 | 105 => 63 | 21 => 21 | 5 => 5 | 70 => 48 | 20 => 20 | 37 => 49 | 75 => 53 | 127 => 67 | 164 => 79 | 46 => 94 | 119 => 90 | 139 => 93 | 138 => 92 | 146 => 116 | 51 => 109 | 80 => 57 | n => n, fun | 1 => 2 | 3 => 0 | 4 => 1 | n => n⟩
theorem Tryz.lays155 : Go.Proofs.Lays.n155 Tryz.prog Tryz.lays155_ren := {
  mixed := by kernel_rfl
  f138 := Tryz.func73.trans (congrArg some (by kernel_rfl))
  f143 := Tryz.func94.trans (congrArg some (by kernel_rfl))
  f154 := Tryz.func79.trans (congrArg some (by kernel_rfl))
  f155 := Tryz.func64.trans (congrArg some (by kernel_rfl))
  f165 := Tryz.func84.trans (congrArg some (by kernel_rfl))
  f166 := Tryz.func29.trans (congrArg some (by kernel_rfl))
  f169 := Tryz.func31.trans (congrArg some (by kernel_rfl))
  f195 := Tryz.func92.trans (congrArg some (by kernel_rfl))
  f197 := Tryz.func57.trans (congrArg some (by kernel_rfl))
  f217 := Tryz.func87.trans (congrArg some (by kernel_rfl))
  f218 := Tryz.func93.trans (congrArg some (by kernel_rfl))
  f219 := Tryz.func70.trans (congrArg some (by kernel_rfl))
  f224 := Tryz.func89.trans (congrArg some (by kernel_rfl))
  f225 := Tryz.func88.trans (congrArg some (by kernel_rfl))
  f240 := Tryz.func42.trans (congrArg some (by kernel_rfl))
  f241 := Tryz.func104.trans (congrArg some (by kernel_rfl))
  f260 := Tryz.func77.trans (congrArg some (by kernel_rfl))
  f266 := Tryz.func107.trans (congrArg some (by kernel_rfl))
  f267 := Tryz.func90.trans (congrArg some (by kernel_rfl))
  f276 := Tryz.func62.trans (congrArg some (by kernel_rfl))
  f277 := Tryz.func116.trans (congrArg some (by kernel_rfl))
  f314 := Tryz.func108.trans (congrArg some (by kernel_rfl))
  t0 := Tryz.underlying0
  a0 := Tryz.isAgg0
  z0 := Tryz.sizeOf0
  v0 := Tryz.zeroValue0
  t3 := Tryz.underlying3
  a3 := Tryz.isAgg3
  z3 := Tryz.sizeOf3
  v3 := Tryz.zeroValue3
  t4 := Tryz.underlying4
  a4 := Tryz.isAgg4
  z4 := Tryz.sizeOf4
  v4 := Tryz.zeroValue4
  t5 := Tryz.underlying5
  a5 := Tryz.isAgg5
  z5 := Tryz.sizeOf5
  v5 := Tryz.zeroValue5
  t9 := Tryz.underlying9
  a9 := Tryz.isAgg9
  z9 := Tryz.sizeOf9
  v9 := Tryz.zeroValue9
  t20 := Tryz.underlying20
  a20 := Tryz.isAgg20
  z20 := Tryz.sizeOf20
  v20 := Tryz.zeroValue20
  t21 := Tryz.underlying21
  a21 := Tryz.isAgg21
  z21 := Tryz.sizeOf21
  v21 := Tryz.zeroValue21
  t37 := Tryz.underlying49
  a37 := Tryz.isAgg49
  z37 := Tryz.sizeOf49
  v37 := Tryz.zeroValue49
  t46 := Tryz.underlying94
  a46 := Tryz.isAgg94
  z46 := Tryz.sizeOf94
  v46 := Tryz.zeroValue94
  t51 := Tryz.underlying109
  a51 := Tryz.isAgg109
  z51 := Tryz.sizeOf109
  v51 := Tryz.zeroValue109
  t70 := Tryz.underlying48
  a70 := Tryz.isAgg48
  z70 := Tryz.sizeOf48
  v70 := Tryz.zeroValue48
  t72 := Tryz.underlying51
  a72 := Tryz.isAgg51
  z72 := Tryz.sizeOf51
  v72 := Tryz.zeroValue51
  t75 := Tryz.underlying53
  a75 := Tryz.isAgg53
  z75 := Tryz.sizeOf53
  v75 := Tryz.zeroValue53
  t76 := Tryz.underlying54
  a76 := Tryz.isAgg54
  z76 := Tryz.sizeOf54
  v76 := Tryz.zeroValue54
  t105 := Tryz.underlying63
  a105 := Tryz.isAgg63
  z105 := Tryz.sizeOf63
  v105 := Tryz.zeroValue63
  t119 := Tryz.underlying90
  a119 := Tryz.isAgg90
  z119 := Tryz.sizeOf90
  t127 := Tryz.underlying67
  a127 := Tryz.isAgg67
  z127 := Tryz.sizeOf67
  v127 := Tryz.zeroValue67
  t138 := Tryz.underlying92
  a138 := Tryz.isAgg92
  z138 := Tryz.sizeOf92
  v138 := Tryz.zeroValue92
  t139 := Tryz.underlying93
  a139 := Tryz.isAgg93
  z139 := Tryz.sizeOf93
  v139 := Tryz.zeroValue93
  t146 := Tryz.underlying116
  a146 := Tryz.isAgg116
  z146 := Tryz.sizeOf116
  v146 := Tryz.zeroValue116
  t164 := Tryz.underlying79
  a164 := Tryz.isAgg79
  z164 := Tryz.sizeOf79
  v164 := Tryz.zeroValue79
  g1 := by kernel_rfl
  g3 := by kernel_rfl
  g4 := by kernel_rfl }
theorem Tryz.Builder_Extra_155 : Builder.Extra Tryz.prog Tryz.lays155_ren := {
  sizeBuilder := by kernel_rfl
  liesBuilder := by kernel_rfl
  t5 := Tryz.underlying5
  a5 := Tryz.isAgg5
  z5 := Tryz.sizeOf5
  v5 := Tryz.zeroValue5
  infoByte := by kernel_rfl
  cellsByte := by kernel_rfl
  sizeByte := by kernel_rfl
  neB5 := by decide }
open Go.RowKit Go.Lib in
/-- strings.ReplaceAll: "ReplaceAll returns a copy of the string s with all non-overlapping instances of old replaced by new.": AT AN old THAT IS NOT EMPTY: 'Lib.replaceAll s old new'. (LAID: no walk: one application.) -/
theorem Tryz.strings_ReplaceAll (s old new : ByteArray) (m : Int) (w : World) (hs : s.size < 4294967281) (hm : w.cell? ⟨2, 0, none⟩ = some (.int .i64 m)) (h1 : 1 ≤ old.size) (hlen : s.size + Lib.countB s old * new.size ≤ 140737488355328) :
    Calls Tryz.prog 64 #[.string s, .string old, .string new] w fun e w' =>
      e = .returned (.string ⟨(Lib.replaceAll s.data.toList old.data.toList new.data.toList).toArray⟩) ∧ Below w.heap.size w w' := Any.strings_ReplaceAll Tryz.lays155 Tryz.Builder_Extra_155 s old new m w hs hm h1 hlen
def Tryz.lays105_ren : Go.Shelf.Ren := ⟨fun | 105 => 68 | 212 => 82 | 99 => 83 | 165 => 84 | 166 => 29 | 170 => 85 | 169 => 31 | 263 => 101 | 264 => 102 | 206 => 103 | 240 => 42 | 241 => 104 | 276 => 62 | 277 => 116 | n => n, fun | 9 => 9 | 3 => 3 | 4 => 4 | 20 => 20 | 0 => 0 | 46 => 94 | 109 => 98 | 5 => 5 | 72 => 51 | 76 => 54 | 51 => 109 | 146 => 116 | 53 => 108 | 148 => 118 | 70 => 48 | 37 => 49 | 75 => 53 | 127 => 67 | 164 => 79 | 80 => 57 | n => n, fun | n => n⟩
theorem Tryz.lays105 : Go.Proofs.Lays.n105 Tryz.prog Tryz.lays105_ren := {
  mixed := by kernel_rfl
  f99 := Tryz.func83.trans (congrArg some (by kernel_rfl))
  f105 := Tryz.func68.trans (congrArg some (by kernel_rfl))
  f165 := Tryz.func84.trans (congrArg some (by kernel_rfl))
  f166 := Tryz.func29.trans (congrArg some (by kernel_rfl))
  f169 := Tryz.func31.trans (congrArg some (by kernel_rfl))
  f170 := Tryz.func85.trans (congrArg some (by kernel_rfl))
  f206 := Tryz.func103.trans (congrArg some (by kernel_rfl))
  f212 := Tryz.func82.trans (congrArg some (by kernel_rfl))
  f240 := Tryz.func42.trans (congrArg some (by kernel_rfl))
  f241 := Tryz.func104.trans (congrArg some (by kernel_rfl))
  f263 := Tryz.func101.trans (congrArg some (by kernel_rfl))
  f264 := Tryz.func102.trans (congrArg some (by kernel_rfl))
  f276 := Tryz.func62.trans (congrArg some (by kernel_rfl))
  f277 := Tryz.func116.trans (congrArg some (by kernel_rfl))
  t0 := Tryz.underlying0
  a0 := Tryz.isAgg0
  z0 := Tryz.sizeOf0
  v0 := Tryz.zeroValue0
  t3 := Tryz.underlying3
  a3 := Tryz.isAgg3
  z3 := Tryz.sizeOf3
  v3 := Tryz.zeroValue3
  t4 := Tryz.underlying4
  a4 := Tryz.isAgg4
  z4 := Tryz.sizeOf4
  v4 := Tryz.zeroValue4
  t5 := Tryz.underlying5
  a5 := Tryz.isAgg5
  z5 := Tryz.sizeOf5
  v5 := Tryz.zeroValue5
  t9 := Tryz.underlying9
  a9 := Tryz.isAgg9
  z9 := Tryz.sizeOf9
  v9 := Tryz.zeroValue9
  t20 := Tryz.underlying20
  a20 := Tryz.isAgg20
  z20 := Tryz.sizeOf20
  v20 := Tryz.zeroValue20
  t37 := Tryz.underlying49
  a37 := Tryz.isAgg49
  z37 := Tryz.sizeOf49
  v37 := Tryz.zeroValue49
  t46 := Tryz.underlying94
  a46 := Tryz.isAgg94
  z46 := Tryz.sizeOf94
  v46 := Tryz.zeroValue94
  t51 := Tryz.underlying109
  a51 := Tryz.isAgg109
  z51 := Tryz.sizeOf109
  v51 := Tryz.zeroValue109
  t53 := Tryz.underlying108
  a53 := Tryz.isAgg108
  z53 := Tryz.sizeOf108
  v53 := Tryz.zeroValue108
  t70 := Tryz.underlying48
  a70 := Tryz.isAgg48
  z70 := Tryz.sizeOf48
  v70 := Tryz.zeroValue48
  t72 := Tryz.underlying51
  a72 := Tryz.isAgg51
  z72 := Tryz.sizeOf51
  v72 := Tryz.zeroValue51
  t75 := Tryz.underlying53
  a75 := Tryz.isAgg53
  z75 := Tryz.sizeOf53
  v75 := Tryz.zeroValue53
  t76 := Tryz.underlying54
  a76 := Tryz.isAgg54
  z76 := Tryz.sizeOf54
  v76 := Tryz.zeroValue54
  t109 := Tryz.underlying98
  a109 := Tryz.isAgg98
  z109 := Tryz.sizeOf98
  v109 := Tryz.zeroValue98
  t127 := Tryz.underlying67
  a127 := Tryz.isAgg67
  z127 := Tryz.sizeOf67
  v127 := Tryz.zeroValue67
  t146 := Tryz.underlying116
  a146 := Tryz.isAgg116
  z146 := Tryz.sizeOf116
  v146 := Tryz.zeroValue116
  t148 := Tryz.underlying118
  a148 := Tryz.isAgg118
  z148 := Tryz.sizeOf118
  v148 := Tryz.zeroValue118
  t164 := Tryz.underlying79
  a164 := Tryz.isAgg79
  z164 := Tryz.sizeOf79
  v164 := Tryz.zeroValue79 }
theorem Tryz.Builder_Extra_105 : Builder.Extra Tryz.prog Tryz.lays105_ren := {
  sizeBuilder := by kernel_rfl
  liesBuilder := by kernel_rfl
  t5 := Tryz.underlying5
  a5 := Tryz.isAgg5
  z5 := Tryz.sizeOf5
  v5 := Tryz.zeroValue5
  infoByte := by kernel_rfl
  cellsByte := by kernel_rfl
  sizeByte := by kernel_rfl
  neB5 := by decide }
open Go.RowKit Go.Lib in
/-- **strings.Repeat: count ≥ 0, the result within one allocation: count copies of s.** (LAID: no walk: one application.) -/
theorem Tryz.strings_Repeat (s : ByteArray) (c : Nat) (w : World) (hc : c ≤ 9223372036854775807) (hlen : s.size * c ≤ 140737488355328) :
    Calls Tryz.prog 68 #[.string s, .int .i64 c] w fun e w' => e = .returned (.string ⟨(Lib.repeatL s.data.toList c).toArray⟩) ∧ Below w.heap.size w w' := Any.strings_Repeat Tryz.lays105 Tryz.Builder_Extra_105 s c w hc hlen
def Tryz.lays197_ren : Go.Shelf.Ren := ⟨fun | 197 => 57 | 260 => 77 | n => n, fun | 9 => 9 | 21 => 21 | 3 => 3 | 4 => 4 | 5 => 5 | 105 => 63 | 119 => 90 | 0 => 0 | 46 => 94 | 139 => 93 | 138 => 92 | n => n, fun | 3 => 0 | 4 => 1 | n => n⟩
theorem Tryz.lays197 : Go.Proofs.Lays.n197 Tryz.prog Tryz.lays197_ren := {
  mixed := by kernel_rfl
  f197 := Tryz.func57.trans (congrArg some (by kernel_rfl))
  f260 := Tryz.func77.trans (congrArg some (by kernel_rfl))
  t0 := Tryz.underlying0
  a0 := Tryz.isAgg0
  z0 := Tryz.sizeOf0
  v0 := Tryz.zeroValue0
  t3 := Tryz.underlying3
  a3 := Tryz.isAgg3
  z3 := Tryz.sizeOf3
  v3 := Tryz.zeroValue3
  t4 := Tryz.underlying4
  a4 := Tryz.isAgg4
  z4 := Tryz.sizeOf4
  v4 := Tryz.zeroValue4
  t5 := Tryz.underlying5
  a5 := Tryz.isAgg5
  z5 := Tryz.sizeOf5
  v5 := Tryz.zeroValue5
  t9 := Tryz.underlying9
  a9 := Tryz.isAgg9
  z9 := Tryz.sizeOf9
  v9 := Tryz.zeroValue9
  t21 := Tryz.underlying21
  a21 := Tryz.isAgg21
  z21 := Tryz.sizeOf21
  v21 := Tryz.zeroValue21
  t46 := Tryz.underlying94
  a46 := Tryz.isAgg94
  z46 := Tryz.sizeOf94
  v46 := Tryz.zeroValue94
  t105 := Tryz.underlying63
  a105 := Tryz.isAgg63
  z105 := Tryz.sizeOf63
  v105 := Tryz.zeroValue63
  t119 := Tryz.underlying90
  a119 := Tryz.isAgg90
  z119 := Tryz.sizeOf90
  t138 := Tryz.underlying92
  a138 := Tryz.isAgg92
  z138 := Tryz.sizeOf92
  v138 := Tryz.zeroValue92
  t139 := Tryz.underlying93
  a139 := Tryz.isAgg93
  z139 := Tryz.sizeOf93
  v139 := Tryz.zeroValue93
  g3 := by kernel_rfl
  g4 := by kernel_rfl }
open Go.RowKit Go.Lib in
/-- **unicode/utf8.DecodeRuneInString AT EVERY STRING.** (LAID: no walk: one application.) -/
theorem Tryz.utf8_DecodeRuneInString (s : ByteArray) (w : World) (hT : Lib.Utf8Tabs 0 1 w) :
    Calls Tryz.prog 57 #[.string s] w fun e w' => e = .returned (.tuple #[.int .i32 (Lib.decodeGo s).1, .int .i64 (Lib.decodeGo s).2]) ∧ Below w.heap.size w w' := Any.utf8_DecodeRuneInString Tryz.lays197 s w hT
def Tryz.laysValid_ren : Go.Shelf.Ren := ⟨fun | 196 => 56 | 259 => 76 | n => n, fun | 9 => 9 | 4 => 4 | 3 => 3 | 5 => 5 | 12 => 12 | 119 => 90 | 0 => 0 | 46 => 94 | 139 => 93 | 138 => 92 | 53 => 108 | n => n, fun | 3 => 0 | 4 => 1 | n => n⟩
theorem Tryz.laysValid : Go.Proofs.Lays.n196 Tryz.prog Tryz.laysValid_ren := {
  mixed := by kernel_rfl
  f196 := Tryz.func56.trans (congrArg some (by kernel_rfl))
  f259 := Tryz.func76.trans (congrArg some (by kernel_rfl))
  t0 := Tryz.underlying0
  a0 := Tryz.isAgg0
  z0 := Tryz.sizeOf0
  v0 := Tryz.zeroValue0
  t3 := Tryz.underlying3
  a3 := Tryz.isAgg3
  z3 := Tryz.sizeOf3
  v3 := Tryz.zeroValue3
  t4 := Tryz.underlying4
  a4 := Tryz.isAgg4
  z4 := Tryz.sizeOf4
  v4 := Tryz.zeroValue4
  t5 := Tryz.underlying5
  a5 := Tryz.isAgg5
  z5 := Tryz.sizeOf5
  v5 := Tryz.zeroValue5
  t9 := Tryz.underlying9
  a9 := Tryz.isAgg9
  z9 := Tryz.sizeOf9
  v9 := Tryz.zeroValue9
  t12 := Tryz.underlying12
  a12 := Tryz.isAgg12
  z12 := Tryz.sizeOf12
  v12 := Tryz.zeroValue12
  t46 := Tryz.underlying94
  a46 := Tryz.isAgg94
  z46 := Tryz.sizeOf94
  v46 := Tryz.zeroValue94
  t53 := Tryz.underlying108
  a53 := Tryz.isAgg108
  z53 := Tryz.sizeOf108
  v53 := Tryz.zeroValue108
  t119 := Tryz.underlying90
  a119 := Tryz.isAgg90
  z119 := Tryz.sizeOf90
  t138 := Tryz.underlying92
  a138 := Tryz.isAgg92
  z138 := Tryz.sizeOf92
  v138 := Tryz.zeroValue92
  t139 := Tryz.underlying93
  a139 := Tryz.isAgg93
  z139 := Tryz.sizeOf93
  v139 := Tryz.zeroValue93
  g3 := by kernel_rfl
  g4 := by kernel_rfl }
open Go.RowKit in
theorem Tryz.utf8_ValidString (s : ByteArray) (w : World) (hs : s.size ≤ 9223372036854775807) (hT : Lib.Utf8Tabs 0 1 w) :
    Calls Tryz.prog 56 #[.string s] w fun e w' => e = .returned (.bool (Lib.validD s.data.toList)) ∧ Below w.heap.size w w' := Any.utf8_ValidString Tryz.laysValid s w hs hT
end Go.Proofs
