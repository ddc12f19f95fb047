import Derived.Shelf.Strings.BuilderK
import Derived.Shelf.Strings.BuilderRune
import Derived.Shelf.Strings.MapGrows
import Derived.Test.YtmghlaajocgoaaaGreatDoorProg
import Derived.KernelRfl
/-! The shelf's contract of one of the builder's writers, laid by hand. -/
namespace Go.Proofs
open Go.Shelf
def Tryz.laysB168_ren : Go.Shelf.Ren := ⟨fun | 168 => 74 | 240 => 92 | 242 => 93 | 276 => 102 | 278 => 103 | n => n, fun | 0 => 0 | 3 => 3 | 4 => 4 | 5 => 5 | 9 => 9 | 20 => 20 | 21 => 21 | 37 => 108 | 46 => 142 | 51 => 137 | 53 => 148 | 70 => 107 | 72 => 110 | 75 => 114 | 80 => 111 | 164 => 135 | 127 => 130 | n => n, fun | n => n⟩
theorem Tryz.laysB168 : Go.Proofs.Lays.n168 Tryz.prog Tryz.laysB168_ren := {
  mixed := by kernel_rfl
  f168 := Tryz.func74.trans (congrArg some (by kernel_rfl))
  f240 := Tryz.func92.trans (congrArg some (by kernel_rfl))
  f242 := Tryz.func93.trans (congrArg some (by kernel_rfl))
  f276 := Tryz.func102.trans (congrArg some (by kernel_rfl))
  f278 := Tryz.func103.trans (congrArg some (by kernel_rfl))
  t0 := Tryz.underlying0
  a0 := Tryz.isAgg0
  z0 := Tryz.sizeOf0
  v0 := Tryz.zeroValue0
  t3 := Tryz.underlying3
  a3 := Tryz.isAgg3
  z3 := Tryz.sizeOf3
  v3 := Tryz.zeroValue3
  t4 := Tryz.underlying4
  a4 := Tryz.isAgg4
  z4 := Tryz.sizeOf4
  v4 := Tryz.zeroValue4
  t5 := Tryz.underlying5
  a5 := Tryz.isAgg5
  z5 := Tryz.sizeOf5
  v5 := Tryz.zeroValue5
  t9 := Tryz.underlying9
  a9 := Tryz.isAgg9
  z9 := Tryz.sizeOf9
  v9 := Tryz.zeroValue9
  t20 := Tryz.underlying20
  a20 := Tryz.isAgg20
  z20 := Tryz.sizeOf20
  v20 := Tryz.zeroValue20
  t21 := Tryz.underlying21
  a21 := Tryz.isAgg21
  z21 := Tryz.sizeOf21
  v21 := Tryz.zeroValue21
  t37 := Tryz.underlying108
  a37 := Tryz.isAgg108
  z37 := Tryz.sizeOf108
  v37 := Tryz.zeroValue108
  t46 := Tryz.underlying142
  a46 := Tryz.isAgg142
  z46 := Tryz.sizeOf142
  v46 := Tryz.zeroValue142
  t51 := Tryz.underlying137
  a51 := Tryz.isAgg137
  z51 := Tryz.sizeOf137
  v51 := Tryz.zeroValue137
  t70 := Tryz.underlying107
  a70 := Tryz.isAgg107
  z70 := Tryz.sizeOf107
  v70 := Tryz.zeroValue107
  t72 := Tryz.underlying110
  a72 := Tryz.isAgg110
  z72 := Tryz.sizeOf110
  v72 := Tryz.zeroValue110
  t75 := Tryz.underlying114
  a75 := Tryz.isAgg114
  z75 := Tryz.sizeOf114
  v75 := Tryz.zeroValue114
  t164 := Tryz.underlying135
  a164 := Tryz.isAgg135
  z164 := Tryz.sizeOf135
  v164 := Tryz.zeroValue135
}
theorem Tryz.BuilderB168_Extra : Builder.Extra Tryz.prog Tryz.laysB168_ren where
  sizeBuilder := by kernel_rfl
  liesBuilder := by kernel_rfl
  t5 := Tryz.underlying5
  a5 := Tryz.isAgg5
  z5 := Tryz.sizeOf5
  v5 := Tryz.zeroValue5
  infoByte := by kernel_rfl
  cellsByte := by kernel_rfl
  sizeByte := by kernel_rfl
  neB5 := by decide
namespace YtmghlaajocgoaaaGreatDoor
open Go.RowKit
/-- Block b is a builder that holds l. -/
def Bld (B b : Nat) (l : List UInt8) (w : World) : Prop := Lib.IsBuilderF 110 5 B b (Lib.byteCells l) w
theorem Bld.new (w : World) : Bld w.heap.size w.heap.size [] (w.alloc (.cells #[.pointer none, .slice none 0 0] 110)) := Lib.IsBuilderF.of (Lib.fresh_isBuilder 110 5 w)
theorem Bld.keep {B b : Nat} {l : List UInt8} {w w' : World} (h : Bld B b l w) (hb : Below w.heap.size w w') : Bld B b l w' := Lib.IsBuilderF.below h hb
theorem writeRune_any (B b : Nat) (l : List UInt8) (r : Int) (w : World) (h : Bld B b l w) (hr : 0 ≤ r ∧ r ≤ 1114111) (hl : l.length ≤ 4294967296) (hB : B ≤ w.heap.size) :
    Calls Tryz.prog 74 #[.pointer (some ⟨b, 0, none⟩), .int .i32 r] w fun e w' => e = .returned (.tuple #[.int .i64 (Lib.runeCells r).length, .nilIface]) ∧ Bld B b (l ++ Lib.encodeRune r) w' ∧ Below B w w' ∧ Lib.OthersKept 5 (some b) w w' :=
  (Any.Builder_WriteRune_k Tryz.laysB168 Tryz.BuilderB168_Extra B b _ r (by omega) (by omega) w h (by rw [Lib.byteCells_length]; omega) hB).mono fun _ _ ⟨h1, h2, h3, h4⟩ => ⟨h1, by unfold Bld; rw [Lib.byteCells_append, Lib.byteCells_encodeRune]; exact Or.inr h2, h3, h4⟩

end YtmghlaajocgoaaaGreatDoor
end Go.Proofs
