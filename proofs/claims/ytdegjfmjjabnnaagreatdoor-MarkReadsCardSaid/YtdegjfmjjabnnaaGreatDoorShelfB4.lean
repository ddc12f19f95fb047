import Derived.Shelf.Strings.BuilderK
import Derived.Shelf.Strings.MapGrows
import Derived.Test.YtdegjfmjjabnnaaGreatDoorProg
import Derived.KernelRfl
/-! The shelf's contract of one of the builder's writers, laid by hand. -/
namespace Go.Proofs
open Go.Shelf
def Tryz.laysB166_ren : Go.Shelf.Ren := ⟨fun | 166 => 24 | 240 => 41 | 276 => 57 | n => n, fun | 0 => 0 | 3 => 3 | 4 => 4 | 5 => 5 | 9 => 9 | 20 => 20 | 21 => 21 | 37 => 55 | 46 => 86 | 51 => 110 | 53 => 113 | 70 => 54 | 72 => 57 | 75 => 61 | 80 => 66 | 164 => 93 | 127 => 79 | n => n, fun | n => n⟩
theorem Tryz.laysB166 : Go.Proofs.Lays.n166 Tryz.prog Tryz.laysB166_ren := {
  mixed := by kernel_rfl
  f166 := Tryz.func24.trans (congrArg some (by kernel_rfl))
  f240 := Tryz.func41.trans (congrArg some (by kernel_rfl))
  f276 := Tryz.func57.trans (congrArg some (by kernel_rfl))
  t0 := Tryz.underlying0
  a0 := Tryz.isAgg0
  z0 := Tryz.sizeOf0
  v0 := Tryz.zeroValue0
  t3 := Tryz.underlying3
  a3 := Tryz.isAgg3
  z3 := Tryz.sizeOf3
  v3 := Tryz.zeroValue3
  t4 := Tryz.underlying4
  a4 := Tryz.isAgg4
  z4 := Tryz.sizeOf4
  v4 := Tryz.zeroValue4
  t9 := Tryz.underlying9
  a9 := Tryz.isAgg9
  z9 := Tryz.sizeOf9
  v9 := Tryz.zeroValue9
  t20 := Tryz.underlying20
  a20 := Tryz.isAgg20
  z20 := Tryz.sizeOf20
  v20 := Tryz.zeroValue20
  t37 := Tryz.underlying55
  a37 := Tryz.isAgg55
  z37 := Tryz.sizeOf55
  v37 := Tryz.zeroValue55
  t70 := Tryz.underlying54
  a70 := Tryz.isAgg54
  z70 := Tryz.sizeOf54
  v70 := Tryz.zeroValue54
  t72 := Tryz.underlying57
  a72 := Tryz.isAgg57
  z72 := Tryz.sizeOf57
  v72 := Tryz.zeroValue57
  t75 := Tryz.underlying61
  a75 := Tryz.isAgg61
  z75 := Tryz.sizeOf61
  v75 := Tryz.zeroValue61
  t164 := Tryz.underlying93
  a164 := Tryz.isAgg93
  z164 := Tryz.sizeOf93
  v164 := Tryz.zeroValue93
}
theorem Tryz.BuilderB166_Extra : Builder.Extra Tryz.prog Tryz.laysB166_ren where
  sizeBuilder := by kernel_rfl
  liesBuilder := by kernel_rfl
  t5 := Tryz.underlying5
  a5 := Tryz.isAgg5
  z5 := Tryz.sizeOf5
  v5 := Tryz.zeroValue5
  infoByte := by kernel_rfl
  cellsByte := by kernel_rfl
  sizeByte := by kernel_rfl
  neB5 := by decide
namespace YtdegjfmjjabnnaaGreatDoor
open Go.RowKit
def Bld (B b : Nat) (l : List UInt8) (w : World) : Prop := Lib.IsBuilderF 57 5 B b (Lib.byteCells l) w
theorem Bld.new (w : World) : Bld w.heap.size w.heap.size [] (w.alloc (.cells #[.pointer none, .slice none 0 0] 57)) := Lib.IsBuilderF.of (Lib.fresh_isBuilder 57 5 w)
theorem Bld.keep {B b : Nat} {l : List UInt8} {w w' : World} (h : Bld B b l w) (hb : Below w.heap.size w w') : Bld B b l w' := Lib.IsBuilderF.below h hb
theorem writeString_any (B b : Nat) (l s : List UInt8) (w : World) (h : Bld B b l w) (hl : l.length + s.length ≤ 140737488355328) (hB : B ≤ w.heap.size) :
    Calls Tryz.prog 24 #[.pointer (some ⟨b, 0, none⟩), .string ⟨s.toArray⟩] w fun e w' => e = .returned (.tuple #[.int .i64 s.length, .nilIface]) ∧ Bld B b (l ++ s) w' ∧ Below B w w' ∧ Lib.OthersKept 5 (some b) w w' := by
  have hz : (⟨s.toArray⟩ : ByteArray).size = s.length := by simp [ByteArray.size]
  have hc := Any.Builder_WriteString_k Tryz.laysB166 Tryz.BuilderB166_Extra B b _ ⟨s.toArray⟩ w h (by rw [Lib.byteCells_length, hz]; omega) hB
  rw [hz] at hc
  exact hc.mono fun _ _ ⟨h1, h2, h3, h4⟩ => ⟨h1, by unfold Bld; rw [Lib.byteCells_append]; exact Or.inr h2, h3, h4⟩

end YtdegjfmjjabnnaaGreatDoor
end Go.Proofs
