import Derived.Shelf.Strings.BuilderK
import Derived.Shelf.Strings.MapGrows
import Derived.Test.YtdegjfmjjabnnaaDoorProg
import Derived.KernelRfl
/-! The shelf's contract of one of the builder's writers, laid by hand. -/
namespace Go.Proofs
open Go.Shelf
def Tryd.laysB166_ren : Go.Shelf.Ren := ⟨fun | 166 => 23 | 240 => 38 | 276 => 51 | n => n, fun | 0 => 0 | 3 => 3 | 4 => 4 | 5 => 5 | 9 => 9 | 20 => 20 | 21 => 21 | 37 => 44 | 46 => 78 | 51 => 97 | 53 => 100 | 70 => 43 | 72 => 46 | 75 => 50 | 80 => 55 | 164 => 84 | 127 => 70 | n => n, fun | n => n⟩
theorem Tryd.laysB166 : Go.Proofs.Lays.n166 Tryd.prog Tryd.laysB166_ren := {
  mixed := by kernel_rfl
  f166 := Tryd.func23.trans (congrArg some (by kernel_rfl))
  f240 := Tryd.func38.trans (congrArg some (by kernel_rfl))
  f276 := Tryd.func51.trans (congrArg some (by kernel_rfl))
  t0 := Tryd.underlying0
  a0 := Tryd.isAgg0
  z0 := Tryd.sizeOf0
  v0 := Tryd.zeroValue0
  t3 := Tryd.underlying3
  a3 := Tryd.isAgg3
  z3 := Tryd.sizeOf3
  v3 := Tryd.zeroValue3
  t4 := Tryd.underlying4
  a4 := Tryd.isAgg4
  z4 := Tryd.sizeOf4
  v4 := Tryd.zeroValue4
  t9 := Tryd.underlying9
  a9 := Tryd.isAgg9
  z9 := Tryd.sizeOf9
  v9 := Tryd.zeroValue9
  t20 := Tryd.underlying20
  a20 := Tryd.isAgg20
  z20 := Tryd.sizeOf20
  v20 := Tryd.zeroValue20
  t37 := Tryd.underlying44
  a37 := Tryd.isAgg44
  z37 := Tryd.sizeOf44
  v37 := Tryd.zeroValue44
  t70 := Tryd.underlying43
  a70 := Tryd.isAgg43
  z70 := Tryd.sizeOf43
  v70 := Tryd.zeroValue43
  t72 := Tryd.underlying46
  a72 := Tryd.isAgg46
  z72 := Tryd.sizeOf46
  v72 := Tryd.zeroValue46
  t75 := Tryd.underlying50
  a75 := Tryd.isAgg50
  z75 := Tryd.sizeOf50
  v75 := Tryd.zeroValue50
  t164 := Tryd.underlying84
  a164 := Tryd.isAgg84
  z164 := Tryd.sizeOf84
  v164 := Tryd.zeroValue84
}
theorem Tryd.BuilderB166_Extra : Builder.Extra Tryd.prog Tryd.laysB166_ren where
  sizeBuilder := by kernel_rfl
  liesBuilder := by kernel_rfl
  t5 := Tryd.underlying5
  a5 := Tryd.isAgg5
  z5 := Tryd.sizeOf5
  v5 := Tryd.zeroValue5
  infoByte := by kernel_rfl
  cellsByte := by kernel_rfl
  sizeByte := by kernel_rfl
  neB5 := by decide
namespace YtdegjfmjjabnnaaDoor
open Go.RowKit
def Bld (B b : Nat) (l : List UInt8) (w : World) : Prop := Lib.IsBuilderF 46 5 B b (Lib.byteCells l) w
theorem Bld.new (w : World) : Bld w.heap.size w.heap.size [] (w.alloc (.cells #[.pointer none, .slice none 0 0] 46)) := Lib.IsBuilderF.of (Lib.fresh_isBuilder 46 5 w)
theorem Bld.keep {B b : Nat} {l : List UInt8} {w w' : World} (h : Bld B b l w) (hb : Below w.heap.size w w') : Bld B b l w' := Lib.IsBuilderF.below h hb
theorem writeString_any (B b : Nat) (l s : List UInt8) (w : World) (h : Bld B b l w) (hl : l.length + s.length ≤ 140737488355328) (hB : B ≤ w.heap.size) :
    Calls Tryd.prog 23 #[.pointer (some ⟨b, 0, none⟩), .string ⟨s.toArray⟩] w fun e w' => e = .returned (.tuple #[.int .i64 s.length, .nilIface]) ∧ Bld B b (l ++ s) w' ∧ Below B w w' ∧ Lib.OthersKept 5 (some b) w w' := by
  have hz : (⟨s.toArray⟩ : ByteArray).size = s.length := by simp [ByteArray.size]
  have hc := Any.Builder_WriteString_k Tryd.laysB166 Tryd.BuilderB166_Extra B b _ ⟨s.toArray⟩ w h (by rw [Lib.byteCells_length, hz]; omega) hB
  rw [hz] at hc
  exact hc.mono fun _ _ ⟨h1, h2, h3, h4⟩ => ⟨h1, by unfold Bld; rw [Lib.byteCells_append]; exact Or.inr h2, h3, h4⟩

end YtdegjfmjjabnnaaDoor
end Go.Proofs
