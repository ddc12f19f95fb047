import Derived.Shelf.Strings.BuilderK
import Derived.Shelf.Strings.BuilderRune
import Derived.Shelf.Strings.MapGrows
import Derived.Test.YtnnlpkbopeiefaaGreatDoorProg
import Derived.KernelRfl
/-! The shelf's contract of one of the builder's writers, laid by hand. -/
namespace Go.Proofs
open Go.Shelf
def Tryz.laysB168_ren : Go.Shelf.Ren := ⟨fun | 168 => 155 | 240 => 162 | 242 => 202 | 276 => 210 | 278 => 246 | n => n, fun | 0 => 0 | 3 => 3 | 4 => 4 | 5 => 5 | 9 => 9 | 20 => 20 | 21 => 21 | 37 => 61 | 46 => 149 | 51 => 215 | 53 => 203 | 70 => 60 | 72 => 63 | 75 => 107 | 80 => 67 | 164 => 213 | 127 => 105 | n => n, fun | n => n⟩
theorem Tryz.laysB168 : Go.Proofs.Lays.n168 Tryz.prog Tryz.laysB168_ren := {
  mixed := by kernel_rfl
  f168 := Tryz.func155.trans (congrArg some (by kernel_rfl))
  f240 := Tryz.func162.trans (congrArg some (by kernel_rfl))
  f242 := Tryz.func202.trans (congrArg some (by kernel_rfl))
  f276 := Tryz.func210.trans (congrArg some (by kernel_rfl))
  f278 := Tryz.func246.trans (congrArg some (by kernel_rfl))
  t0 := Tryz.underlying0
  a0 := Tryz.isAgg0
  z0 := Tryz.sizeOf0
  v0 := Tryz.zeroValue0
  t3 := Tryz.underlying3
  a3 := Tryz.isAgg3
  z3 := Tryz.sizeOf3
  v3 := Tryz.zeroValue3
  t4 := Tryz.underlying4
  a4 := Tryz.isAgg4
  z4 := Tryz.sizeOf4
  v4 := Tryz.zeroValue4
  t5 := Tryz.underlying5
  a5 := Tryz.isAgg5
  z5 := Tryz.sizeOf5
  v5 := Tryz.zeroValue5
  t9 := Tryz.underlying9
  a9 := Tryz.isAgg9
  z9 := Tryz.sizeOf9
  v9 := Tryz.zeroValue9
  t20 := Tryz.underlying20
  a20 := Tryz.isAgg20
  z20 := Tryz.sizeOf20
  v20 := Tryz.zeroValue20
  t21 := Tryz.underlying21
  a21 := Tryz.isAgg21
  z21 := Tryz.sizeOf21
  v21 := Tryz.zeroValue21
  t37 := Tryz.underlying61
  a37 := Tryz.isAgg61
  z37 := Tryz.sizeOf61
  v37 := Tryz.zeroValue61
  t46 := Tryz.underlying149
  a46 := Tryz.isAgg149
  z46 := Tryz.sizeOf149
  v46 := Tryz.zeroValue149
  t51 := Tryz.underlying215
  a51 := Tryz.isAgg215
  z51 := Tryz.sizeOf215
  v51 := Tryz.zeroValue215
  t70 := Tryz.underlying60
  a70 := Tryz.isAgg60
  z70 := Tryz.sizeOf60
  v70 := Tryz.zeroValue60
  t72 := Tryz.underlying63
  a72 := Tryz.isAgg63
  z72 := Tryz.sizeOf63
  v72 := Tryz.zeroValue63
  t75 := Tryz.underlying107
  a75 := Tryz.isAgg107
  z75 := Tryz.sizeOf107
  v75 := Tryz.zeroValue107
  t164 := Tryz.underlying213
  a164 := Tryz.isAgg213
  z164 := Tryz.sizeOf213
  v164 := Tryz.zeroValue213
}
theorem Tryz.BuilderB168_Extra : Builder.Extra Tryz.prog Tryz.laysB168_ren where
  sizeBuilder := by kernel_rfl
  liesBuilder := by kernel_rfl
  t5 := Tryz.underlying5
  a5 := Tryz.isAgg5
  z5 := Tryz.sizeOf5
  v5 := Tryz.zeroValue5
  infoByte := by kernel_rfl
  cellsByte := by kernel_rfl
  sizeByte := by kernel_rfl
  neB5 := by decide
namespace YtnnlpkbopeiefaaGreatDoor
open Go.RowKit
/-- Block b is a builder that holds l. -/
def Bld (B b : Nat) (l : List UInt8) (w : World) : Prop := Lib.IsBuilderF 63 5 B b (Lib.byteCells l) w
theorem Bld.new (w : World) : Bld w.heap.size w.heap.size [] (w.alloc (.cells #[.pointer none, .slice none 0 0] 63)) := Lib.IsBuilderF.of (Lib.fresh_isBuilder 63 5 w)
theorem Bld.keep {B b : Nat} {l : List UInt8} {w w' : World} (h : Bld B b l w) (hb : Below w.heap.size w w') : Bld B b l w' := Lib.IsBuilderF.below h hb
theorem writeRune_any (B b : Nat) (l : List UInt8) (r : Int) (w : World) (h : Bld B b l w) (hr : 0 ≤ r ∧ r ≤ 1114111) (hl : l.length ≤ 4294967296) (hB : B ≤ w.heap.size) :
    Calls Tryz.prog 155 #[.pointer (some ⟨b, 0, none⟩), .int .i32 r] w fun e w' => e = .returned (.tuple #[.int .i64 (Lib.runeCells r).length, .nilIface]) ∧ Bld B b (l ++ Lib.encodeRune r) w' ∧ Below B w w' ∧ Lib.OthersKept 5 (some b) w w' :=
  (Any.Builder_WriteRune_k Tryz.laysB168 Tryz.BuilderB168_Extra B b _ r (by omega) (by omega) w h (by rw [Lib.byteCells_length]; omega) hB).mono fun _ _ ⟨h1, h2, h3, h4⟩ => ⟨h1, by unfold Bld; rw [Lib.byteCells_append, Lib.byteCells_encodeRune]; exact Or.inr h2, h3, h4⟩
end YtnnlpkbopeiefaaGreatDoor
end Go.Proofs
/-! The shelf's contract of one of the builder's writers, laid by hand. -/
namespace Go.Proofs
open Go.Shelf
def Tryz.laysB167_ren : Go.Shelf.Ren := ⟨fun | 167 => 108 | 240 => 162 | 276 => 210 | n => n, fun | 0 => 0 | 3 => 3 | 4 => 4 | 5 => 5 | 9 => 9 | 20 => 20 | 21 => 21 | 37 => 61 | 46 => 149 | 51 => 215 | 53 => 203 | 70 => 60 | 72 => 63 | 75 => 107 | 80 => 67 | 164 => 213 | 127 => 105 | n => n, fun | n => n⟩
theorem Tryz.laysB167 : Go.Proofs.Lays.n167 Tryz.prog Tryz.laysB167_ren := {
  mixed := by kernel_rfl
  f167 := Tryz.func108.trans (congrArg some (by kernel_rfl))
  f240 := Tryz.func162.trans (congrArg some (by kernel_rfl))
  f276 := Tryz.func210.trans (congrArg some (by kernel_rfl))
  t0 := Tryz.underlying0
  a0 := Tryz.isAgg0
  z0 := Tryz.sizeOf0
  v0 := Tryz.zeroValue0
  t4 := Tryz.underlying4
  a4 := Tryz.isAgg4
  z4 := Tryz.sizeOf4
  v4 := Tryz.zeroValue4
  t5 := Tryz.underlying5
  a5 := Tryz.isAgg5
  z5 := Tryz.sizeOf5
  v5 := Tryz.zeroValue5
  t9 := Tryz.underlying9
  a9 := Tryz.isAgg9
  z9 := Tryz.sizeOf9
  v9 := Tryz.zeroValue9
  t20 := Tryz.underlying20
  a20 := Tryz.isAgg20
  z20 := Tryz.sizeOf20
  v20 := Tryz.zeroValue20
  t37 := Tryz.underlying61
  a37 := Tryz.isAgg61
  z37 := Tryz.sizeOf61
  v37 := Tryz.zeroValue61
  t70 := Tryz.underlying60
  a70 := Tryz.isAgg60
  z70 := Tryz.sizeOf60
  v70 := Tryz.zeroValue60
  t72 := Tryz.underlying63
  a72 := Tryz.isAgg63
  z72 := Tryz.sizeOf63
  v72 := Tryz.zeroValue63
  t75 := Tryz.underlying107
  a75 := Tryz.isAgg107
  z75 := Tryz.sizeOf107
  v75 := Tryz.zeroValue107
  t164 := Tryz.underlying213
  a164 := Tryz.isAgg213
  z164 := Tryz.sizeOf213
  v164 := Tryz.zeroValue213
}
theorem Tryz.BuilderB167_Extra : Builder.Extra Tryz.prog Tryz.laysB167_ren where
  sizeBuilder := by kernel_rfl
  liesBuilder := by kernel_rfl
  t5 := Tryz.underlying5
  a5 := Tryz.isAgg5
  z5 := Tryz.sizeOf5
  v5 := Tryz.zeroValue5
  infoByte := by kernel_rfl
  cellsByte := by kernel_rfl
  sizeByte := by kernel_rfl
  neB5 := by decide
namespace YtnnlpkbopeiefaaGreatDoor
open Go.RowKit
theorem writeByte_any (B b : Nat) (l : List UInt8) (c : UInt8) (w : World) (h : Bld B b l w) (hl : l.length ≤ 4294967296) (hB : B ≤ w.heap.size) :
    Calls Tryz.prog 108 #[.pointer (some ⟨b, 0, none⟩), .int .u8 (c.toNat : Int)] w fun e w' => e = .returned .nilIface ∧ Bld B b (l ++ [c]) w' ∧ Below B w w' ∧ Lib.OthersKept 5 (some b) w w' :=
  (Any.Builder_WriteByte_k Tryz.laysB167 Tryz.BuilderB167_Extra B b _ (c.toNat : Int) w h (by rw [Lib.byteCells_length]; omega) hB).mono fun _ _ ⟨h1, h2, h3, h4⟩ => ⟨h1, by unfold Bld; rw [Lib.byteCells_append]; exact Or.inr h2, h3, h4⟩
end YtnnlpkbopeiefaaGreatDoor
end Go.Proofs
/-! The shelf's contract of one of the builder's writers, laid by hand. -/
namespace Go.Proofs
open Go.Shelf
def Tryz.laysB166_ren : Go.Shelf.Ren := ⟨fun | 166 => 106 | 240 => 162 | 276 => 210 | n => n, fun | 0 => 0 | 3 => 3 | 4 => 4 | 5 => 5 | 9 => 9 | 20 => 20 | 21 => 21 | 37 => 61 | 46 => 149 | 51 => 215 | 53 => 203 | 70 => 60 | 72 => 63 | 75 => 107 | 80 => 67 | 164 => 213 | 127 => 105 | n => n, fun | n => n⟩
theorem Tryz.laysB166 : Go.Proofs.Lays.n166 Tryz.prog Tryz.laysB166_ren := {
  mixed := by kernel_rfl
  f166 := Tryz.func106.trans (congrArg some (by kernel_rfl))
  f240 := Tryz.func162.trans (congrArg some (by kernel_rfl))
  f276 := Tryz.func210.trans (congrArg some (by kernel_rfl))
  t0 := Tryz.underlying0
  a0 := Tryz.isAgg0
  z0 := Tryz.sizeOf0
  v0 := Tryz.zeroValue0
  t3 := Tryz.underlying3
  a3 := Tryz.isAgg3
  z3 := Tryz.sizeOf3
  v3 := Tryz.zeroValue3
  t4 := Tryz.underlying4
  a4 := Tryz.isAgg4
  z4 := Tryz.sizeOf4
  v4 := Tryz.zeroValue4
  t9 := Tryz.underlying9
  a9 := Tryz.isAgg9
  z9 := Tryz.sizeOf9
  v9 := Tryz.zeroValue9
  t20 := Tryz.underlying20
  a20 := Tryz.isAgg20
  z20 := Tryz.sizeOf20
  v20 := Tryz.zeroValue20
  t37 := Tryz.underlying61
  a37 := Tryz.isAgg61
  z37 := Tryz.sizeOf61
  v37 := Tryz.zeroValue61
  t70 := Tryz.underlying60
  a70 := Tryz.isAgg60
  z70 := Tryz.sizeOf60
  v70 := Tryz.zeroValue60
  t72 := Tryz.underlying63
  a72 := Tryz.isAgg63
  z72 := Tryz.sizeOf63
  v72 := Tryz.zeroValue63
  t75 := Tryz.underlying107
  a75 := Tryz.isAgg107
  z75 := Tryz.sizeOf107
  v75 := Tryz.zeroValue107
  t164 := Tryz.underlying213
  a164 := Tryz.isAgg213
  z164 := Tryz.sizeOf213
  v164 := Tryz.zeroValue213
}
theorem Tryz.BuilderB166_Extra : Builder.Extra Tryz.prog Tryz.laysB166_ren where
  sizeBuilder := by kernel_rfl
  liesBuilder := by kernel_rfl
  t5 := Tryz.underlying5
  a5 := Tryz.isAgg5
  z5 := Tryz.sizeOf5
  v5 := Tryz.zeroValue5
  infoByte := by kernel_rfl
  cellsByte := by kernel_rfl
  sizeByte := by kernel_rfl
  neB5 := by decide
namespace YtnnlpkbopeiefaaGreatDoor
open Go.RowKit
theorem writeString_any (B b : Nat) (l s : List UInt8) (w : World) (h : Bld B b l w) (hl : l.length + s.length ≤ 4294967296) (hB : B ≤ w.heap.size) :
    Calls Tryz.prog 106 #[.pointer (some ⟨b, 0, none⟩), .string ⟨s.toArray⟩] w fun e w' => e = .returned (.tuple #[.int .i64 s.length, .nilIface]) ∧ Bld B b (l ++ s) w' ∧ Below B w w' ∧ Lib.OthersKept 5 (some b) w w' := by
  have hz : (⟨s.toArray⟩ : ByteArray).size = s.length := by simp [ByteArray.size]
  have hc := Any.Builder_WriteString_k Tryz.laysB166 Tryz.BuilderB166_Extra B b _ ⟨s.toArray⟩ w h (by rw [Lib.byteCells_length, hz]; omega) hB
  rw [hz] at hc
  exact hc.mono fun _ _ ⟨h1, h2, h3, h4⟩ => ⟨h1, by unfold Bld; rw [Lib.byteCells_append]; exact Or.inr h2, h3, h4⟩
end YtnnlpkbopeiefaaGreatDoor
end Go.Proofs
