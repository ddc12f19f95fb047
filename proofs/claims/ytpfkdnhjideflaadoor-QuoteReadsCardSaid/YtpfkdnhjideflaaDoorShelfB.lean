import Derived.Shelf.Strings.BuilderK
import Derived.Shelf.Strings.BuilderRune
import Derived.Shelf.Strings.MapGrows
import Derived.Test.YtpfkdnhjideflaaDoorProg
import Derived.KernelRfl
/-! The shelf's contracts of the builder's writers, laid by hand. -/
namespace Go.Proofs
open Go.Shelf
def Tryd.laysB_ren : Go.Shelf.Ren := ⟨fun | 166 => 51 | 167 => 47 | 168 => 49 | 240 => 76 | 242 => 77 | 276 => 98 | 278 => 99 | n => n, fun | 0 => 0 | 3 => 3 | 4 => 4 | 5 => 5 | 9 => 9 | 20 => 20 | 21 => 21 | 37 => 60 | 46 => 93 | 51 => 114 | 53 => 116 | 70 => 59 | 72 => 62 | 75 => 64 | 80 => 72 | 164 => 112 | 127 => 98 | n => n, fun | n => n⟩
theorem Tryd.laysB166 : Go.Proofs.Lays.n166 Tryd.prog Tryd.laysB_ren := {
  mixed := by kernel_rfl
  f166 := Tryd.func51.trans (congrArg some (by kernel_rfl))
  f240 := Tryd.func76.trans (congrArg some (by kernel_rfl))
  f276 := Tryd.func98.trans (congrArg some (by kernel_rfl))
  t0 := Tryd.underlying0
  a0 := Tryd.isAgg0
  z0 := Tryd.sizeOf0
  v0 := Tryd.zeroValue0
  t3 := Tryd.underlying3
  a3 := Tryd.isAgg3
  z3 := Tryd.sizeOf3
  v3 := Tryd.zeroValue3
  t4 := Tryd.underlying4
  a4 := Tryd.isAgg4
  z4 := Tryd.sizeOf4
  v4 := Tryd.zeroValue4
  t9 := Tryd.underlying9
  a9 := Tryd.isAgg9
  z9 := Tryd.sizeOf9
  v9 := Tryd.zeroValue9
  t20 := Tryd.underlying20
  a20 := Tryd.isAgg20
  z20 := Tryd.sizeOf20
  v20 := Tryd.zeroValue20
  t37 := Tryd.underlying60
  a37 := Tryd.isAgg60
  z37 := Tryd.sizeOf60
  v37 := Tryd.zeroValue60
  t70 := Tryd.underlying59
  a70 := Tryd.isAgg59
  z70 := Tryd.sizeOf59
  v70 := Tryd.zeroValue59
  t72 := Tryd.underlying62
  a72 := Tryd.isAgg62
  z72 := Tryd.sizeOf62
  v72 := Tryd.zeroValue62
  t75 := Tryd.underlying64
  a75 := Tryd.isAgg64
  z75 := Tryd.sizeOf64
  v75 := Tryd.zeroValue64
  t164 := Tryd.underlying112
  a164 := Tryd.isAgg112
  z164 := Tryd.sizeOf112
  v164 := Tryd.zeroValue112
}
theorem Tryd.laysB167 : Go.Proofs.Lays.n167 Tryd.prog Tryd.laysB_ren := {
  mixed := by kernel_rfl
  f167 := Tryd.func47.trans (congrArg some (by kernel_rfl))
  f240 := Tryd.func76.trans (congrArg some (by kernel_rfl))
  f276 := Tryd.func98.trans (congrArg some (by kernel_rfl))
  t0 := Tryd.underlying0
  a0 := Tryd.isAgg0
  z0 := Tryd.sizeOf0
  v0 := Tryd.zeroValue0
  t4 := Tryd.underlying4
  a4 := Tryd.isAgg4
  z4 := Tryd.sizeOf4
  v4 := Tryd.zeroValue4
  t5 := Tryd.underlying5
  a5 := Tryd.isAgg5
  z5 := Tryd.sizeOf5
  v5 := Tryd.zeroValue5
  t9 := Tryd.underlying9
  a9 := Tryd.isAgg9
  z9 := Tryd.sizeOf9
  v9 := Tryd.zeroValue9
  t20 := Tryd.underlying20
  a20 := Tryd.isAgg20
  z20 := Tryd.sizeOf20
  v20 := Tryd.zeroValue20
  t37 := Tryd.underlying60
  a37 := Tryd.isAgg60
  z37 := Tryd.sizeOf60
  v37 := Tryd.zeroValue60
  t70 := Tryd.underlying59
  a70 := Tryd.isAgg59
  z70 := Tryd.sizeOf59
  v70 := Tryd.zeroValue59
  t72 := Tryd.underlying62
  a72 := Tryd.isAgg62
  z72 := Tryd.sizeOf62
  v72 := Tryd.zeroValue62
  t75 := Tryd.underlying64
  a75 := Tryd.isAgg64
  z75 := Tryd.sizeOf64
  v75 := Tryd.zeroValue64
  t164 := Tryd.underlying112
  a164 := Tryd.isAgg112
  z164 := Tryd.sizeOf112
  v164 := Tryd.zeroValue112
}
theorem Tryd.laysB168 : Go.Proofs.Lays.n168 Tryd.prog Tryd.laysB_ren := {
  mixed := by kernel_rfl
  f168 := Tryd.func49.trans (congrArg some (by kernel_rfl))
  f240 := Tryd.func76.trans (congrArg some (by kernel_rfl))
  f242 := Tryd.func77.trans (congrArg some (by kernel_rfl))
  f276 := Tryd.func98.trans (congrArg some (by kernel_rfl))
  f278 := Tryd.func99.trans (congrArg some (by kernel_rfl))
  t0 := Tryd.underlying0
  a0 := Tryd.isAgg0
  z0 := Tryd.sizeOf0
  v0 := Tryd.zeroValue0
  t3 := Tryd.underlying3
  a3 := Tryd.isAgg3
  z3 := Tryd.sizeOf3
  v3 := Tryd.zeroValue3
  t4 := Tryd.underlying4
  a4 := Tryd.isAgg4
  z4 := Tryd.sizeOf4
  v4 := Tryd.zeroValue4
  t5 := Tryd.underlying5
  a5 := Tryd.isAgg5
  z5 := Tryd.sizeOf5
  v5 := Tryd.zeroValue5
  t9 := Tryd.underlying9
  a9 := Tryd.isAgg9
  z9 := Tryd.sizeOf9
  v9 := Tryd.zeroValue9
  t20 := Tryd.underlying20
  a20 := Tryd.isAgg20
  z20 := Tryd.sizeOf20
  v20 := Tryd.zeroValue20
  t21 := Tryd.underlying21
  a21 := Tryd.isAgg21
  z21 := Tryd.sizeOf21
  v21 := Tryd.zeroValue21
  t37 := Tryd.underlying60
  a37 := Tryd.isAgg60
  z37 := Tryd.sizeOf60
  v37 := Tryd.zeroValue60
  t46 := Tryd.underlying93
  a46 := Tryd.isAgg93
  z46 := Tryd.sizeOf93
  v46 := Tryd.zeroValue93
  t51 := Tryd.underlying114
  a51 := Tryd.isAgg114
  z51 := Tryd.sizeOf114
  v51 := Tryd.zeroValue114
  t70 := Tryd.underlying59
  a70 := Tryd.isAgg59
  z70 := Tryd.sizeOf59
  v70 := Tryd.zeroValue59
  t72 := Tryd.underlying62
  a72 := Tryd.isAgg62
  z72 := Tryd.sizeOf62
  v72 := Tryd.zeroValue62
  t75 := Tryd.underlying64
  a75 := Tryd.isAgg64
  z75 := Tryd.sizeOf64
  v75 := Tryd.zeroValue64
  t164 := Tryd.underlying112
  a164 := Tryd.isAgg112
  z164 := Tryd.sizeOf112
  v164 := Tryd.zeroValue112
}
theorem Tryd.BuilderB_Extra : Builder.Extra Tryd.prog Tryd.laysB_ren where
  sizeBuilder := by kernel_rfl
  liesBuilder := by kernel_rfl
  t5 := Tryd.underlying5
  a5 := Tryd.isAgg5
  z5 := Tryd.sizeOf5
  v5 := Tryd.zeroValue5
  infoByte := by kernel_rfl
  cellsByte := by kernel_rfl
  sizeByte := by kernel_rfl
  neB5 := by decide
namespace YtpfkdnhjideflaaDoor
open Go.RowKit
/-- Block b is a builder that holds l. -/
def Bld (B b : Nat) (l : List UInt8) (w : World) : Prop := Lib.IsBuilderF 62 5 B b (Lib.byteCells l) w
theorem Bld.new (w : World) : Bld w.heap.size w.heap.size [] (w.alloc (.cells #[.pointer none, .slice none 0 0] 62)) := Lib.IsBuilderF.of (Lib.fresh_isBuilder 62 5 w)
theorem Bld.keep {B b : Nat} {l : List UInt8} {w w' : World} (h : Bld B b l w) (hb : Below w.heap.size w w') : Bld B b l w' := Lib.IsBuilderF.below h hb
theorem writeByte_any (B b : Nat) (l : List UInt8) (c : UInt8) (w : World) (h : Bld B b l w) (hl : l.length ≤ 4294967296) (hB : B ≤ w.heap.size) :
    Calls Tryd.prog 47 #[.pointer (some ⟨b, 0, none⟩), .int .u8 (c.toNat : Int)] w fun e w' => e = .returned .nilIface ∧ Bld B b (l ++ [c]) w' ∧ Below B w w' ∧ Lib.OthersKept 5 (some b) w w' :=
  (Any.Builder_WriteByte_k Tryd.laysB167 Tryd.BuilderB_Extra B b _ (c.toNat : Int) w h (by rw [Lib.byteCells_length]; omega) hB).mono fun _ _ ⟨h1, h2, h3, h4⟩ => ⟨h1, by unfold Bld; rw [Lib.byteCells_append]; exact Or.inr h2, h3, h4⟩
theorem writeRune_any (B b : Nat) (l : List UInt8) (r : Int) (w : World) (h : Bld B b l w) (hr : 0 ≤ r ∧ r ≤ 1114111) (hl : l.length ≤ 4294967296) (hB : B ≤ w.heap.size) :
    Calls Tryd.prog 49 #[.pointer (some ⟨b, 0, none⟩), .int .i32 r] w fun e w' => e = .returned (.tuple #[.int .i64 (Lib.runeCells r).length, .nilIface]) ∧ Bld B b (l ++ Lib.encodeRune r) w' ∧ Below B w w' ∧ Lib.OthersKept 5 (some b) w w' :=
  (Any.Builder_WriteRune_k Tryd.laysB168 Tryd.BuilderB_Extra B b _ r (by omega) (by omega) w h (by rw [Lib.byteCells_length]; omega) hB).mono fun _ _ ⟨h1, h2, h3, h4⟩ => ⟨h1, by unfold Bld; rw [Lib.byteCells_append, Lib.byteCells_encodeRune]; exact Or.inr h2, h3, h4⟩
theorem writeString_any (B b : Nat) (l s : List UInt8) (w : World) (h : Bld B b l w) (hl : l.length + s.length ≤ 4294967296) (hB : B ≤ w.heap.size) :
    Calls Tryd.prog 51 #[.pointer (some ⟨b, 0, none⟩), .string ⟨s.toArray⟩] w fun e w' => e = .returned (.tuple #[.int .i64 s.length, .nilIface]) ∧ Bld B b (l ++ s) w' ∧ Below B w w' ∧ Lib.OthersKept 5 (some b) w w' := by
  have hz : (⟨s.toArray⟩ : ByteArray).size = s.length := by simp [ByteArray.size]
  have hc := Any.Builder_WriteString_k Tryd.laysB166 Tryd.BuilderB_Extra B b _ ⟨s.toArray⟩ w h (by rw [Lib.byteCells_length, hz]; omega) hB
  rw [hz] at hc
  exact hc.mono fun _ _ ⟨h1, h2, h3, h4⟩ => ⟨h1, by unfold Bld; rw [Lib.byteCells_append]; exact Or.inr h2, h3, h4⟩
end YtpfkdnhjideflaaDoor
end Go.Proofs
