import Derived.Test.YtjnooaljcgkfpaaGreatDoorShelf
namespace Go.Proofs
open Go.Shelf
def Tryz.lays156_ren:Go.Shelf.Ren:=⟨fun | 156=>117 | 165=>123 | 166=>82 | 169=>29 | 240=>124 | 241=>154 | 276=>155 | 277=>187 | n=>n,fun | 31=>22 | 9=>9 | 3=>3 | 4=>4 | 0=>0 | 20=>20 | 72=>57 | 76=>118 | 70=>54 | 37=>55 | 75=>117 | 127=>84 | 164=>185 | 5=>5 | 80=>61 | n=>n,fun | n=>n⟩
theorem Tryz.lays156:Go.Proofs.Lays.n156 Tryz.prog Tryz.lays156_ren:= {
  mixed:=by kernel_rfl
  f156:=Tryz.func117.trans (congrArg some (by kernel_rfl))
  f165:=Tryz.func123.trans (congrArg some (by kernel_rfl))
  f166:=Tryz.func82.trans (congrArg some (by kernel_rfl))
  f169:=Tryz.func29.trans (congrArg some (by kernel_rfl))
  f240:=Tryz.func124.trans (congrArg some (by kernel_rfl))
  f241:=Tryz.func154.trans (congrArg some (by kernel_rfl))
  f276:=Tryz.func155.trans (congrArg some (by kernel_rfl))
  f277:=Tryz.func187.trans (congrArg some (by kernel_rfl))
  t0:=Tryz.underlying0
  a0:=Tryz.isAgg0
  z0:=Tryz.sizeOf0
  v0:=Tryz.zeroValue0
  t3:=Tryz.underlying3
  a3:=Tryz.isAgg3
  z3:=Tryz.sizeOf3
  v3:=Tryz.zeroValue3
  t4:=Tryz.underlying4
  a4:=Tryz.isAgg4
  z4:=Tryz.sizeOf4
  v4:=Tryz.zeroValue4
  t9:=Tryz.underlying9
  a9:=Tryz.isAgg9
  z9:=Tryz.sizeOf9
  v9:=Tryz.zeroValue9
  t20:=Tryz.underlying20
  a20:=Tryz.isAgg20
  z20:=Tryz.sizeOf20
  v20:=Tryz.zeroValue20
  t31:=Tryz.underlying22
  a31:=Tryz.isAgg22
  z31:=Tryz.sizeOf22
  v31:=Tryz.zeroValue22
  t37:=Tryz.underlying55
  a37:=Tryz.isAgg55
  z37:=Tryz.sizeOf55
  v37:=Tryz.zeroValue55
  t70:=Tryz.underlying54
  a70:=Tryz.isAgg54
  z70:=Tryz.sizeOf54
  v70:=Tryz.zeroValue54
  t72:=Tryz.underlying57
  a72:=Tryz.isAgg57
  z72:=Tryz.sizeOf57
  v72:=Tryz.zeroValue57
  t75:=Tryz.underlying117
  a75:=Tryz.isAgg117
  z75:=Tryz.sizeOf117
  v75:=Tryz.zeroValue117
  t76:=Tryz.underlying118
  a76:=Tryz.isAgg118
  z76:=Tryz.sizeOf118
  v76:=Tryz.zeroValue118
  t127:=Tryz.underlying84
  a127:=Tryz.isAgg84
  z127:=Tryz.sizeOf84
  v127:=Tryz.zeroValue84
  t164:=Tryz.underlying185
  a164:=Tryz.isAgg185
  z164:=Tryz.sizeOf185
  v164:=Tryz.zeroValue185 }
theorem Tryz.Builder_Extra_156:Builder.Extra Tryz.prog Tryz.lays156_ren:= {
  sizeBuilder:=by kernel_rfl
  liesBuilder:=by kernel_rfl
  t5:=Tryz.underlying5
  a5:=Tryz.isAgg5
  z5:=Tryz.sizeOf5
  v5:=Tryz.zeroValue5
  infoByte:=by kernel_rfl
  cellsByte:=by kernel_rfl
  sizeByte:=by kernel_rfl
  neB5:=by decide }
open Go.RowKit in
theorem Tryz.strings_Join_none (a:Option Addr) (c:Nat) (sep:ByteArray) (w:World):
    Calls Tryz.prog 117 #[.slice a 0 c, .string sep] w fun e w'=>e= .returned (.string ⟨#[]⟩)∧w'=w:=Any.strings_Join_none Tryz.lays156 Tryz.Builder_Extra_156 a c sep w
open Go.RowKit in
theorem Tryz.strings_Join (bk o c:Nat) (xs:List ByteArray) (sep:ByteArray) (w:World) (hcells: ∀(j:Nat) x,xs[j]?=some x→w.cell? ⟨bk,o+j,none⟩=some (.string x)) (hbk:bk<w.heap.size) (hN:xs.length≤140737488355328) (hcap:xs.length≤c) (hlen:(Lib.join (xs.map (·.data.toList)) sep.data.toList).length≤140737488355328):
    Calls Tryz.prog 117 #[.slice (some ⟨bk,o,none⟩) xs.length c, .string sep] w fun e w'=>e= .returned (.string ⟨(Lib.join (xs.map (·.data.toList)) sep.data.toList).toArray⟩)∧Below w.heap.size w w':=Any.strings_Join Tryz.lays156 Tryz.Builder_Extra_156 bk o c xs sep w hcells hbk hN hcap hlen
end Go.Proofs
