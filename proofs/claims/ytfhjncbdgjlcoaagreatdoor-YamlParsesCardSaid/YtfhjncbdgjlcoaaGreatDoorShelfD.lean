import Derived.Test.YtfhjncbdgjlcoaaGreatDoorShelf
namespace Go.Proofs
open Go.Shelf
def Tryz.lays156_ren:Go.Shelf.Ren:=⟨fun | 156=>30 | 165=>53 | 166=>54 | 169=>55 | 240=>86 | 241=>87 | 276=>122 | 277=>123 | n=>n,fun | 31=>33 | 9=>9 | 3=>3 | 4=>4 | 0=>0 | 20=>20 | 72=>99 | 76=>103 | 70=>96 | 37=>97 | 75=>102 | 127=>130 | 164=>149 | 5=>5 | 80=>105 | n=>n,fun | n=>n⟩
theorem Tryz.lays156:Go.Proofs.Lays.n156 Tryz.prog Tryz.lays156_ren:= {
  mixed:=by kernel_rfl
  f156:=Tryz.func30.trans (congrArg some (by kernel_rfl))
  f165:=Tryz.func53.trans (congrArg some (by kernel_rfl))
  f166:=Tryz.func54.trans (congrArg some (by kernel_rfl))
  f169:=Tryz.func55.trans (congrArg some (by kernel_rfl))
  f240:=Tryz.func86.trans (congrArg some (by kernel_rfl))
  f241:=Tryz.func87.trans (congrArg some (by kernel_rfl))
  f276:=Tryz.func122.trans (congrArg some (by kernel_rfl))
  f277:=Tryz.func123.trans (congrArg some (by kernel_rfl))
  t0:=Tryz.underlying0
  a0:=Tryz.isAgg0
  z0:=Tryz.sizeOf0
  v0:=Tryz.zeroValue0
  t3:=Tryz.underlying3
  a3:=Tryz.isAgg3
  z3:=Tryz.sizeOf3
  v3:=Tryz.zeroValue3
  t4:=Tryz.underlying4
  a4:=Tryz.isAgg4
  z4:=Tryz.sizeOf4
  v4:=Tryz.zeroValue4
  t9:=Tryz.underlying9
  a9:=Tryz.isAgg9
  z9:=Tryz.sizeOf9
  v9:=Tryz.zeroValue9
  t20:=Tryz.underlying20
  a20:=Tryz.isAgg20
  z20:=Tryz.sizeOf20
  v20:=Tryz.zeroValue20
  t31:=Tryz.underlying33
  a31:=Tryz.isAgg33
  z31:=Tryz.sizeOf33
  v31:=Tryz.zeroValue33
  t37:=Tryz.underlying97
  a37:=Tryz.isAgg97
  z37:=Tryz.sizeOf97
  v37:=Tryz.zeroValue97
  t70:=Tryz.underlying96
  a70:=Tryz.isAgg96
  z70:=Tryz.sizeOf96
  v70:=Tryz.zeroValue96
  t72:=Tryz.underlying99
  a72:=Tryz.isAgg99
  z72:=Tryz.sizeOf99
  v72:=Tryz.zeroValue99
  t75:=Tryz.underlying102
  a75:=Tryz.isAgg102
  z75:=Tryz.sizeOf102
  v75:=Tryz.zeroValue102
  t76:=Tryz.underlying103
  a76:=Tryz.isAgg103
  z76:=Tryz.sizeOf103
  v76:=Tryz.zeroValue103
  t127:=Tryz.underlying130
  a127:=Tryz.isAgg130
  z127:=Tryz.sizeOf130
  v127:=Tryz.zeroValue130
  t164:=Tryz.underlying149
  a164:=Tryz.isAgg149
  z164:=Tryz.sizeOf149
  v164:=Tryz.zeroValue149 }
theorem Tryz.Builder_Extra_156:Builder.Extra Tryz.prog Tryz.lays156_ren:= {
  sizeBuilder:=by kernel_rfl
  liesBuilder:=by kernel_rfl
  t5:=Tryz.underlying5
  a5:=Tryz.isAgg5
  z5:=Tryz.sizeOf5
  v5:=Tryz.zeroValue5
  infoByte:=by kernel_rfl
  cellsByte:=by kernel_rfl
  sizeByte:=by kernel_rfl
  neB5:=by decide }
open Go.RowKit in
theorem Tryz.strings_Join_none (a:Option Addr) (c:Nat) (sep:ByteArray) (w:World):
    Calls Tryz.prog 30 #[.slice a 0 c, .string sep] w fun e w'=>e= .returned (.string ⟨#[]⟩)∧w'=w:=Any.strings_Join_none Tryz.lays156 Tryz.Builder_Extra_156 a c sep w
open Go.RowKit in
theorem Tryz.strings_Join (bk o c:Nat) (xs:List ByteArray) (sep:ByteArray) (w:World) (hcells: ∀(j:Nat) x,xs[j]?=some x→w.cell? ⟨bk,o+j,none⟩=some (.string x)) (hbk:bk<w.heap.size) (hN:xs.length≤140737488355328) (hcap:xs.length≤c) (hlen:(Lib.join (xs.map (·.data.toList)) sep.data.toList).length≤140737488355328):
    Calls Tryz.prog 30 #[.slice (some ⟨bk,o,none⟩) xs.length c, .string sep] w fun e w'=>e= .returned (.string ⟨(Lib.join (xs.map (·.data.toList)) sep.data.toList).toArray⟩)∧Below w.heap.size w w':=Any.strings_Join Tryz.lays156 Tryz.Builder_Extra_156 bk o c xs sep w hcells hbk hN hcap hlen
end Go.Proofs
