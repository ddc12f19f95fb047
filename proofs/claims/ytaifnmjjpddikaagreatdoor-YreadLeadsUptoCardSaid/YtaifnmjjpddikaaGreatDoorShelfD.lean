import Derived.Test.YtaifnmjjpddikaaGreatDoorShelf
namespace Go.Proofs
open Go.Shelf
def Tryz.lays156_ren:Go.Shelf.Ren:=⟨fun | 156=>95 | 165=>128 | 166=>129 | 169=>130 | 240=>171 | 241=>172 | 276=>193 | 277=>194 | n=>n,fun | 31=>23 | 9=>9 | 3=>3 | 4=>4 | 0=>0 | 20=>20 | 72=>176 | 76=>130 | 70=>173 | 37=>174 | 75=>129 | 127=>211 | 164=>226 | 5=>5 | 80=>178 | n=>n,fun | n=>n⟩
theorem Tryz.lays156:Go.Proofs.Lays.n156 Tryz.prog Tryz.lays156_ren:= {
  mixed:=by kernel_rfl
  f156:=Tryz.func95.trans (congrArg some (by kernel_rfl))
  f165:=Tryz.func128.trans (congrArg some (by kernel_rfl))
  f166:=Tryz.func129.trans (congrArg some (by kernel_rfl))
  f169:=Tryz.func130.trans (congrArg some (by kernel_rfl))
  f240:=Tryz.func171.trans (congrArg some (by kernel_rfl))
  f241:=Tryz.func172.trans (congrArg some (by kernel_rfl))
  f276:=Tryz.func193.trans (congrArg some (by kernel_rfl))
  f277:=Tryz.func194.trans (congrArg some (by kernel_rfl))
  t0:=Tryz.underlying0
  a0:=Tryz.isAgg0
  z0:=Tryz.sizeOf0
  v0:=Tryz.zeroValue0
  t3:=Tryz.underlying3
  a3:=Tryz.isAgg3
  z3:=Tryz.sizeOf3
  v3:=Tryz.zeroValue3
  t4:=Tryz.underlying4
  a4:=Tryz.isAgg4
  z4:=Tryz.sizeOf4
  v4:=Tryz.zeroValue4
  t9:=Tryz.underlying9
  a9:=Tryz.isAgg9
  z9:=Tryz.sizeOf9
  v9:=Tryz.zeroValue9
  t20:=Tryz.underlying20
  a20:=Tryz.isAgg20
  z20:=Tryz.sizeOf20
  v20:=Tryz.zeroValue20
  t31:=Tryz.underlying23
  a31:=Tryz.isAgg23
  z31:=Tryz.sizeOf23
  v31:=Tryz.zeroValue23
  t37:=Tryz.underlying174
  a37:=Tryz.isAgg174
  z37:=Tryz.sizeOf174
  v37:=Tryz.zeroValue174
  t70:=Tryz.underlying173
  a70:=Tryz.isAgg173
  z70:=Tryz.sizeOf173
  v70:=Tryz.zeroValue173
  t72:=Tryz.underlying176
  a72:=Tryz.isAgg176
  z72:=Tryz.sizeOf176
  v72:=Tryz.zeroValue176
  t75:=Tryz.underlying129
  a75:=Tryz.isAgg129
  z75:=Tryz.sizeOf129
  v75:=Tryz.zeroValue129
  t76:=Tryz.underlying130
  a76:=Tryz.isAgg130
  z76:=Tryz.sizeOf130
  v76:=Tryz.zeroValue130
  t127:=Tryz.underlying211
  a127:=Tryz.isAgg211
  z127:=Tryz.sizeOf211
  v127:=Tryz.zeroValue211
  t164:=Tryz.underlying226
  a164:=Tryz.isAgg226
  z164:=Tryz.sizeOf226
  v164:=Tryz.zeroValue226 }
theorem Tryz.Builder_Extra_156:Builder.Extra Tryz.prog Tryz.lays156_ren:= {
  sizeBuilder:=by kernel_rfl
  liesBuilder:=by kernel_rfl
  t5:=Tryz.underlying5
  a5:=Tryz.isAgg5
  z5:=Tryz.sizeOf5
  v5:=Tryz.zeroValue5
  infoByte:=by kernel_rfl
  cellsByte:=by kernel_rfl
  sizeByte:=by kernel_rfl
  neB5:=by decide }
open Go.RowKit in
theorem Tryz.strings_Join_none (a:Option Addr) (c:Nat) (sep:ByteArray) (w:World):
    Calls Tryz.prog 95 #[.slice a 0 c, .string sep] w fun e w'=>e= .returned (.string ⟨#[]⟩)∧w'=w:=Any.strings_Join_none Tryz.lays156 Tryz.Builder_Extra_156 a c sep w
open Go.RowKit in
theorem Tryz.strings_Join (bk o c:Nat) (xs:List ByteArray) (sep:ByteArray) (w:World) (hcells: ∀(j:Nat) x,xs[j]?=some x→w.cell? ⟨bk,o+j,none⟩=some (.string x)) (hbk:bk<w.heap.size) (hN:xs.length≤140737488355328) (hcap:xs.length≤c) (hlen:(Lib.join (xs.map (·.data.toList)) sep.data.toList).length≤140737488355328):
    Calls Tryz.prog 95 #[.slice (some ⟨bk,o,none⟩) xs.length c, .string sep] w fun e w'=>e= .returned (.string ⟨(Lib.join (xs.map (·.data.toList)) sep.data.toList).toArray⟩)∧Below w.heap.size w w':=Any.strings_Join Tryz.lays156 Tryz.Builder_Extra_156 bk o c xs sep w hcells hbk hN hcap hlen
end Go.Proofs
