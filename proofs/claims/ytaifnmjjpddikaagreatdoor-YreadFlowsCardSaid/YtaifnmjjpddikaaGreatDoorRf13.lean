import Derived.Test.YtaifnmjjpddikaaGreatDoorRf4
import Derived.Test.YtaifnmjjpddikaaGreatDoorRf6
import Derived.Test.YtaifnmjjpddikaaGreatDoorRf12
import Derived.Test.YtaifnmjjpddikaaGreatDoorRf9
import Derived.Deep.RegionHeld3
import Derived.BigQuiet
import Derived.Deep.DeepCutAuto
import Derived.Lib.IndexMore
import Derived.Lib.ReplaceLaws
import Derived.Lib.SplitLaws
import Derived.Deep.RegionLaw
set_option maxRecDepth 100000
set_option maxHeartbeats 4000000
namespace Go.Proofs.YtaifnmjjpddikaaGreatDoor
set_option linter.unusedVariables false
set_option linter.unusedSimpArgs false
section
open Go.RowKit Go.Maps Go.WideMaps
open Go.Lib hiding intOf
def jV (w:World):Prop:=cC w/\sA w
theorem jV.keep {w w':World} (h:jV w) (hb:Below w.heap.size w w'):jV w':=⟨h.1.keep hb,h.2.keep hb⟩
theorem Jf (s:aA) (w:World) (hs:s.length<=4294967296) (hV:jV w):
  Calls Tryz.prog 84 #[.string (bs s)] w λe w'=>e= .returned (.bool (Lib.validD s))/\Below w.heap.size w w':=by
 have C:=Bt (bs s) w (by rw[aR];omega) hV.1;rw[Je,aU] at C;obtain⟨N,hN⟩:=exQ<|(jN (bs s)).1;obtain⟨b,hb⟩:=exQ<|Lib.validD s;rw[hN,hb] at C;rw[hb];have HC:=hid C;clear C hN hb hV;go_enter Tryz.func84,Tryz.ntmps84;go_wp2_with fail;refine HC.out.mono ?_;rintro e w1 ⟨rfl,hb1⟩;have HB1:=hid hb1;clear hb1;go_wp2_with fail;go_ret;exact⟨rfl,HB1.out⟩
def gW (w:World) (X:Nat) (n:eB):Prop:=w.heap[X]?=some (.cells #[.bool n.neg, .string (bs n.dig), .int .i64 n.exp] 113 (0,0))
abbrev Jg (w:World) (X:Nat) (n:eB):Prop:=w.cell? ⟨X,0,none⟩=some (.bool n.neg)/\w.cell? ⟨X,1,none⟩=some (.string (bs n.dig))/\w.cell? ⟨X,2,none⟩=some (.int .i64 n.exp)/\w.frozen? ⟨X,0,none⟩=false/\w.frozen? ⟨X,1,none⟩=false/\w.frozen? ⟨X,2,none⟩=false
theorem gW.cells {w:World}{X:Nat}{n:eB} (h:gW w X n):Jg w X n:=by
 unfold gW at h;refine⟨?_,?_,?_,?_,?_,?_⟩<;>simp[World.cell?,World.frozen?,h]
theorem gW.lt {w:World}{X:Nat}{n:eB} (h:gW w X n):X<w.heap.size:=aF h
theorem gW.keep {w w':World}{X:Nat}{n:eB} (h:gW w X n) (hb:Below w.heap.size w w'):gW w' X n:=(hb.block X h.lt).trans h
theorem gW.new (w:World) (n:eB):gW (w.alloc (.cells #[.bool n.neg, .string (bs n.dig), .int .i64 n.exp] 113)) w.heap.size n:=heap_alloc_new w _
def rA (w:World) (X:Nat) (n:eB):World:=((w.setCell ⟨X,0,none⟩ (.bool n.neg)).setCell ⟨X,1,none⟩ (.string (bs n.dig))).setCell ⟨X,2,none⟩ (.int .i64 n.exp)
theorem gW.put {w:World}{X:Nat}{n n2:eB} (h:gW w X n):gW (rA w X n2) X n2:=by
 unfold gW at h ⊢;unfold rA;simp[World.setCell,h,Array.getElem?_modify]
theorem Ve {B:Nat}{w w':World}{X:Nat}{n:eB} (h:Below B w w') (hX:B<=X):Below B w (rA w' X n):=by
 unfold rA;exact((h.setCell (p:=⟨X,0,none⟩) hX _).setCell (p:=⟨X,1,none⟩) hX _).setCell (p:=⟨X,2,none⟩) hX _
def Jh (w:World) (X:Nat) (n:eB) (w':World):Prop:=(∃n0,gW w' w.heap.size n0)/\gW w' X n/\w.heap.size<X/\Below w.heap.size w w'
abbrev eM (w:World) (X:Nat) (n:eB) (w':World):Prop:=w'.cell? ⟨X,0,none⟩=some (.bool n.neg)/\w'.cell? ⟨X,1,none⟩=some (.string (bs n.dig))/\w'.cell? ⟨X,2,none⟩=some (.int .i64 n.exp)/\Hid (Jh w X n w')
section
variable {w w1 w2:World}{X:Nat}{n:eB}
theorem eM.of (h:Jh w X n w1):eM w X n w1:=⟨h.2.1.cells.1,h.2.1.cells.2.1,h.2.1.cells.2.2.1,hid h⟩
theorem eM.drew (h:eM w X n w1):eM w X n w1.drew:=by
 obtain⟨h1,h2,h3,h4⟩:=h.2.2.2.out;exact eM.of ⟨h1,h2,h3,h4.drew⟩
theorem eM.step (h:eM w X n w1) (hb:Below w1.heap.size w1 w2):eM w X n w2:=by
 obtain⟨⟨n0,h1⟩,h2,h3,h4⟩:=h.2.2.2.out;exact eM.of ⟨⟨n0,h1.keep hb⟩,h2.keep hb,h3,h4.trans (hb.mono h4.size)⟩
theorem eM.bel (h:eM w X n w1):Below w.heap.size w w1:=h.2.2.2.out.2.2.2
theorem eM.free (h:eM w X n w1): ∃n0,Jg w1 w.heap.size n0:=by
 obtain⟨⟨n0,h1⟩,_⟩:=h.2.2.2.out;exact⟨n0,h1.cells⟩
theorem eM.putG (h:eM w X n w1):gW (rA w1 w.heap.size n) w.heap.size n/\Below w.heap.size w (rA w1 w.heap.size n):=by
 obtain⟨⟨n0,h1⟩,h2,h3,h4⟩:=h.2.2.2.out;exact⟨h1.put,Ve h4 (aE _)⟩
theorem eM.put (h:eM w X n w1):eM w X n (((w1.setCell ⟨w.heap.size,0,none⟩ (.bool n.neg)).setCell ⟨w.heap.size,1,none⟩ (.string (bs n.dig))).setCell ⟨w.heap.size,2,none⟩ (.int .i64 n.exp)):=by
 obtain⟨g1,g2⟩:=h.putG;obtain⟨h1,h2,h3,h4⟩:=h.2.2.2.out;refine eM.of ⟨⟨_,g1⟩,?_,h3,g2⟩;have hn:X≠w.heap.size:=by omega
 unfold gW at h2 ⊢;rw[dC _ _ _ X hn,dC _ _ _ X hn,dC _ _ _ X hn];exact h2
end
def Bu (s:aA):Bool:=decide ((cZ s).2=0)&&decide (iV (cZ s).1=s)
def Bw (s:aA):Ending:= .returned (.tuple #[fZ (cZ s).1, .bool (Bu s)])
theorem By (s:aA) (h:(cZ s).2=0):(cZ s).1.dig.length<=1000:=by
 have h':cZ s=((cZ s).1,0):=by rw[<-h]
 exact(Bc (Gl h')).1
theorem Vf (s:aA) (w:World) (hs:s.length<=4294967296) (hV:jV w):
  Calls Tryz.prog 83 #[.string (bs s)] w λe w'=>e=Bw s/\Below w.heap.size w w':=by
 have sl:=aR s;have CP:=hid (λw=>xT s w hs);have hdg:=By s;unfold Bw Bu;obtain⟨P,hP⟩:=exQ<|cZ s;rw[hP] at CP hdg;rw[hP];obtain⟨n,er⟩:=P;simp only[] at hdg ⊢;have CT:Hid (er=0-> ∀w',jV w'->Calls Tryz.prog 64 #[.agg #[.bool n.neg, .string (bs n.dig), .int .i64 n.exp]] w' λe w2=>e= .returned (.string (bs (iV n)))/\Below w'.heap.size w' w2):=hid (λh w' hv=>Be n w' (by have:=hdg h;omega) hv.2);have ba:=aH w (.cells #[.bool false, .string (bs []), .int .i64 0] 113);have hB0:=gW.new w ⟨false,[],0⟩;have HV:=hid hV;obtain⟨R,hR⟩:=exQ (decide (er=0)&&decide (iV n=s));rw[hR];have HR:=hid hR;clear hV hP hdg hR;go_enter Tryz.func83,Tryz.ntmps83;go_wp2_with fail;refine(CP.out _).mono ?_;unfold tX fZ;rintro e w1 ⟨rfl,hb1⟩;have hB1:=hB0.keep hb1;have HB1:=aC (aB w.heap.size w) (ba.trans (hb1.mono (by simp)));have ba1:=aH w1 (.cells #[.bool n.neg, .string (bs n.dig), .int .i64 n.exp] 113);have hS:eM w w1.heap.size n (w1.alloc (.cells #[.bool n.neg, .string (bs n.dig), .int .i64 n.exp] 113)):=eM.of ⟨⟨_,hB1.keep ba1⟩,gW.new w1 n,hB1.lt,HB1.trans (ba1.mono HB1.size)⟩;clear hb1 hB0 hB1 ba1 HB1 ba;go_upto_region 2 with fail;obtain⟨n0,y0,y1,y2,f0,f1,f2⟩:=hS.free;by_cases he:er=0
 ·subst he;have HT:=hid (CT.out rfl);have hb:decide (iV n=s)=R:=by rw[<-HR.out];simp
  have hqz:((bs (iV n)).toList==(bs s).toList)=R:=by
   rw[Lib.toList_data,Lib.toList_data,aU,aU,<-hb];by_cases h:iV n=s
   ·rw[aN h,h];simp
   ·rw[aJ h];simpa using h
  have hqz2:decide (bs (iV n)=bs s)=R:=by
   rw[<-hb,decide_eq_decide];exact⟨λh=>zN h,λh=>by rw[h]⟩
  clear y0 y1 y2 f0 f1 f2 hb CT HR;go_region_held3 (λw'=>eM w w1.heap.size n w') ((first | exact eM.drew (by assumption) | exact eM.step (by assumption) (by assumption) | exact eM.put (by assumption) | assumption))
   ((go_at_call 64;(with_reducible refine(HT.out _ (HV.out.keep (eM.bel (by assumption:eM w w1.heap.size n _)))).mono ?_);rintro e w5 ⟨rfl,hb5⟩;have hn5:eM w w1.heap.size n w5:=eM.step (by assumption) hb5;obtain⟨g5,y0,y1,y2,f0,f1,f2⟩:=hn5.free))
  have HG:=hid hn5.putG;go_wp2_with fail;obtain⟨hP,hPB⟩:=HG.out;obtain⟨WF,hWF⟩:=exQ<|rA w5 w.heap.size n;rw[hWF] at hP hPB;have hWF':((w5.setCell ⟨w.heap.size,0,none⟩ (.bool n.neg)).setCell ⟨w.heap.size,1,none⟩ (.string (bs n.dig))).setCell ⟨w.heap.size,2,none⟩ (.int .i64 n.exp)=WF:=hWF;rw[hWF'];obtain⟨d0,d1,d2,_⟩:=hP.cells;clear hWF hWF' HG;refine bodyPost_ret (v:= .tuple #[.agg #[.bool n.neg, .string (bs n.dig), .int .i64 n.exp], .bool R]) ?_ rfl ⟨rfl,hPB⟩;simp[results,Tryz.results83,go_sem,d0,d1,d2]
 ·have de:(er==0)=false:=aG.2 he;have de2:decide (er=0)=false:=aJ he;have HG:=hid hS.putG;obtain⟨z0,z1,z2,_⟩:=hS;obtain rfl:R=false:=by rw[<-HR.out,de2];rfl
  clear CT CP HR;go_region;go_wp2_with fail;obtain⟨hP,hPB⟩:=HG.out;obtain⟨WF,hWF⟩:=exQ<|rA (w1.alloc (.cells #[.bool n.neg, .string (bs n.dig), .int .i64 n.exp] 113)) w.heap.size n;rw[hWF] at hP hPB;have hWF':(((w1.alloc (.cells #[.bool n.neg, .string (bs n.dig), .int .i64 n.exp] 113)).setCell ⟨w.heap.size,0,none⟩ (.bool n.neg)).setCell ⟨w.heap.size,1,none⟩ (.string (bs n.dig))).setCell ⟨w.heap.size,2,none⟩ (.int .i64 n.exp)=WF:=hWF;rw[hWF'];obtain⟨d0,d1,d2,_⟩:=hP.cells;clear hWF hWF' HG;refine bodyPost_ret (v:= .tuple #[.agg #[.bool n.neg, .string (bs n.dig), .int .i64 n.exp], .bool false]) ?_ rfl ⟨rfl,hPB.drew⟩;simp[results,Tryz.results83,go_sem,d0,d1,d2]
def uB (had:List aA):List aA->Bool
 | []=>true
 | k::l=>!decide (k∈had)&&Lib.validD k&&uB (k::had) l
def uC (ks:List aA) (n:Nat):Bool:=uB [] ks&&decide (ks.length=n)
theorem Vg (n:Int) (w:World):(Instr.makeMap 110 (some (.int .i64 n))).run Tryz.prog w= .ok (.map (some w.heap.size)) (w.alloc (.map #[] 0)):=by
 simp[Instr.makeMap,run_underlying Tryz.underlying110,asInt,asIntOf,Result.andThen]
theorem Vh (kv:Value) (ks:List aA) (n:Nat) (w:World) (hv:SV w kv ks) (hk:kG ks+ks.length<=1073741824) (hn:n<=1099511627776) (hV:jV w):
  Calls Tryz.prog 82 #[kv, .int .i64 (n:Int)] w λe w'=>e= .returned (.bool (uC ks n))/\Below w.heap.size w w':=by
 obtain⟨p,c,rfl,hc,hp⟩:=hv;obtain⟨R,hR⟩:=exQ<|uC ks n;rw[hR];unfold uC at hR;obtain⟨W1,hW1⟩:=exQ<|w.alloc (.map #[] 0);obtain⟨B,hB⟩:=exQ<|w.heap.size;have hb1:Below w.heap.size w W1:=by rw[<-hW1];exact aH _ _
 have hm1:HM B [] W1:=by rw[<-hW1,<-hB];exact World.ownsMap_made w _ _ _
 have HB1:=hid hb1;have HM1:=hid hm1;have HP:=hid hp;have HV:=hid hV;have HR:=hid hR;have hkl:ks.length<=1073741824:=by omega
 have hmk:=λn=>Vg n w;have HBB:=hid hB;have hBB:B<=w.heap.size:=by omega
 clear hb1 hm1 hp hV hR;go_enter Tryz.func82,Tryz.ntmps82;go_upto_region 2 with fail;clear hW1 hB;go_wp2_with fail;go_loopw [13] (λs13 wr=> ∃(i:Nat) (had:List aA),s13= .int .i64 (i:Int)/\i<=ks.length/\had.length=i/\Hid ((uB had (ks.drop i)&&decide (ks.length=n))=R)/\Hid (HM B had wr)/\Hid (Below B w wr)) (λs13 _=>ks.length-(RowKit.intOf s13).toNat)
 case atStart=>exact⟨0,[],rfl,cN _,rfl,HR,HM1,hid (HB1.out.mono hBB)⟩
 case round=>
  obtain⟨i,had,rfl,hi,hhl,HRi,HMr,HBr⟩:=hrel;have HBw:Hid (Below w.heap.size w wr):=hid (by rw[HBB.out];exact HBr.out);by_cases hil:i<ks.length
  ·obtain⟨x,hx⟩: ∃x,ks[i]?=some x:=⟨_,bJ hil⟩;obtain⟨g,o,rfl,hc0⟩:=(HP.out.keep HBw.out).at_ hx;have hi1:(i:Int)<(ks.length:Int):=(by omega);have dk:decide ((i:Int)<(ks.length:Int))=true:=aN hi1;have hxl:x.length<=1073741824:=by have:=Rg (aX hx);omega
   have hdr:ks.drop i=x::ks.drop (i+1):=by
    rw[iK hil];congr 1;exact(aQ.1 hx).2
   have hRi:=HRi.out;rw[hdr,uB] at hRi;have hlook:=HMr.out.look x hxl;have HXL:=hid hxl;by_cases hmem:x∈had
   ·rw[aN hmem] at hlook hRi;have HR2:Hid (R=false):=hid (by rw[<-hRi];rfl);clear hRi HRi hdr hx hmem;go_wp2_with fail;go_ret;exact⟨by rw[HR2.out];rfl,HBw.out⟩
   ·rw[aJ hmem] at hlook hRi;have HC:=hid (Jf x wr (by omega) (HV.out.keep HBw.out));obtain⟨b,hb⟩:=exQ<|Lib.validD x;rw[hb] at HC hRi;clear HRi hdr hx hmem hb;cases b with
    | false=>
     have HR2:Hid (R=false):=hid (by rw[<-hRi];rfl);clear hRi;go_wp2_with fail;refine HC.out.mono ?_;rintro e w2 ⟨rfl,hb2⟩;have HB2:=hid (aC HBw.out hb2);clear hb2;go_wp2_with fail;go_ret;exact⟨by rw[HR2.out];rfl,HB2.out⟩
    | true=>
     have HR2:Hid ((uB (x::had) (ks.drop (i+1))&&decide (ks.length=n))=R):=hid (by rw[<-hRi];rfl);have HKEY:Hid (keyOf Tryz.prog 9 (.string (bs x))=some (.string x)):=hid (by have:=keyOf_string_mk (P:=Tryz.prog) Tryz.underlying9 (s:=bs x) (by rw[aR];unfold maxLen;have:=HXL.out;omega);rw[aU] at this;exact this);have HBl:=hid HMr.out.lt;clear hRi;go_wp2_with fail;refine HC.out.mono ?_;rintro e w2 ⟨rfl,hb2⟩;clear hc0 hlook;have HM2:Hid (HM B had w2):=hid (HM.same HMr.out (hb2.block B HBl.out));have HB2:=hid (HBr.out.trans (hb2.mono (aW hBB HBr.out.size)));have hown:w2.ownsMap Tryz.prog 9 (plainElem Tryz.prog 4) B had.length (pV had):=HM2.out;clear hb2;go_wp2_with (at_mapUpdate;refine wpList_mapUpdate_own _ rfl _ _ _ 110 rfl 9 4 xR Tryz.underlying110 _ B had.length _ rfl hown (by unfold maxLen;omega) _ _ (.string x) rfl rfl HKEY.out _ [] (plainElem_bool Tryz.underlying4 true) ?_;intro w6 hown6 hg6);have HM6:Hid (HM B (x::had) w6):=hid hown6;have HB6:Hid (Below B w w6):=hid (HB2.out.grown hg6 (aW hBB HB2.out.size) (λk hk=>by cases hk;exact aE _));clear hown hown6 hg6;go_wp2_with fail;go_roundw
     ·exact⟨i+1,x::had,rfl,hil,by rw[aT,hhl],HR2,HM6,HB6⟩
     ·simp only[RowKit.intOf];omega
  ·have dk:decide ((i:Int)<(ks.length:Int))=false:=aJ (by omega);have hRi:=HRi.out;rw[List.drop_eq_nil_of_le (by omega),uB,Bool.true_and] at hRi;have dn:((ks.length:Int)==(n:Int))=R:=by
    rw[<-hRi];by_cases h:ks.length=n
    ·rw[aN h,h];simp
    ·rw[aJ h];exact aG.2 (by omega)
   have dn2:decide ((ks.length:Int)=(n:Int))=R:=by
    rw[<-hRi,decide_eq_decide];omega
   clear hRi HRi;go_wp2_with fail;go_ret;exact⟨rfl,HBw.out⟩
def pY:aA:= [116,114,117,101]
def pZ:aA:= [102,97,108,115,101]
def yE (k:Int) (s:aA) (ks:List aA) (n:Nat):Bool:=
 if k=5 then !decide (0<ks.length)&&s.isEmpty
 else if k=6 then uC ks n&&s.isEmpty
 else if(decide (0<ks.length)||decide (0<n))=true then false
 else if k=1 then s.isEmpty
 else if k=2 then decide (s=pY)||decide (s=pZ)
 else if k=3 then Bu s
 else if k=4 then Lib.validD s
 else false
def oJ (t:VT):Bool:=yE t.kind t.text t.keys t.items.length
theorem oK (s l:aA):((bs s).toList==l)=decide (s=l):=by
 rw[Lib.toList_data,aU];by_cases h:s=l
 ·rw[aN h,h];simp
 ·rw[aJ h];simpa using h
theorem mU (s:aA):((bs s).toList== [])=s.isEmpty:=by
 rw[oK];cases s<;>simp
theorem mI (s:aA):(bs s).toList.isEmpty=s.isEmpty:=by rw[Lib.toList_data,aU]
theorem Vi (t:VT) (kv:Value) (p:Option Addr) (c:Nat) (w:World) (hks:SV w kv t.keys) (hbk:t.bulk<=1073741824) (hk7:t.kind≠7) (hV:jV w):
  Calls Tryz.prog 45 #[vv t kv (.slice p t.items.length c)] w λe w'=>e= .returned (.bool (oJ t))/\Below w.heap.size w w':=by
 obtain⟨k,s,ks,l⟩:=t;simp only[VT.items,VT.keys] at hks ⊢;obtain⟨pk,ck,rfl,hck,hlies⟩:=hks;obtain⟨R,hR⟩:=exQ<|oJ (VT.mk k s ks l);rw[hR];have hR:yE k s ks l.length=R:=hR;simp only[VT.kind] at hk7;unfold yE at hR;have hsl:s.length<=1073741824:=by rw[VT.bulk] at hbk;omega
 have htk:kG ks+ks.length<=1073741824:=by rw[VT.bulk] at hbk;omega
 have hll:l.length<=1073741824:=by have:=rR l;rw[VT.bulk] at hbk;omega
 have hkl:ks.length<=1073741824:=by omega
 obtain⟨W1,hW1⟩:=exQ<|w.alloc (.cells #[.int .i64 k, .string (bs s), .slice pk ks.length ck, .slice p l.length c] 26);obtain⟨B,hB⟩:=exQ<|w.heap.size;have HB1:Hid (Below w.heap.size w W1):=hid (by rw[<-hW1];exact aH _ _);have HX:Hid (cR W1 B (.mk k s ks l) (.slice pk ks.length ck) (.slice p l.length c)):=hid (by rw[<-hW1,<-hB];exact cR.new w (.mk k s ks l) _ _);have HV:=hid (hV.keep HB1.out);have HSV:=hid (show SV W1 (.slice pk ks.length ck) ks from ⟨pk,ck,rfl,hck,hlies.keep HB1.out⟩);have HK7:=hid hk7;have HTK:=hid htk;have sl:=aR s;have e0:=mU s;have e0b:=mI s;have dkz:decide ((0:Int)<(ks.length:Int))=decide (0<ks.length):=by rw[decide_eq_decide];omega
 have dlz:decide ((0:Int)<(l.length:Int))=decide (0<l.length):=by rw[decide_eq_decide];omega
 obtain⟨bk,dks⟩:=exQ<|decide (0<ks.length);obtain⟨bl,dl⟩:=exQ<|decide (0<l.length);obtain⟨bt,hbt2⟩:=exQ<|s.isEmpty;rw[dks] at dkz hR;rw[dl] at dlz hR;rw[hbt2] at e0 e0b hR;have HRb:=hid hR;clear hV hR hbk hlies htk hk7 hbt2;unfold vv;simp only[VT.kind,VT.text,VT.items,VT.keys];go_enter Tryz.func45,Tryz.ntmps45;go_upto_region 1 with fail;clear hW1;obtain⟨b0,b1,b2,b3⟩:=HX.out.cells;simp only[VT.kind,VT.text] at b0 b1;clear b0 b1 b2 b3;obtain⟨b0,b1,b2,b3⟩:=HX.out.cells;simp only[VT.kind,VT.text] at b0 b1;go_quiet (fail);obtain⟨W2,hW2⟩:=exQ<|W1.drewN nq;have hbq:Below W1.heap.size W1 W2:=by rw[<-hW2];exact below_drewN (aB _ _) _
 rw[hW2];have HX2:=hid (HX.out.keep hbq);have HV2:=hid (HV.out.keep hbq);have HSV2:=hid (HSV.out.keep hbq);have HBq:=hid (aC HB1.out hbq);clear hbq hW2 b0 b1 b2 b3 HX HV HSV HB1;obtain⟨b0,b1,b2,b3⟩:=HX2.out.cells;simp only[VT.kind,VT.text] at b0 b1;by_cases h5:k=5
 ·subst h5;have hr:=HRb.out;rw[if_pos rfl] at hr;have HR:=hid hr;clear hr HRb HK7;cases bk<;>cases bt
  all_goals
   go_wp2_with fail;go_ret;exact⟨by rw[<-HR.out];rfl,by first | exact HBq.out | (rw[<-hB];exact HBq.out)⟩
 ·have d5:(k==5)=false:=aG.2 h5;have hr:=HRb.out;rw[if_neg h5] at hr;by_cases h6:k=6
  ·subst h6;rw[if_pos rfl] at hr;have HC:=hid (Vh _ ks l.length W2 HSV2.out HTK.out (by omega) HV2.out);obtain⟨by_,hby⟩:=exQ<|uC ks l.length;rw[hby] at HC hr;have HR:=hid hr;clear hr HRb HK7 hby h5;go_wp2_with fail;refine HC.out.mono ?_;rintro e w2 ⟨rfl,hb2⟩;obtain⟨b0',b1',b2',b3'⟩:=(HX2.out.keep hb2).cells;simp only[VT.kind,VT.text] at b0' b1';have HB2:=hid (aC HBq.out hb2);clear hb2 b0 b1 b2 b3;cases by_<;>cases bt
   all_goals
    go_wp2_with fail;go_ret;exact⟨by rw[<-HR.out];rfl,by first | exact HB2.out | (rw[<-hB];exact HB2.out)⟩
  ·have d6:(k==6)=false:=aG.2 h6;rw[if_neg h6] at hr;have HR0:=hid hr;clear hr HRb;by_cases hbb:(bk||bl)=true
   ·rw[if_pos hbb] at HR0;obtain rfl:false=R:=HR0.out;cases bk<;>cases bl
    ·cases hbb
    all_goals
     go_wp2_with fail;go_ret;exact⟨rfl,by first | exact HBq.out | (rw[<-hB];exact HBq.out)⟩
   ·rw [if_neg hbb] at HR0;obtain⟨rfl,rfl⟩:bk=false/\bl=false:=(by cases bk<;>cases bl<;>simp at hbb ⊢);clear hbb;by_cases h1:k=1
    ·subst h1;have hr:=HR0.out;rw[if_pos rfl] at hr;subst hr;clear HR0;go_wp2_with fail;go_ret;exact⟨by simp[e0,e0b],by first | exact HBq.out | (rw[<-hB];exact HBq.out)⟩
    ·have d1:(k==1)=false:=aG.2 h1;rw[if_neg h1] at HR0;by_cases h2:k=2
     ·subst h2;have hr:=HR0.out;rw[if_pos rfl] at hr;have t1:=oK s pY;have t2:=oK s pZ;unfold pY at t1;unfold pZ at t2;obtain⟨y1,hy1⟩:=exQ<|decide (s=pY);obtain⟨y2,hy2⟩:=exQ<|decide (s=pZ);rw[hy1,hy2] at hr;have t1:((bs s).toList== [116,114,117,101])=y1:=t1.trans hy1;have t2:((bs s).toList== [102,97,108,115,101])=y2:=t2.trans hy2;have t3:decide (s= [116,117,114,101])=decide (s= [116,117,114,101]):=rfl;have hy1:decide (s= [116,114,117,101])=y1:=hy1;have hy2:decide (s= [102,97,108,115,101])=y2:=hy2;subst hr;clear HR0 t3;cases y1<;>cases y2
      all_goals
       go_wp2_with fail;go_ret;exact⟨by simp[t1,t2,hy1,hy2,Act.put],by first | exact HBq.out | (rw[<-hB];exact HBq.out)⟩
     ·have d2:(k==2)=false:=aG.2 h2;rw[if_neg h2] at HR0;by_cases h3:k=3
      ·subst h3;have hr:=HR0.out;rw[if_pos rfl] at hr;have HC:=hid (Vf s W2 (by omega) HV2.out);unfold Bw fZ at HC;rw[hr] at HC;obtain⟨nn,hnn⟩:=exQ<|(cZ s).1;rw[hnn] at HC;clear HR0 hr hnn;go_wp2_with fail;refine HC.out.mono ?_;rintro e w2 ⟨rfl,hb2⟩;have HB2:=hid (aC HBq.out hb2);clear hb2 b0 b1 b2 b3;go_wp2_with fail;go_ret;exact⟨rfl,HB2.out.trans ((aH w2 _).mono HB2.out.size)⟩
      ·have d3:(k==3)=false:=aG.2 h3;rw[if_neg h3] at HR0;by_cases h4:k=4
       ·subst h4;have hr:=HR0.out;rw[if_pos rfl] at hr;have HC:=hid (Jf s W2 (by omega) HV2.out);rw[hr] at HC;clear HR0 hr;go_wp2_with fail;refine HC.out.mono ?_;rintro e w2 ⟨rfl,hb2⟩;have HB2:=hid (aC HBq.out hb2);clear hb2 b0 b1 b2 b3;go_wp2_with fail;go_ret;exact⟨rfl,HB2.out⟩
       ·have d4:(k==4)=false:=aG.2 h4;have d7:(k==7)=false:=aG.2 HK7.out;rw[if_neg h4] at HR0;obtain rfl:false=R:=HR0.out;go_wp2_with fail;go_ret;exact⟨rfl,by first | exact HBq.out | (rw[<-hB];exact HBq.out)⟩
theorem Vj (n:Nat) (t:VT) (kv iv:Value) (w:World) (h:VD w n t kv iv) (hbk:t.bulk<=1073741824):
  Calls Tryz.prog 43 #[vv t kv iv] w λe w'=>e= .returned (.bool (decide (t.size<=4096)&&decide (t.depth<=32)))/\Below w.heap.size w w':=by
 obtain⟨pk,ck,p,c,rfl,rfl⟩:=h.form;obtain⟨B,hB⟩:=exQ<|w.heap.size;obtain⟨W1,hW1⟩:=exQ<|w.alloc (.cells #[.int .i64 t.kind, .string (bs t.text), .slice pk t.keys.length ck, .slice p t.items.length c] 26);have HB1:Hid (Below w.heap.size w W1):=hid (by rw[<-hW1];exact aH _ _);have HXB:Hid (cR W1 B t (.slice pk t.keys.length ck) (.slice p t.items.length c)):=hid (by rw[<-hW1,<-hB];exact cR.new w t _ _);have HV:=hid (h.keep HB1.out);have HC1:=hid (Gs n t _ _ W1 HV.out (by omega));have hs:=vC t;have hd:=Al t;have HDp:=hid (λw' hb=>Gt n t _ _ w' (HV.out.keep hb) (by omega));unfold vv at HC1 HDp ⊢;obtain⟨S,hS⟩:=exQ<|t.size;obtain⟨D,hD⟩:=exQ<|t.depth;rw[hS] at HC1 hs hd ⊢;rw[hD] at HDp hd ⊢;obtain⟨R,hR⟩:=exQ (decide (S<=4096)&&decide (D<=32));rw[hR];have HR:=hid hR;have d1:decide ((S:Int)<=4096)=decide (S<=4096):=by rw[decide_eq_decide];omega
 have d2:decide ((D:Int)<=32)=decide (D<=32):=by rw[decide_eq_decide];omega
 clear h hS hD hR;go_enter Tryz.func43,Tryz.ntmps43;go_upto_region 1 with fail;clear hW1;obtain⟨b0,b1,b2,b3⟩:=HXB.out.cells;go_wp2_with fail;refine HC1.out.mono ?_;rintro e w2 ⟨rfl,hb2⟩;have HB2:=hid hb2;clear hb2 b0 b1 b2 b3;obtain⟨b0,b1,b2,b3⟩:=(HXB.out.keep HB2.out).cells;by_cases hS:S<=4096
 ·rw[aN hS] at d1;have hS2:decide (S<=4096)=true:=aN hS;have HC2:=hid (HDp.out w2 HB2.out);go_wp2_with fail;refine HC2.out.mono ?_;rintro e w3 ⟨rfl,hb3⟩;have HB3:=hid (aC HB2.out hb3);clear hb3 b0 b1 b2 b3;obtain⟨y,hy⟩:=exQ<|decide (D<=32);rw[hy] at d2;have hr:=HR.out;rw[hS2,hy,Bool.true_and] at hr;subst hr;go_wp2_with fail;go_ret;exact⟨by simp[hy,Act.put],by first | exact aC HB1.out HB3.out | (rw[<-hB];exact aC HB1.out HB3.out)⟩
 ·rw[aJ hS] at d1;have hS2:decide (S<=4096)=false:=aJ hS;have hr:=HR.out;rw[hS2,Bool.false_and] at hr;subst hr;go_wp2_with fail;go_ret;exact⟨rfl,by first | exact aC HB1.out HB2.out | (rw[<-hB];exact aC HB1.out HB2.out)⟩
end
section
open Go.RowKit
open Go.Lib hiding intOf
def uD:Nat->List UInt8->Bool
 | 0,_=>true
 | _,[]=>true
 | f+1,c::r=>if(decide ((decodeL (c::r)).1<32)||((decodeL (c::r)).1==127))=true then false else uD f ((c::r).drop (decodeL (c::r)).2)
def uE (s:aA):Bool:=uD s.length s&&validD s
def Cl (l:List UInt8) (p:Nat) (Q:Bool):Prop:= ∃f,l.length<=p+f/\uD f (l.drop p)=Q
theorem Cl.zero (l:List UInt8):Cl l 0 (uD l.length l):=⟨l.length,by omega,by rw[List.drop_zero]⟩
theorem Cl.fin {l:List UInt8}{p:Nat}{Q:Bool} (h:Cl l p Q) (hp:l.length<=p):Q=true:=by
 obtain⟨f,_,h2⟩:=h;rw[List.drop_of_length_le hp] at h2;rw[<-h2];cases f<;>rfl
theorem Cl.rune {l:List UInt8}{p:Nat}{Q:Bool} (h:Cl l p Q) (hp:p<l.length):
  ((bT (bs l) p<32\/bT (bs l) p=127)->Q=false)/\(¬(bT (bs l) p<32\/bT (bs l) p=127)->Cl l (p+bK (bs l) p) Q):=by
 obtain⟨f,h1,h2⟩:=h;obtain⟨g,rfl⟩: ∃g,f=g+1:=⟨f-1,by omega⟩;have hd:=iK hp;have hdr:=nM (bs l) p;rw[aU] at hdr;rw[hd] at h2;rw[uD,<-hd,hdr] at h2;have e1:bT (bs l) p=((Utf8.decode (bs l) p).1:Int):=rfl;have e2:bK (bs l) p=(Utf8.decode (bs l) p).2:=rfl;rw[e1,e2];have hw:=decodeL_width (l[p]'hp::l.drop (p+1));rw[<-hd,hdr] at hw;refine⟨λhb=>?_,λhb=>?_⟩
 ·rw[if_pos] at h2
  ·exact h2.symm
  ·simp only[Bool.or_eq_true,kY,beq_iff_eq];omega
 ·rw[if_neg] at h2
  ·rw[kB] at h2;exact⟨g,by omega,h2⟩
  ·simp only[Bool.or_eq_true,kY,beq_iff_eq];omega
def mV (w:World):Prop:=jV w/\rS w/\lD w
theorem mV.keep {w w':World} (h:mV w) (hb:Below w.heap.size w w'):mV w':=⟨h.1.keep hb,h.2.1.keep hb,h.2.2.keep hb⟩
theorem Vk (l:List UInt8) (w:World) (hs:l.length<=1073741824) (hV:mV w):
  Calls Tryz.prog 119 #[.string (bs l)] w λe w'=>e= .returned (.bool (uE l))/\Below w.heap.size w w':=by
 have sl:=aR l;obtain⟨R,hR⟩:=exQ<|uE l;rw[hR];unfold uE at hR;have HR:=hid hR;have HV:=hid hV;clear hR hV;go_enter Tryz.func119,Tryz.ntmps119;go_wp2_with fail;go_loopw [4] (λ_ wr=> ∃p:Nat,p<=l.length/\Hid (Cl l p (uD l.length l))/\Hid (wr.heap[w.heap.size]?=some (.stringIter (bs l) p))/\Hid (Below w.heap.size w wr)) (λ_ wr=>l.length-wr.iterPos w.heap.size)
 case atStart=>exact⟨0,by omega,Cl.zero l,World.iter_heap w (bs l) 0,(aB _ _).alloc (aE _) _⟩
 case round=>
  obtain⟨p,hp,HB,HI,HW⟩:=hrel;by_cases hlt:p<l.length
  ·have hlt':p<(bs l).size:=(by omega);have hw:=pL (bs l) p hlt';have hrb:=qO (bs l) p;have hnx: ∀ty,(Instr.next (.pointer (some ⟨w.heap.size,0,none⟩)) true ty).run Tryz.prog wr= .ok (.tuple #[.bool true, .int .i64 p, .int .i32 (bT (bs l) p)]) (wr.iterAt w.heap.size (bs l) (p+bK (bs l) p)):=λty=>Lib.run_next_any_at wr _ (bs l) p ty HI.out hlt';have HI2:=hid (Lib.iterAt_heap wr w.heap.size (bs l) p (p+bK (bs l) p) HI.out);have HW2:=hid (Lib.below_iterAt HW.out (aE w.heap.size) (bs l) (p+bK (bs l) p));have HM:=hid (iterPos_of HI.out);have HM2:=hid (iterPos_of HI2.out);obtain⟨hyes,hno⟩:=HB.out.rune hlt;obtain⟨r,hr⟩:=exQ<|bT (bs l) p;obtain⟨n,hn⟩:=exQ<|bK (bs l) p;rw[hr] at hnx hrb hyes hno;rw[hn] at hnx hw HI2 HW2 HM2 hno;clear hr hn;by_cases h3:r<32
   ·have HG:=hid (hyes (.inl h3));have hd3:decide (r<32)=true:=aN h3;have HF:Hid (R=false):=hid (by rw[<-HR.out,HG.out,Bool.false_and]);clear hyes hno;go_wp2_with fail;go_ret;exact⟨by rw[HF.out];rfl,HW2.out⟩
   ·have hd3:decide (r<32)=false:=aJ h3;by_cases h4:r=127
    ·have HG:=hid (hyes (.inr h4));have h4B:(r==127)=true:=beq_iff_eq.2 h4;have HF:Hid (R=false):=hid (by rw[<-HR.out,HG.out,Bool.false_and]);clear hyes hno h4;go_wp2_with fail;go_ret;exact⟨by rw[HF.out];rfl,HW2.out⟩
    ·have HG:=hid (hno (by omega));have h4B:(r==127)=false:=aG.2 h4;clear h4 hyes hno;go_wp2_with fail;go_roundw
     case rel=>exact⟨p+n,by omega,HG.out,HI2.out,HW2.out⟩
     case measure=>rw[HM2.out,HM.out];omega
  ·have hnx: ∀ty,(Instr.next (.pointer (some ⟨w.heap.size,0,none⟩)) true ty).run Tryz.prog wr= .ok (.tuple #[.bool false]) wr:=λty=>Lib.run_next_end_at wr _ (bs l) p ty HI.out (by omega);have HG:=hid (HB.out.fin (by omega));have HF:Hid (validD l=R):=hid (by rw[<-HR.out,HG.out,Bool.true_and]);have C:=Bt (bs l) wr (by omega) (HV.out.keep HW.out).1.1;rw[Je,aU,HF.out] at C;obtain⟨N,hN⟩:=exQ<|(jN (bs l)).1;rw[hN] at C;have HC:=hid C;clear C hN;go_wp2_with fail;refine HC.out.mono ?_;rintro e w1 ⟨rfl,hb1⟩;have HB1:=hid (aC HW.out hb1);clear hb1;go_wp2_with fail;go_ret;exact⟨rfl,HB1.out⟩
theorem Vl (x y:aA):((bs x).toList==(bs y).toList)=decide (x=y):=by
 rw[show (bs y).toList=y from by rw[Lib.toList_data,aU]];exact oK x y
theorem Vm (x y:aA):decide (bs x=bs y)=decide (x=y):=by
 rw[decide_eq_decide];exact⟨λh=>zN h,λh=>by rw[h]⟩
def yF:aA:= [63,58,44,91,93,123,125,35,38,42,33,124,62,39,34,37,64,96]
def uF (s:aA):Bool:=match s with
 | []=>false
 | c::_=>uE s&&decide (Lib.trimB s 32=s)&&!decide (0<=Lib.indexByte yF c)&&!decide (s= [45])&&!Lib.hasPrefix s [45,32]&&!Lib.hasSuffix s [58]&&!Lib.contains s [58,32]&&!Lib.contains s [32,35]
theorem Ji (s:aA) (w:World) (hs:s.length<=1073741824) (hV:mV w):
  Calls Tryz.prog 92 #[.string (bs s)] w λe w'=>e= .returned (.bool (uF s))/\Below w.heap.size w w':=by
 have sl:=aR s;have C1:=Vk s w hs hV;obtain⟨R,hR⟩:=exQ<|uF s;rw[hR];cases s with
 | nil=>
  have HR:=hid hR;clear hR C1;have e0:((bs ([]:aA)).toList== [])=true:=mU [];have e0b:(bs ([]:aA)).toList.isEmpty=true:=mI [];go_enter Tryz.func92,Tryz.ntmps92;go_wp2_with fail;go_ret;exact⟨by rw[<-HR.out];rfl,aB _ _⟩
 | cons c r=>
  obtain⟨s,hse⟩:=exQ<|c::r;have hR2:(uE s&&decide (Lib.trimB s 32=s)&&!decide (0<=Lib.indexByte yF c)&&!decide (s= [45])&&!Lib.hasPrefix s [45,32]&&!Lib.hasSuffix s [58]&&!Lib.contains s [58,32]&&!Lib.contains s [32,35])=R:=by
   rw[<-hR,<-hse];rfl
  have hlen:0<s.length:=by rw[<-hse];simp
  have hc0:(bs s)[0]'(by rw[aR];exact hlen)=c:=by
   subst hse;rfl
  rw[hse] at hs sl C1 ⊢;have hne:s≠ []:=by rw[<-hse];simp
  have e0:((bs s).toList== [])=false:=by rw[mU];cases s<;>simp at hne ⊢
  have e0b:(bs s).toList.isEmpty=false:=by rw[mI];cases s<;>simp at hne ⊢
  have e0c:decide (s= [])=false:=aJ hne;clear hR hse;have HC1:=hid C1;have HR:=hid hR2;have HV:=hid hV;clear C1 hR2 hV;have CT:Hid (∀w,Calls Tryz.prog 120 #[.string (bs s), .string ⟨#[32]⟩] w λe w'=>e= .returned (.string (bs (Lib.trimB s 32)))/\Below w.heap.size w w'):=hid (λw=>by
   have h:=Tryz.strings_Trim_one (bs s) 32 (by decide) w (by omega);rw[aU] at h;refine h.mono ?_;rintro e w' ⟨rfl,rfl|rfl⟩
   ·exact⟨rfl,aB _ _⟩
   ·exact⟨rfl,(aB _ _).drew⟩)
  have CI:Hid (∀w,Calls Tryz.prog 32 #[.string ⟨#[63,58,44,91,93,123,125,35,38,42,33,124,62,39,34,37,64,96]⟩, .int .u8 (c.toNat:Int)] w λe w'=>e= .returned (.int .i64 (Lib.indexByte yF c))/\w'=w):=hid (λw=>by have h:=Tryz.strings_IndexByte ⟨#[63,58,44,91,93,123,125,35,38,42,33,124,62,39,34,37,64,96]⟩ (c.toNat:Int) w;rw[show ((c.toNat:Int).toNat.toUInt8)=c from by simp] at h;exact h);have CP:Hid (∀w,Calls Tryz.prog 121 #[.string (bs s), .string ⟨#[45,32]⟩] w λe w'=>e= .returned (.bool (Lib.hasPrefix s [45,32]))/\w'=w):=hid (λw=>by have h:=Tryz.strings_HasPrefix (bs s) ⟨#[45,32]⟩ w;rw[aU] at h;exact h);have CS:Hid (∀w,Calls Tryz.prog 122 #[.string (bs s), .string ⟨#[58]⟩] w λe w'=>e= .returned (.bool (Lib.hasSuffix s [58]))/\w'=w):=hid (λw=>by have h:=Tryz.strings_HasSuffix (bs s) ⟨#[58]⟩ w (by omega);rw[aU] at h;exact h);have CC:Hid (∀(a b:UInt8) w,mV w->Calls Tryz.prog 123 #[.string (bs s), .string ⟨#[a,b]⟩] w λe w'=>e= .returned (.bool (Lib.contains s [a,b]))/\w'=w):=hid (λa b w hv=>by obtain⟨m,hm⟩:=hv.2.2;have h:=Tryz.strings_Contains (bs s) ⟨#[a,b]⟩ m w (by omega) hm;rw[aU] at h;exact h);have CC1:Hid (∀w,mV w->Calls Tryz.prog 123 #[.string (bs s), .string ⟨#[58,32]⟩] w λe w'=>e= .returned (.bool (Lib.contains s [58,32]))/\w'=w):=hid (CC.out 58 32);have CC2:Hid (∀w,mV w->Calls Tryz.prog 123 #[.string (bs s), .string ⟨#[32,35]⟩] w λe w'=>e= .returned (.bool (Lib.contains s [32,35]))/\w'=w):=hid (CC.out 32 35);have t1:=Vl (Lib.trimB s 32) s;have t2:=Vm (Lib.trimB s 32) s;have m1:=oK s [45];obtain⟨q1,h1⟩:=exQ<|uE s;obtain⟨T,hT⟩:=exQ<|Lib.trimB s 32;rw[hT] at CT t1 t2;obtain⟨q2,h2⟩:=exQ<|decide (T=s);obtain⟨I,hI⟩:=exQ<|Lib.indexByte yF c;rw[hI] at CI;obtain⟨q3,h3⟩:=exQ<|decide (0<=I);obtain⟨q4,h4⟩:=exQ<|decide (s= [45]);obtain⟨q5,h5⟩:=exQ<|Lib.hasPrefix s [45,32];obtain⟨q6,h6⟩:=exQ<|Lib.hasSuffix s [58];obtain⟨q7,h7⟩:=exQ<|Lib.contains s [58,32];obtain⟨q8,h8⟩:=exQ<|Lib.contains s [32,35];rw[h1] at HC1;rw[h2] at t1 t2;rw[h4] at m1;rw[h5] at CP;rw[h6] at CS;rw[h7] at CC1;rw[h8] at CC2;have HR2:Hid ((q1&&q2&&!q3&&!q4&&!q5&&!q6&&!q7&&!q8)=R):=hid (by rw[<-HR.out,h1,hT,h2,hI,h3,h4,h5,h6,h7,h8]);have t3:decide (s= [45])=q4:=h4;clear h1 h2 h4 h5 h6 h7 h8 hI hT HR CC;go_enter Tryz.func92,Tryz.ntmps92;go_wp2_with fail;refine HC1.out.mono ?_;rintro e w1 ⟨rfl,hb1⟩;have HB1:=hid hb1;clear hb1;cases q1 with
  | false=>
   go_wp2_with fail;go_ret;exact⟨by rw[<-HR2.out];rfl,HB1.out⟩
  | true =>
   go_wp2_with fail;refine(CT.out _).mono ?_;rintro e w2 ⟨rfl,hb2⟩;have HB2:=hid (aC HB1.out hb2);clear hb2;cases q2 with
   | false=>
    go_wp2_with fail;go_ret;exact⟨by rw[<-HR2.out];rfl,HB2.out⟩
   | true =>
    go_wp2_with fail;refine(CI.out _).mono ?_;rintro e w3 ⟨rfl,rfl⟩;cases q3 with
    | true=>
     go_wp2_with fail;go_ret;exact⟨by rw[<-HR2.out];rfl,HB2.out⟩
    | false=>
     cases q4 with
     | true=>
      go_wp2_with fail;go_ret;exact⟨by rw[<-HR2.out];rfl,HB2.out⟩
     | false=>
      go_wp2_with fail;refine(CP.out _).mono ?_;rintro e w4 ⟨rfl,rfl⟩;cases q5 with
      | true=>
       go_wp2_with fail;go_ret;exact⟨by rw[<-HR2.out];rfl,HB2.out⟩
      | false=>
       go_wp2_with fail;refine(CS.out _).mono ?_;rintro e w5 ⟨rfl,rfl⟩;cases q6 with
       | true=>
        go_wp2_with fail;go_ret;exact⟨by rw[<-HR2.out];rfl,HB2.out⟩
       | false=>
        go_wp2_with fail;refine(CC1.out _ (HV.out.keep HB2.out)).mono ?_;rintro e w6 ⟨rfl,rfl⟩;cases q7 with
        | true=>
         go_wp2_with fail;go_ret;exact⟨by rw[<-HR2.out];rfl,HB2.out⟩
        | false=>
         go_wp2_with fail;refine(CC2.out _ (HV.out.keep HB2.out)).mono ?_;rintro e w7 ⟨rfl,rfl⟩;cases q8
         all_goals
          go_wp2_with fail;go_ret;exact⟨by rw[<-HR2.out];rfl,HB2.out⟩
def uG:aA:= [110,117,108,108]
def rB (s:aA):Int×aA:=
 if s= []\/s=uG\/s= [126] then(1,[])
 else if s=pY\/s=pZ then(2,s)
 else if(cZ s).2=0 then(3,iV (cZ s).1)
 else(4,s)
def yG (s:aA):Ending:= .returned (.agg #[.int .i64 (rB s).1, .string (bs (rB s).2), .slice none 0 0, .slice none 0 0])
def lE (w:World) (X:Nat) (k:Int) (t:aA):Prop:=w.heap[X]?=some (.cells #[.int .i64 k, .string (bs t), .slice none 0 0, .slice none 0 0] 26 (0,0))
abbrev Vn (w:World) (X:Nat) (k:Int) (t:aA):Prop:=w.cell? ⟨X,0,none⟩=some (.int .i64 k)/\w.cell? ⟨X,1,none⟩=some (.string (bs t))/\w.cell? ⟨X,2,none⟩=some (.slice none 0 0)/\w.cell? ⟨X,3,none⟩=some (.slice none 0 0)/\w.frozen? ⟨X,0,none⟩=false/\w.frozen? ⟨X,1,none⟩=false/\w.frozen? ⟨X,2,none⟩=false/\w.frozen? ⟨X,3,none⟩=false
theorem lE.cells {w:World}{X:Nat}{k:Int}{t:aA} (h:lE w X k t):Vn w X k t:=by
 unfold lE at h;refine⟨?_,?_,?_,?_,?_,?_,?_,?_⟩<;>simp[World.cell?,World.frozen?,h]
theorem lE.keep {w w':World}{X:Nat}{k:Int}{t:aA} (h:lE w X k t) (hb:Below w.heap.size w w'):lE w' X k t:=(hb.block X (aF h)).trans h
theorem lE.new (w:World) (k:Int) (t:aA):lE (w.alloc (.cells #[.int .i64 k, .string (bs t), .slice none 0 0, .slice none 0 0] 26)) w.heap.size k t:=heap_alloc_new w _
def qA (w:World) (X:Nat) (k:Int) (t:aA):World:=(((w.setCell ⟨X,0,none⟩ (.int .i64 k)).setCell ⟨X,1,none⟩ (.string (bs t))).setCell ⟨X,2,none⟩ (.slice none 0 0)).setCell ⟨X,3,none⟩ (.slice none 0 0)
theorem lE.put {w:World}{X:Nat}{k k2:Int}{t t2:aA} (h:lE w X k t):lE (qA w X k2 t2) X k2 t2:=by
 unfold lE at h ⊢;unfold qA;simp[World.setCell,h,Array.getElem?_modify]
theorem wD {B:Nat}{w w':World}{X:Nat}{k:Int}{t:aA} (h:Below B w w') (hX:B<=X):Below B w (qA w' X k t):=by
 unfold qA;exact(((h.setCell (p:=⟨X,0,none⟩) hX _).setCell (p:=⟨X,1,none⟩) hX _).setCell (p:=⟨X,2,none⟩) hX _).setCell (p:=⟨X,3,none⟩) hX _
theorem Bz (s:aA) (w:World):
  Calls Tryz.prog 51 #[.string (bs s)] w λe w'=>e= .returned (.agg #[.int .i64 4, .string (bs s), .slice none 0 0, .slice none 0 0])/\Below w.heap.size w w':=by
 have ba:=aH w (.cells #[.int .i64 0, .string (bs []), .slice none 0 0, .slice none 0 0] 26);have hB0:=lE.new w 0 [];obtain⟨W1,hW1⟩:=exQ<|w.alloc (.cells #[.int .i64 0, .string (bs []), .slice none 0 0, .slice none 0 0] 26);rw[hW1] at ba hB0;obtain⟨y0,y1,y2,y3,f0,f1,f2,f3⟩:=hB0.cells;have hW1':w.alloc (.cells #[.int .i64 0, .string ⟨#[]⟩, .slice none 0 0, .slice none 0 0] 26)=W1:=hW1;go_enter Tryz.func51,Tryz.ntmps51;go_wp2_with fail;clear y0 y1 y2 y3 f0 f1 f2 f3;have hP:=(hB0).put (k2:=4) (t2:=s);have hPB:=wD (k:=4) (t:=s) (ba) (aE w.heap.size);obtain⟨WF,hWF⟩:=exQ<|qA W1 w.heap.size 4 s;rw[hWF] at hP hPB;have hWF':(((W1.setCell ⟨w.heap.size,0,none⟩ (.int .i64 4)).setCell ⟨w.heap.size,1,none⟩ (.string (bs s))).setCell ⟨w.heap.size,2,none⟩ (.slice none 0 0)).setCell ⟨w.heap.size,3,none⟩ (.slice none 0 0)=WF:=hWF;rw[hWF'];obtain⟨d0,d1,d2,d3,_⟩:=hP.cells;clear hWF hWF';refine bodyPost_ret (v:= .agg #[.int .i64 4, .string (bs s), .slice none 0 0, .slice none 0 0]) ?_ rfl ⟨rfl,hPB⟩;simp[results,Tryz.results51,go_sem,d0,d1,d2,d3]
theorem Vo (s:aA) (w:World) (hs:s.length<=1073741824) (hV:mV w):
  Calls Tryz.prog 90 #[.string (bs s)] w λe w'=>e=yG s/\Below w.heap.size w w':=by
 have sl:=aR s;have ba:=aH w (.cells #[.int .i64 0, .string (bs []), .slice none 0 0, .slice none 0 0] 26);have hB0:=lE.new w 0 [];obtain⟨W1,hW1⟩:=exQ<|w.alloc (.cells #[.int .i64 0, .string (bs []), .slice none 0 0, .slice none 0 0] 26);rw[hW1] at ba hB0;have HBa:=hid ba;have HB0:=hid hB0;have HV:=hid (hV.keep ba);obtain⟨y0,y1,y2,y3,f0,f1,f2,f3⟩:=hB0.cells;have hW1':w.alloc (.cells #[.int .i64 0, .string ⟨#[]⟩, .slice none 0 0, .slice none 0 0] 26)=W1:=hW1;have CP:=hid (λw=>xT s w (by omega));have hdg:=By s;have m0:=oK s [];have m1:=oK s uG;have m2:=oK s [126];have m3:=oK s pY;have m4:=oK s pZ;have e0:=mI s;unfold uG at m1;unfold pY at m3;unfold pZ at m4;unfold yG rB;obtain⟨q0,h0⟩:=exQ<|decide (s= []);obtain⟨q1,h1⟩:=exQ<|decide (s=uG);obtain⟨q2,h2⟩:=exQ<|decide (s= [126]);obtain⟨q3,h3⟩:=exQ<|decide (s=pY);obtain⟨q4,h4⟩:=exQ<|decide (s=pZ);have m0:=m0.trans h0;have m1:=m1.trans h1;have m2:=m2.trans h2;have m3:=m3.trans h3;have m4:=m4.trans h4;have n1:decide (s= [110,117,108,108])=q1:=h1;have n3:decide (s= [116,114,117,101])=q3:=h3;have n4:decide (s= [102,97,108,115,101])=q4:=h4;have e0b:s.isEmpty=q0:=by rw[<-h0];cases s<;>simp
 rw[e0b] at e0;have z0:s= []↔q0=true:=by rw[<-h0];simp
 have z1:s=uG↔q1=true:=by rw[<-h1];simp
 have z2:s= [126]↔q2=true:=by rw[<-h2];simp
 have z3:s=pY↔q3=true:=by rw[<-h3];simp
 have z4:s=pZ↔q4=true:=by rw[<-h4];simp
 have HZ:=hid (aI z0 (aI z1 (aI z2 (aI z3 z4))));clear z0 z1 z2 z3 z4 h1 h3 h4 hV ba hB0 hW1;obtain⟨P,hP⟩:=exQ<|cZ s;rw[hP] at CP hdg ⊢;obtain⟨n,er⟩:=P;simp only[] at hdg ⊢;by_cases c1:(q0||q1||q2)=true
 ·have HC:Hid ((s= []\/s=uG\/s= [126])):=hid (by
   obtain⟨a0,a1,a2,_⟩:=HZ.out;simp only[Bool.or_eq_true] at c1;rcases c1 with(h | h) | h
   ·exact .inl (a0.2 h)
   ·exact .inr (.inl (a1.2 h))
   ·exact .inr (.inr (a2.2 h)))
  rw[if_pos HC.out];cases q0<;>cases q1<;>cases q2
  ·cases c1
  all_goals
   go_enter Tryz.func90,Tryz.ntmps90;go_wp2_with fail;clear y0 y1 y2 y3 f0 f1 f2 f3;have hP:=(HB0.out).put (k2:=1) (t2:=([]:aA));have hPB:=wD (k:=1) (t:=([]:aA)) (HBa.out) (aE w.heap.size);obtain⟨WF,hWF⟩:=exQ<|qA W1 w.heap.size 1 ([]:aA);rw[hWF] at hP hPB;have hWF':(((W1.setCell ⟨w.heap.size,0,none⟩ (.int .i64 1)).setCell ⟨w.heap.size,1,none⟩ (.string ⟨#[]⟩)).setCell ⟨w.heap.size,2,none⟩ (.slice none 0 0)).setCell ⟨w.heap.size,3,none⟩ (.slice none 0 0)=WF:=hWF;rw[hWF'];obtain⟨d0,d1,d2,d3,_⟩:=hP.cells;clear hWF hWF';refine bodyPost_ret (v:= .agg #[.int .i64 1, .string (bs ([]:aA)), .slice none 0 0, .slice none 0 0]) ?_ rfl ⟨rfl,hPB⟩;simp[results,Tryz.results90,go_sem,d0,d1,d2,d3]
 ·obtain⟨rfl,rfl,rfl⟩:q0=false/\q1=false/\q2=false:=by cases q0<;>cases q1<;>cases q2<;>simp at c1 ⊢
  rw[if_neg (by
   obtain⟨a0,a1,a2,_⟩:=HZ.out;rintro(h | h | h)
   ·exact absurd (a0.1 h) (by decide)
   ·exact absurd (a1.1 h) (by decide)
   ·exact absurd (a2.1 h) (by decide))]
  by_cases c2:(q3||q4)=true
  ·rw[if_pos (by
    obtain⟨_,_,_,a3,a4⟩:=HZ.out;simp only[Bool.or_eq_true] at c2;rcases c2 with h | h
    ·exact .inl (a3.2 h)
    ·exact .inr (a4.2 h))]
   cases q3<;>cases q4
   ·cases c2
   all_goals
    go_enter Tryz.func90,Tryz.ntmps90;go_wp2_with fail;clear y0 y1 y2 y3 f0 f1 f2 f3;have hP:=(HB0.out).put (k2:=2) (t2:=s);have hPB:=wD (k:=2) (t:=s) (HBa.out) (aE w.heap.size);obtain⟨WF,hWF⟩:=exQ<|qA W1 w.heap.size 2 s;rw[hWF] at hP hPB;have hWF':(((W1.setCell ⟨w.heap.size,0,none⟩ (.int .i64 2)).setCell ⟨w.heap.size,1,none⟩ (.string (bs s))).setCell ⟨w.heap.size,2,none⟩ (.slice none 0 0)).setCell ⟨w.heap.size,3,none⟩ (.slice none 0 0)=WF:=hWF;rw[hWF'];obtain⟨d0,d1,d2,d3,_⟩:=hP.cells;clear hWF hWF';refine bodyPost_ret (v:= .agg #[.int .i64 2, .string (bs s), .slice none 0 0, .slice none 0 0]) ?_ rfl ⟨rfl,hPB⟩;simp[results,Tryz.results90,go_sem,d0,d1,d2,d3]
  ·obtain⟨rfl,rfl⟩:q3=false/\q4=false:=(by cases q3<;>cases q4<;>simp at c2 ⊢);rw[if_neg (by
    obtain⟨_,_,_,a3,a4⟩:=HZ.out;rintro(h | h)
    ·exact absurd (a3.1 h) (by decide)
    ·exact absurd (a4.1 h) (by decide))]
   clear c1 c2 HZ;by_cases he:er=0
   ·subst he;rw[if_pos rfl];have CT:Hid (∀w',mV w'->Calls Tryz.prog 64 #[.agg #[.bool n.neg, .string (bs n.dig), .int .i64 n.exp]] w' λe w2=>e= .returned (.string (bs (iV n)))/\Below w'.heap.size w' w2):=hid (λw' hv=>Be n w' (by have:=hdg rfl;omega) hv.1.2);clear hdg;obtain⟨Z,hZ⟩:=exQ<|iV n;rw[hZ] at CT ⊢;go_enter Tryz.func90,Tryz.ntmps90;go_wp2_with fail;refine(CP.out _).mono ?_;unfold tX fZ;rintro e w2 ⟨rfl,hb2⟩;have HR2:=hid (HB0.out.keep hb2);have HB2:=hid (aC HBa.out hb2);have HV2:=hid (HV.out.keep hb2);clear hb2 y0 y1 y2 y3 f0 f1 f2 f3;have ba3:=aH w2 (.cells #[.bool n.neg, .string (bs n.dig), .int .i64 n.exp] 113);have hN:=gW.new w2 n;obtain⟨W3,hW3⟩:=exQ<|w2.alloc (.cells #[.bool n.neg, .string (bs n.dig), .int .i64 n.exp] 113);rw[hW3] at ba3 hN;obtain⟨x0,x1,x2,_⟩:=hN.cells;have HR3:=hid (HR2.out.keep ba3);have HB3:=hid (aC HB2.out ba3);have HV3:=hid (HV2.out.keep ba3);clear ba3 hN;go_wp2_with fail;refine(CT.out _ HV3.out).mono ?_;rintro e w4 ⟨rfl,hb4⟩;have HR4:=hid (HR3.out.keep hb4);have HB4:=hid (aC HB3.out hb4);clear hb4 x0 x1 x2 hW3;obtain⟨y0,y1,y2,y3,f0,f1,f2,f3⟩:=HR4.out.cells;go_wp2_with fail;clear y0 y1 y2 y3 f0 f1 f2 f3;have hP:=(HR4.out).put (k2:=3) (t2:=Z);have hPB:=wD (k:=3) (t:=Z) (HB4.out) (aE w.heap.size);obtain⟨WF,hWF⟩:=exQ<|qA w4 w.heap.size 3 Z;rw[hWF] at hP hPB;have hWF':(((w4.setCell ⟨w.heap.size,0,none⟩ (.int .i64 3)).setCell ⟨w.heap.size,1,none⟩ (.string (bs Z))).setCell ⟨w.heap.size,2,none⟩ (.slice none 0 0)).setCell ⟨w.heap.size,3,none⟩ (.slice none 0 0)=WF:=hWF;rw[hWF'];obtain⟨d0,d1,d2,d3,_⟩:=hP.cells;clear hWF hWF';refine bodyPost_ret (v:= .agg #[.int .i64 3, .string (bs Z), .slice none 0 0, .slice none 0 0]) ?_ rfl ⟨rfl,hPB⟩;simp[results,Tryz.results90,go_sem,d0,d1,d2,d3]
   ·rw[if_neg he];have de:(er==0)=false:=aG.2 he;have CO:=hid (λw=>Bz s w);clear hdg;go_enter Tryz.func90,Tryz.ntmps90;go_wp2_with fail;refine(CP.out _).mono ?_;unfold tX fZ;rintro e w2 ⟨rfl,hb2⟩;have HR2:=hid (HB0.out.keep hb2);have HB2:=hid (aC HBa.out hb2);clear hb2 y0 y1 y2 y3 f0 f1 f2 f3;have ba3:=aH w2 (.cells #[.bool n.neg, .string (bs n.dig), .int .i64 n.exp] 113);have HR3:=hid (HR2.out.keep ba3);have HB3:=hid (aC HB2.out ba3);clear ba3;go_wp2_with fail;refine(CO.out _).mono ?_;rintro e w4 ⟨rfl,hb4⟩;have HR4:=hid (HR3.out.keep hb4);have HB4:=hid (aC HB3.out hb4);clear hb4;obtain⟨y0,y1,y2,y3,f0,f1,f2,f3⟩:=HR4.out.cells;go_wp2_with fail;clear y0 y1 y2 y3 f0 f1 f2 f3;have hP:=(HR4.out).put (k2:=4) (t2:=s);have hPB:=wD (k:=4) (t:=s) (HB4.out) (aE w.heap.size);obtain⟨WF,hWF⟩:=exQ<|qA w4 w.heap.size 4 s;rw[hWF] at hP hPB;have hWF':(((w4.setCell ⟨w.heap.size,0,none⟩ (.int .i64 4)).setCell ⟨w.heap.size,1,none⟩ (.string (bs s))).setCell ⟨w.heap.size,2,none⟩ (.slice none 0 0)).setCell ⟨w.heap.size,3,none⟩ (.slice none 0 0)=WF:=hWF;rw[hWF'];obtain⟨d0,d1,d2,d3,_⟩:=hP.cells;clear hWF hWF';refine bodyPost_ret (v:= .agg #[.int .i64 4, .string (bs s), .slice none 0 0, .slice none 0 0]) ?_ rfl ⟨rfl,hPB⟩;simp[results,Tryz.results90,go_sem,d0,d1,d2,d3]
def bF (w:World) (X:Nat) (k:Int) (t:aA) (kv iv:Value):World:=(((w.setCell ⟨X,0,none⟩ (.int .i64 k)).setCell ⟨X,1,none⟩ (.string (bs t))).setCell ⟨X,2,none⟩ kv).setCell ⟨X,3,none⟩ iv
theorem oL {B:Nat}{w w':World}{X:Nat}{k:Int}{t:aA}{kv iv:Value} (h:Below B w w') (hX:B<=X):Below B w (bF w' X k t kv iv):=by
 unfold bF;exact(((h.setCell (p:=⟨X,0,none⟩) hX _).setCell (p:=⟨X,1,none⟩) hX _).setCell (p:=⟨X,2,none⟩) hX _).setCell (p:=⟨X,3,none⟩) hX _
theorem qB {w:World}{X:Nat}{k:Int}{t:aA}{kv iv:Value}{q:Nat} (hq:q≠X):(bF w X k t kv iv).heap[q]?=w.heap[q]?:=by
 unfold bF;rw[dC _ ⟨X,3,none⟩ _ q hq,dC _ ⟨X,2,none⟩ _ q hq,dC _ ⟨X,1,none⟩ _ q hq,dC _ ⟨X,0,none⟩ _ q hq]
theorem rC {w:World}{X:Nat}{k0 k:Int}{t0 t:aA}{a b kv iv:Value} (h:w.heap[X]?=some (.cells #[.int .i64 k0, .string (bs t0),a,b] 26)):(bF w X k t kv iv).heap[X]?=some (.cells #[.int .i64 k, .string (bs t),kv,iv] 26):=by
 unfold bF;have h1:=gL h 0 (.int .i64 k);have h2:=gL h1 1 (.string (bs t));have h3:=gL h2 2 kv;exact gL h3 3 iv
theorem bC {w:World}{X:Nat}{a b c e:Value} (hb:w.heap[X]?=some (.cells #[a,b,c,e] 26)):w.cell? ⟨X,0,none⟩=some a/\w.cell? ⟨X,1,none⟩=some b/\w.cell? ⟨X,2,none⟩=some c/\w.cell? ⟨X,3,none⟩=some e/\
  w.frozen? ⟨X,0,none⟩=false/\w.frozen? ⟨X,1,none⟩=false/\w.frozen? ⟨X,2,none⟩=false/\w.frozen? ⟨X,3,none⟩=false:=by
 refine⟨?_,?_,?_,?_,?_,?_,?_,?_⟩<;>simp[World.cell?,World.frozen?,hb]
def jI (t:VT) (w:World) (e:Ending) (w':World):Prop:=(∃kv iv,e= .returned (vv t kv iv)/\eU w.heap.size w' t.depth t kv iv)/\Below w.heap.size w w'
theorem CS.put {W w:World}{Y R:Nat}{k:Int}{s:aA}{ks:List aA}{l:List VT}{kv ov:Value} (h:CS W Y k s ks l kv ov w) (hR:R<W.heap.size):dK (λq=>W.heap.size<=q) (bF w R k s kv ov) (VT.mk k s ks l).depth (VT.mk k s ks l) kv ov:=
 h.tree.agree (λq hq _=>⟨qB (by omega),hq⟩)
section
variable {W w w2:World}{X:Nat}{k:Int}{s:ByteArray}{kv:Value}
end
def qC (W0:World) (x:Value) (w':World):Prop:= ∃Y,x= .pointer (some ⟨Y,0,none⟩)/\W0.heap.size<=Y/\w'.heap[Y]?=some (.cells #[.int .i64 0, .string (bs []), .slice none 0 0, .slice none 0 0] 26)
theorem qC.new {W0 w':World} (h:W0.heap.size<=w'.heap.size):qC W0 (.pointer (some ⟨w'.heap.size,0,none⟩)) (w'.alloc (.cells #[.int .i64 0, .string ⟨#[]⟩, .slice none 0 0, .slice none 0 0] 26)):=⟨_,rfl,h,heap_alloc_new w' _⟩
theorem qC.keep {W0 w' w2:World}{x:Value} (h:qC W0 x w') (hb:Below w'.heap.size w' w2):qC W0 x w2:=by
 obtain⟨Y,h1,h2,h3⟩:=h;exact⟨Y,h1,h2,(hb.block Y (aF h3)).trans h3⟩
theorem CS.ofStore {W2 W0 w':World}{Y:Nat}{k:Int}{s:aA}{ks:List aA}{p2:Option Addr}{n2 c2:Nat} (hb:Below W2.heap.size W2 W0) (hA:Below W0.heap.size W0 w') (ho:bV W0.heap.size ks (.slice p2 n2 c2) w') (hY:W0.heap.size<=Y) (hYb:w'.heap[Y]?=some (.cells #[.int .i64 0, .string (bs []), .slice none 0 0, .slice none 0 0] 26)):CS W2 Y k s ks [] (.slice p2 n2 c2) (.slice none 0 0) (bF w' Y k s (.slice p2 n2 c2) (.slice none 0 0)):=by
 have hne:some Y≠(Value.slice p2 n2 c2).ownBlock:=λe=>by
  rcases ho.2 with⟨h,_⟩ | ⟨g,cap,cur,h,_,hg,_⟩
  ·rw[h] at e;cases e
  ·rw[h] at e;injection e with e;subst e;rw[hYb] at hg;injection hg with hg;injection hg with _ hg;exact absurd hg (by decide)
 refine⟨rC hYb,?_,hne,fD.nil _ _ _,oL (aC hb hA) (aW hb.size hY),aW hb.size hY⟩;exact(ho.mono hb.size).keepB (λq _ hq _=>qB (λe=>hne (by rw[<-e];exact hq)))
end
end Go.Proofs.YtaifnmjjpddikaaGreatDoor
