import Derived.Test.YtaifnmjjpddikaaGreatDoorRl4
import Derived.Test.YtaifnmjjpddikaaGreatDoorRl5
import Derived.Test.YtaifnmjjpddikaaGreatDoorRl11
import Derived.Test.YtaifnmjjpddikaaGreatDoorRl8
import Derived.Test.YtaifnmjjpddikaaGreatDoorRl3
import Derived.Deep.RegionHeld3
import Derived.BigQuiet
import Derived.Deep.DeepCutAuto
import Derived.Lib.IndexMore
import Derived.Lib.ReplaceLaws
import Derived.Lib.SplitLaws
import Derived.Deep.RegionLaw
set_option maxRecDepth 100000
set_option maxHeartbeats 4000000
namespace Go.Proofs.YtaifnmjjpddikaaGreatDoor
set_option linter.unusedVariables false
set_option linter.unusedSimpArgs false
section
open Go.RowKit Go.Maps Go.WideMaps
open Go.Lib hiding intOf
def kE (w:World):Prop:=bZ w/\sR w
theorem kE.keep {w w':World} (h:kE w) (hb:Below w.heap.size w w'):kE w':=⟨h.1.keep hb,h.2.keep hb⟩
theorem Kh (s:aA) (w:World) (hs:s.length<=4294967296) (hV:kE w):
  Calls Tryz.prog 84 #[.string (bs s)] w λe w'=>e= .returned (.bool (Lib.validD s))/\Below w.heap.size w w':=by
 have C:=Co (bs s) w (by rw[aT];omega) hV.1;rw[Kg,aZ] at C;obtain⟨N,f⟩:=exQ<|(jU (bs s)).1;obtain⟨b,c⟩:=exQ<|Lib.validD s;rw[f,c] at C;rw[c];have g:=hid C;clear C f c hV;go_enter Tryz.func84,Tryz.ntmps84;go_wp2_with fail;refine g.out.mono ?_;rintro e w1 ⟨rfl,a⟩;have d:=hid a;clear a;go_wp2_with fail;go_ret;exact⟨rfl,d.out⟩
def iC (w:World) (X:Nat) (n:eG):Prop:=w.heap[X]?=some (.cells #[.bool n.neg, .string (bs n.dig), .int .i64 n.exp] 113 (0,0))
abbrev Ki (w:World) (X:Nat) (n:eG):Prop:=w.cell? ⟨X,0,none⟩=some (.bool n.neg)/\w.cell? ⟨X,1,none⟩=some (.string (bs n.dig))/\w.cell? ⟨X,2,none⟩=some (.int .i64 n.exp)/\w.frozen? ⟨X,0,none⟩=false/\w.frozen? ⟨X,1,none⟩=false/\w.frozen? ⟨X,2,none⟩=false
theorem iC.cells {w:World}{X:Nat}{n:eG} (h:iC w X n):Ki w X n:=by
 unfold iC at h;refine⟨?_,?_,?_,?_,?_,?_⟩<;>simp[World.cell?,World.frozen?,h]
theorem iC.lt {w:World}{X:Nat}{n:eG} (h:iC w X n):X<w.heap.size:=aF h
theorem iC.keep {w w':World}{X:Nat}{n:eG} (h:iC w X n) (hb:Below w.heap.size w w'):iC w' X n:=(hb.block X h.lt).trans h
theorem iC.new (w:World) (n:eG):iC (w.alloc (.cells #[.bool n.neg, .string (bs n.dig), .int .i64 n.exp] 113)) w.heap.size n:=heap_alloc_new w _
def rO (w:World) (X:Nat) (n:eG):World:=((w.setCell ⟨X,0,none⟩ (.bool n.neg)).setCell ⟨X,1,none⟩ (.string (bs n.dig))).setCell ⟨X,2,none⟩ (.int .i64 n.exp)
theorem iC.put {w:World}{X:Nat}{n n2:eG} (h:iC w X n):iC (rO w X n2) X n2:=by
 unfold iC at h ⊢;unfold rO;simp[World.setCell,h,Array.getElem?_modify]
theorem Wi {B:Nat}{w w':World}{X:Nat}{n:eG} (h:Below B w w') (hX:B<=X):Below B w (rO w' X n):=by
 unfold rO;exact((h.setCell (p:=⟨X,0,none⟩) hX _).setCell (p:=⟨X,1,none⟩) hX _).setCell (p:=⟨X,2,none⟩) hX _
def Kj (w:World) (X:Nat) (n:eG) (w':World):Prop:=(∃n0,iC w' w.heap.size n0)/\iC w' X n/\w.heap.size<X/\Below w.heap.size w w'
abbrev eT (w:World) (X:Nat) (n:eG) (w':World):Prop:=w'.cell? ⟨X,0,none⟩=some (.bool n.neg)/\w'.cell? ⟨X,1,none⟩=some (.string (bs n.dig))/\w'.cell? ⟨X,2,none⟩=some (.int .i64 n.exp)/\Hid (Kj w X n w')
section
variable {w w1 w2:World}{X:Nat}{n:eG}
theorem eT.of (h:Kj w X n w1):eT w X n w1:=⟨h.2.1.cells.1,h.2.1.cells.2.1,h.2.1.cells.2.2.1,hid h⟩
theorem eT.drew (h:eT w X n w1):eT w X n w1.drew:=by
 obtain⟨a,c,d,b⟩:=h.2.2.2.out;exact eT.of ⟨a,c,d,b.drew⟩
theorem eT.step (h:eT w X n w1) (hb:Below w1.heap.size w1 w2):eT w X n w2:=by
 obtain⟨⟨n0,b⟩,c,d,a⟩:=h.2.2.2.out;exact eT.of ⟨⟨n0,b.keep hb⟩,c.keep hb,d,a.trans (hb.mono a.size)⟩
theorem eT.bel (h:eT w X n w1):Below w.heap.size w w1:=h.2.2.2.out.2.2.2
theorem eT.free (h:eT w X n w1): ∃n0,Ki w1 w.heap.size n0:=by
 obtain⟨⟨n0,a⟩,_⟩:=h.2.2.2.out;exact⟨n0,a.cells⟩
theorem eT.putG (h:eT w X n w1):iC (rO w1 w.heap.size n) w.heap.size n/\Below w.heap.size w (rO w1 w.heap.size n):=by
 obtain⟨⟨n0,b⟩,h2,h3,a⟩:=h.2.2.2.out;exact⟨b.put,Wi a (aE _)⟩
theorem eT.put (h:eT w X n w1):eT w X n (((w1.setCell ⟨w.heap.size,0,none⟩ (.bool n.neg)).setCell ⟨w.heap.size,1,none⟩ (.string (bs n.dig))).setCell ⟨w.heap.size,2,none⟩ (.int .i64 n.exp)):=by
 obtain⟨g1,g2⟩:=h.putG;obtain⟨h1,b,c,h4⟩:=h.2.2.2.out;refine eT.of ⟨⟨_,g1⟩,?_,c,g2⟩;have a:X≠w.heap.size:=by omega
 unfold iC at b ⊢;rw[cP _ _ _ X a,cP _ _ _ X a,cP _ _ _ X a];exact b
end
def uP (s:aA):Bool:=decide ((cL s).2=0)&&decide (eX (cL s).1=s)
def Cp (s:aA):Ending:= .returned (.tuple #[gG (cL s).1, .bool (uP s)])
theorem Cq (s:aA) (h:(cL s).2=0):(cL s).1.dig.length<=1000:=by
 have a:cL s=((cL s).1,0):=by rw[<-h]
 exact(Bt (Az a)).1
theorem Wj (s:aA) (w:World) (hs:s.length<=4294967296) (hV:kE w):
  Calls Tryz.prog 83 #[.string (bs s)] w λe w'=>e=Cp s/\Below w.heap.size w w':=by
 have sl:=aT s;have CP:=hid (λw=>yM s w hs);have d:=Cq s;unfold Cp uP;obtain⟨P,hP⟩:=exQ<|cL s;rw[hP] at CP d;rw[hP];obtain⟨n,er⟩:=P;simp only[] at d ⊢;have CT:Hid (er=0-> ∀w',kE w'->Calls Tryz.prog 64 #[.agg #[.bool n.neg, .string (bs n.dig), .int .i64 n.exp]] w' λe w2=>e= .returned (.string (bs (eX n)))/\Below w'.heap.size w' w2):=hid (λh w' u=>Bu n w' (by have:=d h;omega) u.2);have ba:=aI w (.cells #[.bool false, .string (bs []), .int .i64 0] 113);have j:=iC.new w ⟨false,[],0⟩;have y:=hid hV;obtain⟨R,r⟩:=exQ (decide (er=0)&&decide (eX n=s));rw[r];have o:=hid r;clear hV hP d r;go_enter Tryz.func83,Tryz.ntmps83;go_wp2_with fail;refine(CP.out _).mono ?_;unfold uM gG;rintro e w1 ⟨rfl,i⟩;have f:=j.keep i;have g:=aC (aB w.heap.size w) (ba.trans (i.mono (by simp)));have ba1:=aI w1 (.cells #[.bool n.neg, .string (bs n.dig), .int .i64 n.exp] 113);have p:eT w w1.heap.size n (w1.alloc (.cells #[.bool n.neg, .string (bs n.dig), .int .i64 n.exp] 113)):=eT.of ⟨⟨_,f.keep ba1⟩,iC.new w1 n,f.lt,g.trans (ba1.mono g.size)⟩;clear i j f ba1 g ba;go_upto_region 2 with fail;obtain⟨n0,y0,y1,y2,f0,f1,f2⟩:=p.free;by_cases he:er=0
 ·subst he;have x:=hid (CT.out rfl);have q:decide (eX n=s)=R:=by rw[<-o.out];simp
  have hqz:((bs (eX n)).toList==(bs s).toList)=R:=by
   rw[Lib.toList_data,Lib.toList_data,aZ,aZ,<-q];by_cases h:eX n=s
   ·rw[aM h,h];simp
   ·rw[aH h];simpa using h
  have hqz2:decide (bs (eX n)=bs s)=R:=by
   rw[<-q,decide_eq_decide];exact⟨λh=>xR h,λh=>by rw[h]⟩
  clear y0 y1 y2 f0 f1 f2 q CT o;go_region_held3 (λw'=>eT w w1.heap.size n w') ((first | exact eT.drew (by assumption) | exact eT.step (by assumption) (by assumption) | exact eT.put (by assumption) | assumption))
   ((go_at_call 64;(with_reducible refine(x.out _ (y.out.keep (eT.bel (by assumption:eT w w1.heap.size n _)))).mono ?_);rintro e w5 ⟨rfl,t⟩;have m:eT w w1.heap.size n w5:=eT.step (by assumption) t;obtain⟨g5,y0,y1,y2,f0,f1,f2⟩:=m.free))
  have l:=hid m.putG;go_wp2_with fail;obtain⟨hP,c⟩:=l.out;obtain⟨WF,b⟩:=exQ<|rO w5 w.heap.size n;rw[b] at hP c;have a:((w5.setCell ⟨w.heap.size,0,none⟩ (.bool n.neg)).setCell ⟨w.heap.size,1,none⟩ (.string (bs n.dig))).setCell ⟨w.heap.size,2,none⟩ (.int .i64 n.exp)=WF:=b;rw[a];obtain⟨d0,d1,d2,_⟩:=hP.cells;clear b a l;refine bodyPost_ret (v:= .tuple #[.agg #[.bool n.neg, .string (bs n.dig), .int .i64 n.exp], .bool R]) ?_ rfl ⟨rfl,c⟩;simp[results,Tryz.results83,go_sem,d0,d1,d2]
 ·have de:(er==0)=false:=aK.2 he;have de2:decide (er=0)=false:=aH he;have l:=hid p.putG;obtain⟨z0,z1,z2,_⟩:=p;obtain rfl:R=false:=by rw[<-o.out,de2];rfl
  clear CT CP o;go_region;go_wp2_with fail;obtain⟨hP,c⟩:=l.out;obtain⟨WF,b⟩:=exQ<|rO (w1.alloc (.cells #[.bool n.neg, .string (bs n.dig), .int .i64 n.exp] 113)) w.heap.size n;rw[b] at hP c;have a:(((w1.alloc (.cells #[.bool n.neg, .string (bs n.dig), .int .i64 n.exp] 113)).setCell ⟨w.heap.size,0,none⟩ (.bool n.neg)).setCell ⟨w.heap.size,1,none⟩ (.string (bs n.dig))).setCell ⟨w.heap.size,2,none⟩ (.int .i64 n.exp)=WF:=b;rw[a];obtain⟨d0,d1,d2,_⟩:=hP.cells;clear b a l;refine bodyPost_ret (v:= .tuple #[.agg #[.bool n.neg, .string (bs n.dig), .int .i64 n.exp], .bool false]) ?_ rfl ⟨rfl,c.drew⟩;simp[results,Tryz.results83,go_sem,d0,d1,d2]
def jM (had:List aA):List aA->Bool
 | []=>true
 | k::l=>!decide (k∈had)&&Lib.validD k&&jM (k::had) l
def pH (ks:List aA) (n:Nat):Bool:=jM [] ks&&decide (ks.length=n)
theorem Wk (n:Int) (w:World):(Instr.makeMap 110 (some (.int .i64 n))).run Tryz.prog w= .ok (.map (some w.heap.size)) (w.alloc (.map #[] 0)):=by
 simp[Instr.makeMap,run_underlying Tryz.underlying110,asInt,asIntOf,Result.andThen]
theorem Wl (kv:Value) (ks:List aA) (n:Nat) (w:World) (hv:SV w kv ks) (hk:gE ks+ks.length<=1073741824) (hn:n<=1099511627776) (hV:kE w):
  Calls Tryz.prog 82 #[kv, .int .i64 (n:Int)] w λe w'=>e= .returned (.bool (pH ks n))/\Below w.heap.size w w':=by
 obtain⟨p,c,rfl,hc,hp⟩:=hv;obtain⟨R,I⟩:=exQ<|pH ks n;rw[I];unfold pH at I;obtain⟨W1,u⟩:=exQ<|w.alloc (.map #[] 0);obtain⟨B,U⟩:=exQ<|w.heap.size;have H:Below w.heap.size w W1:=by rw[<-u];exact aI _ _
 have E:HM B [] W1:=by rw[<-u,<-U];exact World.ownsMap_made w _ _ _
 have Y:=hid H;have K:=hid E;have HP:=hid hp;have HV:=hid hV;have HR:=hid I;have hkl:ks.length<=1073741824:=by omega
 have hmk:=λn=>Wk n w;have J:=hid U;have A:B<=w.heap.size:=by omega
 clear H E hp hV I;go_enter Tryz.func82,Tryz.ntmps82;go_upto_region 2 with fail;clear u U;go_wp2_with fail;go_loopw [13] (λs13 wr=> ∃(i:Nat) (had:List aA),s13= .int .i64 (i:Int)/\i<=ks.length/\had.length=i/\Hid ((jM had (ks.drop i)&&decide (ks.length=n))=R)/\Hid (HM B had wr)/\Hid (Below B w wr)) (λs13 _=>ks.length-(RowKit.intOf s13).toNat)
 case atStart=>exact⟨0,[],rfl,bM _,rfl,HR,K,hid (Y.out.mono A)⟩
 case round=>
  obtain⟨i,had,rfl,hi,T,q,y,z⟩:=hrel;have l:Hid (Below w.heap.size w wr):=hid (by rw[J.out];exact z.out);by_cases hil:i<ks.length
  ·obtain⟨x,D⟩: ∃x,ks[i]?=some x:=⟨_,bE hil⟩;obtain⟨g,o,rfl,Z⟩:=(HP.out.keep l.out).at_ D;have Q:(i:Int)<(ks.length:Int):=(by omega);have dk:decide ((i:Int)<(ks.length:Int))=true:=aM Q;have F:x.length<=1073741824:=by have:=Hr (aX D);omega
   have v:ks.drop i=x::ks.drop (i+1):=by
    rw[iH hil];congr 1;exact(aR.1 D).2
   have a:=q.out;rw[v,jM] at a;have d:=y.out.look x F;have M:=hid F;by_cases hmem:x∈had
   ·rw[aM hmem] at d a;have j:Hid (R=false):=hid (by rw[<-a];rfl);clear a q v D hmem;go_wp2_with fail;go_ret;exact⟨by rw[j.out];rfl,l.out⟩
   ·rw[aH hmem] at d a;have V:=hid (Kh x wr (by omega) (HV.out.keep l.out));obtain⟨b,hb⟩:=exQ<|Lib.validD x;rw[hb] at V a;clear q v D hmem hb;cases b with
    | false=>
     have j:Hid (R=false):=hid (by rw[<-a];rfl);clear a;go_wp2_with fail;refine V.out.mono ?_;rintro e w2 ⟨rfl,f⟩;have r:=hid (aC l.out f);clear f;go_wp2_with fail;go_ret;exact⟨by rw[j.out];rfl,r.out⟩
    | true=>
     have j:Hid ((jM (x::had) (ks.drop (i+1))&&decide (ks.length=n))=R):=hid (by rw[<-a];rfl);have G:Hid (keyOf Tryz.prog 9 (.string (bs x))=some (.string x)):=hid (by have:=keyOf_string_mk (P:=Tryz.prog) Tryz.underlying9 (s:=bs x) (by rw[aT];unfold maxLen;have:=M.out;omega);rw[aZ] at this;exact this);have N:=hid y.out.lt;clear a;go_wp2_with fail;refine V.out.mono ?_;rintro e w2 ⟨rfl,f⟩;clear Z d;have O:Hid (HM B had w2):=hid (HM.same y.out (f.block B N.out));have r:=hid (z.out.trans (f.mono (aY A z.out.size)));have t:w2.ownsMap Tryz.prog 9 (plainElem Tryz.prog 4) B had.length (qF had):=O.out;clear f;go_wp2_with (at_mapUpdate;refine wpList_mapUpdate_own _ rfl _ _ _ 110 rfl 9 4 yK Tryz.underlying110 _ B had.length _ rfl t (by unfold maxLen;omega) _ _ (.string x) rfl rfl G.out _ [] (plainElem_bool Tryz.underlying4 true) ?_;intro w6 m C);have L:Hid (HM B (x::had) w6):=hid m;have S:Hid (Below B w w6):=hid (r.out.grown C (aY A r.out.size) (λk hk=>by cases hk;exact aE _));clear t m C;go_wp2_with fail;go_roundw
     ·exact⟨i+1,x::had,rfl,hil,by rw[aV,T],j,L,S⟩
     ·simp only[RowKit.intOf];omega
  ·have dk:decide ((i:Int)<(ks.length:Int))=false:=aH (by omega);have a:=q.out;rw[List.drop_eq_nil_of_le (by omega),jM,Bool.true_and] at a;have dn:((ks.length:Int)==(n:Int))=R:=by
    rw[<-a];by_cases h:ks.length=n
    ·rw[aM h,h];simp
    ·rw[aH h];exact aK.2 (by omega)
   have dn2:decide ((ks.length:Int)=(n:Int))=R:=by
    rw[<-a,decide_eq_decide];omega
   clear a q;go_wp2_with fail;go_ret;exact⟨rfl,l.out⟩
def kX:aA:= [116,114,117,101]
def kY:aA:= [102,97,108,115,101]
def uQ (k:Int) (s:aA) (ks:List aA) (n:Nat):Bool:=
 if k=5 then !decide (0<ks.length)&&s.isEmpty
 else if k=6 then pH ks n&&s.isEmpty
 else if(decide (0<ks.length)||decide (0<n))=true then false
 else if k=1 then s.isEmpty
 else if k=2 then decide (s=kX)||decide (s=kY)
 else if k=3 then uP s
 else if k=4 then Lib.validD s
 else false
def kZ (t:VT):Bool:=uQ t.kind t.text t.keys t.items.length
theorem pI (s l:aA):((bs s).toList==l)=decide (s=l):=by
 rw[Lib.toList_data,aZ];by_cases h:s=l
 ·rw[aM h,h];simp
 ·rw[aH h];simpa using h
theorem nX (s:aA):((bs s).toList== [])=s.isEmpty:=by
 rw[pI];cases s<;>simp
theorem mY (s:aA):(bs s).toList.isEmpty=s.isEmpty:=by rw[Lib.toList_data,aZ]
theorem Wm (t:VT) (kv:Value) (p:Option Addr) (c:Nat) (w:World) (hks:SV w kv t.keys) (hbk:t.bulk<=1073741824) (hk7:t.kind≠7) (hV:kE w):
  Calls Tryz.prog 45 #[vv t kv (.slice p t.items.length c)] w λe w'=>e= .returned (.bool (kZ t))/\Below w.heap.size w w':=by
 obtain⟨k,s,ks,l⟩:=t;simp only[VT.items,VT.keys] at hks ⊢;obtain⟨pk,ck,rfl,L,j⟩:=hks;obtain⟨R,u⟩:=exQ<|kZ (VT.mk k s ks l);rw[u];have u:uQ k s ks l.length=R:=u;simp only[VT.kind] at hk7;unfold uQ at u;have hsl:s.length<=1073741824:=by rw[VT.bulk] at hbk;omega
 have F:gE ks+ks.length<=1073741824:=by rw[VT.bulk] at hbk;omega
 have hll:l.length<=1073741824:=by have:=rE l;rw[VT.bulk] at hbk;omega
 have hkl:ks.length<=1073741824:=by omega
 obtain⟨W1,y⟩:=exQ<|w.alloc (.cells #[.int .i64 k, .string (bs s), .slice pk ks.length ck, .slice p l.length c] 26);obtain⟨B,C⟩:=exQ<|w.heap.size;have r:Hid (Below w.heap.size w W1):=hid (by rw[<-y];exact aI _ _);have J:Hid (cV W1 B (.mk k s ks l) (.slice pk ks.length ck) (.slice p l.length c)):=hid (by rw[<-y,<-C];exact cV.new w (.mk k s ks l) _ _);have N:=hid (hV.keep r.out);have D:=hid (show SV W1 (.slice pk ks.length ck) ks from ⟨pk,ck,rfl,L,j.keep r.out⟩);have z:=hid hk7;have M:=hid F;have sl:=aT s;have e0:=nX s;have e0b:=mY s;have dkz:decide ((0:Int)<(ks.length:Int))=decide (0<ks.length):=by rw[decide_eq_decide];omega
 have dlz:decide ((0:Int)<(l.length:Int))=decide (0<l.length):=by rw[decide_eq_decide];omega
 obtain⟨bk,dks⟩:=exQ<|decide (0<ks.length);obtain⟨bl,dl⟩:=exQ<|decide (0<l.length);obtain⟨bt,v⟩:=exQ<|s.isEmpty;rw[dks] at dkz u;rw[dl] at dlz u;rw[v] at e0 e0b u;have m:=hid u;clear hV u hbk j F hk7 v;unfold vv;simp only[VT.kind,VT.text,VT.items,VT.keys];go_enter Tryz.func45,Tryz.ntmps45;go_upto_region 1 with fail;clear y;obtain⟨b0,b1,b2,b3⟩:=J.out.cells;simp only[VT.kind,VT.text] at b0 b1;clear b0 b1 b2 b3;obtain⟨b0,b1,b2,b3⟩:=J.out.cells;simp only[VT.kind,VT.text] at b0 b1;go_quiet (fail);obtain⟨W2,x⟩:=exQ<|W1.drewN nq;have h:Below W1.heap.size W1 W2:=by rw[<-x];exact below_drewN (aB _ _) _
 rw[x];have H:=hid (J.out.keep h);have A:=hid (N.out.keep h);have E:=hid (D.out.keep h);have d:=hid (aC r.out h);clear h x b0 b1 b2 b3 J N D r;obtain⟨b0,b1,b2,b3⟩:=H.out.cells;simp only[VT.kind,VT.text] at b0 b1;by_cases h5:k=5
 ·subst h5;have b:=m.out;rw[if_pos rfl] at b;have K:=hid b;clear b m z;cases bk<;>cases bt
  all_goals
   go_wp2_with fail;go_ret;exact⟨by rw[<-K.out];rfl,by first | exact d.out | (rw[<-C];exact d.out)⟩
 ·have d5:(k==5)=false:=aK.2 h5;have b:=m.out;rw[if_neg h5] at b;by_cases h6:k=6
  ·subst h6;rw[if_pos rfl] at b;have q:=hid (Wl _ ks l.length W2 E.out M.out (by omega) A.out);obtain⟨by_,I⟩:=exQ<|pH ks l.length;rw[I] at q b;have K:=hid b;clear b m z I h5;go_wp2_with fail;refine q.out.mono ?_;rintro e w2 ⟨rfl,f⟩;obtain⟨b0',b1',b2',b3'⟩:=(H.out.keep f).cells;simp only[VT.kind,VT.text] at b0' b1';have g:=hid (aC d.out f);clear f b0 b1 b2 b3;cases by_<;>cases bt
   all_goals
    go_wp2_with fail;go_ret;exact⟨by rw[<-K.out];rfl,by first | exact g.out | (rw[<-C];exact g.out)⟩
  ·have d6:(k==6)=false:=aK.2 h6;rw[if_neg h6] at b;have a:=hid b;clear b m;by_cases hbb:(bk||bl)=true
   ·rw[if_pos hbb] at a;obtain rfl:false=R:=a.out;cases bk<;>cases bl
    ·cases hbb
    all_goals
     go_wp2_with fail;go_ret;exact⟨rfl,by first | exact d.out | (rw[<-C];exact d.out)⟩
   ·rw [if_neg hbb] at a;obtain⟨rfl,rfl⟩:bk=false/\bl=false:=(by cases bk<;>cases bl<;>simp at hbb ⊢);clear hbb;by_cases h1:k=1
    ·subst h1;have b:=a.out;rw[if_pos rfl] at b;subst b;clear a;go_wp2_with fail;go_ret;exact⟨by simp[e0,e0b],by first | exact d.out | (rw[<-C];exact d.out)⟩
    ·have d1:(k==1)=false:=aK.2 h1;rw[if_neg h1] at a;by_cases h2:k=2
     ·subst h2;have b:=a.out;rw[if_pos rfl] at b;have t1:=pI s kX;have t2:=pI s kY;unfold kX at t1;unfold kY at t2;obtain⟨y1,o⟩:=exQ<|decide (s=kX);obtain⟨y2,i⟩:=exQ<|decide (s=kY);rw[o,i] at b;have t1:((bs s).toList== [116,114,117,101])=y1:=t1.trans o;have t2:((bs s).toList== [102,97,108,115,101])=y2:=t2.trans i;have t3:decide (s= [116,117,114,101])=decide (s= [116,117,114,101]):=rfl;have o:decide (s= [116,114,117,101])=y1:=o;have i:decide (s= [102,97,108,115,101])=y2:=i;subst b;clear a t3;cases y1<;>cases y2
      all_goals
       go_wp2_with fail;go_ret;exact⟨by simp[t1,t2,o,i,Act.put],by first | exact d.out | (rw[<-C];exact d.out)⟩
     ·have d2:(k==2)=false:=aK.2 h2;rw[if_neg h2] at a;by_cases h3:k=3
      ·subst h3;have b:=a.out;rw[if_pos rfl] at b;have q:=hid (Wj s W2 (by omega) A.out);unfold Cp gG at q;rw[b] at q;obtain⟨nn,G⟩:=exQ<|(cL s).1;rw[G] at q;clear a b G;go_wp2_with fail;refine q.out.mono ?_;rintro e w2 ⟨rfl,f⟩;have g:=hid (aC d.out f);clear f b0 b1 b2 b3;go_wp2_with fail;go_ret;exact⟨rfl,g.out.trans ((aI w2 _).mono g.out.size)⟩
      ·have d3:(k==3)=false:=aK.2 h3;rw[if_neg h3] at a;by_cases h4:k=4
       ·subst h4;have b:=a.out;rw[if_pos rfl] at b;have q:=hid (Kh s W2 (by omega) A.out);rw[b] at q;clear a b;go_wp2_with fail;refine q.out.mono ?_;rintro e w2 ⟨rfl,f⟩;have g:=hid (aC d.out f);clear f b0 b1 b2 b3;go_wp2_with fail;go_ret;exact⟨rfl,g.out⟩
       ·have d4:(k==4)=false:=aK.2 h4;have d7:(k==7)=false:=aK.2 z.out;rw[if_neg h4] at a;obtain rfl:false=R:=a.out;go_wp2_with fail;go_ret;exact⟨rfl,by first | exact d.out | (rw[<-C];exact d.out)⟩
def kF (t:VT):Bool:=decide (t.kind≠7)&&kZ t
def uR (t:VT):Bool:=(decide (t.size<=4096)&&decide (t.depth<=32))&&cB kF t
theorem Wn (n:Nat) (t:VT) (kv iv:Value) (w:World) (h:VD w n t kv iv) (hbk:t.bulk<=1073741824):
  Calls Tryz.prog 43 #[vv t kv iv] w λe w'=>e= .returned (.bool (decide (t.size<=4096)&&decide (t.depth<=32)))/\Below w.heap.size w w':=by
 obtain⟨pk,ck,p,c,rfl,rfl⟩:=h.form;obtain⟨B,v⟩:=exQ<|w.heap.size;obtain⟨W1,g⟩:=exQ<|w.alloc (.cells #[.int .i64 t.kind, .string (bs t.text), .slice pk t.keys.length ck, .slice p t.items.length c] 26);have b:Hid (Below w.heap.size w W1):=hid (by rw[<-g];exact aI _ _);have o:Hid (cV W1 B t (.slice pk t.keys.length ck) (.slice p t.items.length c)):=hid (by rw[<-g,<-v];exact cV.new w t _ _);have C:=hid (h.keep b.out);have j:=hid (Hw n t _ _ W1 C.out (by omega));have H:=vT t;have F:=Ba t;have i:=hid (λw' G=>Hx n t _ _ w' (C.out.keep G) (by omega));unfold vv at j i ⊢;obtain⟨S,f⟩:=exQ<|t.size;obtain⟨D,E⟩:=exQ<|t.depth;rw[f] at j H F ⊢;rw[E] at i F ⊢;obtain⟨R,x⟩:=exQ (decide (S<=4096)&&decide (D<=32));rw[x];have A:=hid x;have d1:decide ((S:Int)<=4096)=decide (S<=4096):=by rw[decide_eq_decide];omega
 have d2:decide ((D:Int)<=32)=decide (D<=32):=by rw[decide_eq_decide];omega
 clear h f E x;go_enter Tryz.func43,Tryz.ntmps43;go_upto_region 1 with fail;clear g;obtain⟨b0,b1,b2,b3⟩:=o.out.cells;go_wp2_with fail;refine j.out.mono ?_;rintro e w2 ⟨rfl,q⟩;have a:=hid q;clear q b0 b1 b2 b3;obtain⟨b0,b1,b2,b3⟩:=(o.out.keep a.out).cells;by_cases f:S<=4096
 ·rw[aM f] at d1;have d:decide (S<=4096)=true:=aM f;have z:=hid (i.out w2 a.out);go_wp2_with fail;refine z.out.mono ?_;rintro e w3 ⟨rfl,l⟩;have r:=hid (aC a.out l);clear l b0 b1 b2 b3;obtain⟨y,u⟩:=exQ<|decide (D<=32);rw[u] at d2;have m:=A.out;rw[d,u,Bool.true_and] at m;subst m;go_wp2_with fail;go_ret;exact⟨by simp[u,Act.put],by first | exact aC b.out r.out | (rw[<-v];exact aC b.out r.out)⟩
 ·rw[aH f] at d1;have d:decide (S<=4096)=false:=aH f;have m:=A.out;rw[d,Bool.false_and] at m;subst m;go_wp2_with fail;go_ret;exact⟨rfl,by first | exact aC b.out a.out | (rw[<-v];exact aC b.out a.out)⟩
end
section
open Go.RowKit
open Go.Lib hiding intOf
def uS:Nat->List UInt8->Bool
 | 0,_=>true
 | _,[]=>true
 | f+1,c::r=>if(decide ((decodeL (c::r)).1<32)||((decodeL (c::r)).1==127))=true then false else uS f ((c::r).drop (decodeL (c::r)).2)
def sZ (s:aA):Bool:=uS s.length s&&validD s
def Cl (l:List UInt8) (p:Nat) (Q:Bool):Prop:= ∃f,l.length<=p+f/\uS f (l.drop p)=Q
theorem Cl.zero (l:List UInt8):Cl l 0 (uS l.length l):=⟨l.length,by omega,by rw[List.drop_zero]⟩
theorem Cl.fin {l:List UInt8}{p:Nat}{Q:Bool} (h:Cl l p Q) (hp:l.length<=p):Q=true:=by
 obtain⟨f,_,a⟩:=h;rw[List.drop_of_length_le hp] at a;rw[<-a];cases f<;>rfl
theorem Cl.rune {l:List UInt8}{p:Nat}{Q:Bool} (h:Cl l p Q) (hp:p<l.length):
  ((bQ (bs l) p<32\/bQ (bs l) p=127)->Q=false)/\(¬(bQ (bs l) p<32\/bQ (bs l) p=127)->Cl l (p+bJ (bs l) p) Q):=by
 obtain⟨f,h1,b⟩:=h;obtain⟨g,rfl⟩: ∃g,f=g+1:=⟨f-1,by omega⟩;have c:=iH hp;have a:=oN (bs l) p;rw[aZ] at a;rw[c] at b;rw[uS,<-c,a] at b;have e1:bQ (bs l) p=((Utf8.decode (bs l) p).1:Int):=rfl;have e2:bJ (bs l) p=(Utf8.decode (bs l) p).2:=rfl;rw[e1,e2];have e:=decodeL_width (l[p]'hp::l.drop (p+1));rw[<-c,a] at e;refine⟨λd=>?_,λd=>?_⟩
 ·rw[if_pos] at b
  ·exact b.symm
  ·simp only[Bool.or_eq_true,kQ,beq_iff_eq];omega
 ·rw[if_neg] at b
  ·rw[jH] at b;exact⟨g,by omega,b⟩
  ·simp only[Bool.or_eq_true,kQ,beq_iff_eq];omega
def nY (w:World):Prop:=kE w/\sJ w/\lL w
theorem nY.keep {w w':World} (h:nY w) (hb:Below w.heap.size w w'):nY w':=⟨h.1.keep hb,h.2.1.keep hb,h.2.2.keep hb⟩
theorem Wo (l:List UInt8) (w:World) (hs:l.length<=1073741824) (hV:nY w):
  Calls Tryz.prog 119 #[.string (bs l)] w λe w'=>e= .returned (.bool (sZ l))/\Below w.heap.size w w':=by
 have sl:=aT l;obtain⟨R,q⟩:=exQ<|sZ l;rw[q];unfold sZ at q;have u:=hid q;have G:=hid hV;clear q hV;go_enter Tryz.func119,Tryz.ntmps119;go_wp2_with fail;go_loopw [4] (λ_ wr=> ∃p:Nat,p<=l.length/\Hid (Cl l p (uS l.length l))/\Hid (wr.heap[w.heap.size]?=some (.stringIter (bs l) p))/\Hid (Below w.heap.size w wr)) (λ_ wr=>l.length-wr.iterPos w.heap.size)
 case atStart=>exact⟨0,by omega,Cl.zero l,World.iter_heap w (bs l) 0,(aB _ _).alloc (aE _) _⟩
 case round=>
  obtain⟨p,hp,A,o,t⟩:=hrel;by_cases hlt:p<l.length
  ·have d:p<(bs l).size:=(by omega);have F:=qB (bs l) p d;have v:=qZ (bs l) p;have g: ∀ty,(Instr.next (.pointer (some ⟨w.heap.size,0,none⟩)) true ty).run Tryz.prog wr= .ok (.tuple #[.bool true, .int .i64 p, .int .i32 (bQ (bs l) p)]) (wr.iterAt w.heap.size (bs l) (p+bJ (bs l) p)):=λty=>Lib.run_next_any_at wr _ (bs l) p ty o.out d;have h:=hid (Lib.iterAt_heap wr w.heap.size (bs l) p (p+bJ (bs l) p) o.out);have c:=hid (Lib.below_iterAt t.out (aE w.heap.size) (bs l) (p+bJ (bs l) p));have I:=hid (iterPos_of o.out);have i:=hid (iterPos_of h.out);obtain⟨a,b⟩:=A.out.rune hlt;obtain⟨r,D⟩:=exQ<|bQ (bs l) p;obtain⟨n,B⟩:=exQ<|bJ (bs l) p;rw[D] at g v a b;rw[B] at g F h c i b;clear D B;by_cases h3:r<32
   ·have f:=hid (a (.inl h3));have y:decide (r<32)=true:=aM h3;have m:Hid (R=false):=hid (by rw[<-u.out,f.out,Bool.false_and]);clear a b;go_wp2_with fail;go_ret;exact⟨by rw[m.out];rfl,c.out⟩
   ·have y:decide (r<32)=false:=aH h3;by_cases h4:r=127
    ·have f:=hid (a (.inr h4));have x:(r==127)=true:=beq_iff_eq.2 h4;have m:Hid (R=false):=hid (by rw[<-u.out,f.out,Bool.false_and]);clear a b h4;go_wp2_with fail;go_ret;exact⟨by rw[m.out];rfl,c.out⟩
    ·have f:=hid (b (by omega));have x:(r==127)=false:=aK.2 h4;clear h4 a b;go_wp2_with fail;go_roundw
     case rel=>exact⟨p+n,by omega,f.out,h.out,c.out⟩
     case measure=>rw[i.out,I.out];omega
  ·have g: ∀ty,(Instr.next (.pointer (some ⟨w.heap.size,0,none⟩)) true ty).run Tryz.prog wr= .ok (.tuple #[.bool false]) wr:=λty=>Lib.run_next_end_at wr _ (bs l) p ty o.out (by omega);have f:=hid (A.out.fin (by omega));have m:Hid (validD l=R):=hid (by rw[<-u.out,f.out,Bool.true_and]);have C:=Co (bs l) wr (by omega) (G.out.keep t.out).1.1;rw[Kg,aZ,m.out] at C;obtain⟨N,E⟩:=exQ<|(jU (bs l)).1;rw[E] at C;have H:=hid C;clear C E;go_wp2_with fail;refine H.out.mono ?_;rintro e w1 ⟨rfl,j⟩;have z:=hid (aC t.out j);clear j;go_wp2_with fail;go_ret;exact⟨rfl,z.out⟩
theorem Wp (x y:aA):((bs x).toList==(bs y).toList)=decide (x=y):=by
 rw[show (bs y).toList=y from by rw[Lib.toList_data,aZ]];exact pI x y
theorem Wq (x y:aA):decide (bs x=bs y)=decide (x=y):=by
 rw[decide_eq_decide];exact⟨λh=>xR h,λh=>by rw[h]⟩
def yV:aA:= [63,58,44,91,93,123,125,35,38,42,33,124,62,39,34,37,64,96]
def rP (s:aA):Bool:=match s with
 | []=>false
 | c::_=>sZ s&&decide (Lib.trimB s 32=s)&&!decide (0<=Lib.indexByte yV c)&&!decide (s= [45])&&!Lib.hasPrefix s [45,32]&&!Lib.hasSuffix s [58]&&!Lib.contains s [58,32]&&!Lib.contains s [32,35]
theorem Kk (s:aA) (w:World) (hs:s.length<=1073741824) (hV:nY w):
  Calls Tryz.prog 92 #[.string (bs s)] w λe w'=>e= .returned (.bool (rP s))/\Below w.heap.size w w':=by
 have sl:=aT s;have C1:=Wo s w hs hV;obtain⟨R,t⟩:=exQ<|rP s;rw[t];cases s with
 | nil=>
  have v:=hid t;clear t C1;have e0:((bs ([]:aA)).toList== [])=true:=nX [];have e0b:(bs ([]:aA)).toList.isEmpty=true:=mY [];go_enter Tryz.func92,Tryz.ntmps92;go_wp2_with fail;go_ret;exact⟨by rw[<-v.out];rfl,aB _ _⟩
 | cons c r=>
  obtain⟨s,g⟩:=exQ<|c::r;have j:(sZ s&&decide (Lib.trimB s 32=s)&&!decide (0<=Lib.indexByte yV c)&&!decide (s= [45])&&!Lib.hasPrefix s [45,32]&&!Lib.hasSuffix s [58]&&!Lib.contains s [58,32]&&!Lib.contains s [32,35])=R:=by
   rw[<-t,<-g];rfl
  have l:0<s.length:=by rw[<-g];simp
  have hc0:(bs s)[0]'(by rw[aT];exact l)=c:=by
   subst g;rfl
  rw[g] at hs sl C1 ⊢;have i:s≠ []:=by rw[<-g];simp
  have e0:((bs s).toList== [])=false:=by rw[nX];cases s<;>simp at i ⊢
  have e0b:(bs s).toList.isEmpty=false:=by rw[mY];cases s<;>simp at i ⊢
  have e0c:decide (s= [])=false:=aH i;clear t g;have q:=hid C1;have v:=hid j;have G:=hid hV;clear C1 j hV;have CT:Hid (∀w,Calls Tryz.prog 120 #[.string (bs s), .string ⟨#[32]⟩] w λe w'=>e= .returned (.string (bs (Lib.trimB s 32)))/\Below w.heap.size w w'):=hid (λw=>by
   have h:=Tryz.strings_Trim_one (bs s) 32 (by decide) w (by omega);rw[aZ] at h;refine h.mono ?_;rintro e w' ⟨rfl,rfl|rfl⟩
   ·exact⟨rfl,aB _ _⟩
   ·exact⟨rfl,(aB _ _).drew⟩)
  have CI:Hid (∀w,Calls Tryz.prog 32 #[.string ⟨#[63,58,44,91,93,123,125,35,38,42,33,124,62,39,34,37,64,96]⟩, .int .u8 (c.toNat:Int)] w λe w'=>e= .returned (.int .i64 (Lib.indexByte yV c))/\w'=w):=hid (λw=>by have h:=Tryz.strings_IndexByte ⟨#[63,58,44,91,93,123,125,35,38,42,33,124,62,39,34,37,64,96]⟩ (c.toNat:Int) w;rw[show ((c.toNat:Int).toNat.toUInt8)=c from by simp] at h;exact h);have CP:Hid (∀w,Calls Tryz.prog 121 #[.string (bs s), .string ⟨#[45,32]⟩] w λe w'=>e= .returned (.bool (Lib.hasPrefix s [45,32]))/\w'=w):=hid (λw=>by have h:=Tryz.strings_HasPrefix (bs s) ⟨#[45,32]⟩ w;rw[aZ] at h;exact h);have CS:Hid (∀w,Calls Tryz.prog 122 #[.string (bs s), .string ⟨#[58]⟩] w λe w'=>e= .returned (.bool (Lib.hasSuffix s [58]))/\w'=w):=hid (λw=>by have h:=Tryz.strings_HasSuffix (bs s) ⟨#[58]⟩ w (by omega);rw[aZ] at h;exact h);have CC:Hid (∀(a b:UInt8) w,nY w->Calls Tryz.prog 123 #[.string (bs s), .string ⟨#[a,b]⟩] w λe w'=>e= .returned (.bool (Lib.contains s [a,b]))/\w'=w):=hid (λa b w H=>by obtain⟨m,K⟩:=H.2.2;have h:=Tryz.strings_Contains (bs s) ⟨#[a,b]⟩ m w (by omega) K;rw[aZ] at h;exact h);have CC1:Hid (∀w,nY w->Calls Tryz.prog 123 #[.string (bs s), .string ⟨#[58,32]⟩] w λe w'=>e= .returned (.bool (Lib.contains s [58,32]))/\w'=w):=hid (CC.out 58 32);have CC2:Hid (∀w,nY w->Calls Tryz.prog 123 #[.string (bs s), .string ⟨#[32,35]⟩] w λe w'=>e= .returned (.bool (Lib.contains s [32,35]))/\w'=w):=hid (CC.out 32 35);have t1:=Wp (Lib.trimB s 32) s;have t2:=Wq (Lib.trimB s 32) s;have m1:=pI s [45];obtain⟨q1,D⟩:=exQ<|sZ s;obtain⟨T,E⟩:=exQ<|Lib.trimB s 32;rw[E] at CT t1 t2;obtain⟨q2,A⟩:=exQ<|decide (T=s);obtain⟨I,C⟩:=exQ<|Lib.indexByte yV c;rw[C] at CI;obtain⟨q3,J⟩:=exQ<|decide (0<=I);obtain⟨q4,x⟩:=exQ<|decide (s= [45]);obtain⟨q5,z⟩:=exQ<|Lib.hasPrefix s [45,32];obtain⟨q6,B⟩:=exQ<|Lib.hasSuffix s [58];obtain⟨q7,y⟩:=exQ<|Lib.contains s [58,32];obtain⟨q8,F⟩:=exQ<|Lib.contains s [32,35];rw[D] at q;rw[A] at t1 t2;rw[x] at m1;rw[z] at CP;rw[B] at CS;rw[y] at CC1;rw[F] at CC2;have f:Hid ((q1&&q2&&!q3&&!q4&&!q5&&!q6&&!q7&&!q8)=R):=hid (by rw[<-v.out,D,E,A,C,J,x,z,B,y,F]);have t3:decide (s= [45])=q4:=x;clear D A x z B y F C E v CC;go_enter Tryz.func92,Tryz.ntmps92;go_wp2_with fail;refine q.out.mono ?_;rintro e w1 ⟨rfl,u⟩;have o:=hid u;clear u;cases q1 with
  | false=>
   go_wp2_with fail;go_ret;exact⟨by rw[<-f.out];rfl,o.out⟩
  | true =>
   go_wp2_with fail;refine(CT.out _).mono ?_;rintro e w2 ⟨rfl,p⟩;have d:=hid (aC o.out p);clear p;cases q2 with
   | false=>
    go_wp2_with fail;go_ret;exact⟨by rw[<-f.out];rfl,d.out⟩
   | true =>
    go_wp2_with fail;refine(CI.out _).mono ?_;rintro e w3 ⟨rfl,rfl⟩;cases q3 with
    | true=>
     go_wp2_with fail;go_ret;exact⟨by rw[<-f.out];rfl,d.out⟩
    | false=>
     cases q4 with
     | true=>
      go_wp2_with fail;go_ret;exact⟨by rw[<-f.out];rfl,d.out⟩
     | false=>
      go_wp2_with fail;refine(CP.out _).mono ?_;rintro e w4 ⟨rfl,rfl⟩;cases q5 with
      | true=>
       go_wp2_with fail;go_ret;exact⟨by rw[<-f.out];rfl,d.out⟩
      | false=>
       go_wp2_with fail;refine(CS.out _).mono ?_;rintro e w5 ⟨rfl,rfl⟩;cases q6 with
       | true=>
        go_wp2_with fail;go_ret;exact⟨by rw[<-f.out];rfl,d.out⟩
       | false=>
        go_wp2_with fail;refine(CC1.out _ (G.out.keep d.out)).mono ?_;rintro e w6 ⟨rfl,rfl⟩;cases q7 with
        | true=>
         go_wp2_with fail;go_ret;exact⟨by rw[<-f.out];rfl,d.out⟩
        | false=>
         go_wp2_with fail;refine(CC2.out _ (G.out.keep d.out)).mono ?_;rintro e w7 ⟨rfl,rfl⟩;cases q8
         all_goals
          go_wp2_with fail;go_ret;exact⟨by rw[<-f.out];rfl,d.out⟩
def uT:aA:= [110,117,108,108]
def pJ (s:aA):Int×aA:=
 if s= []\/s=uT\/s= [126] then(1,[])
 else if s=kX\/s=kY then(2,s)
 else if(cL s).2=0 then(3,eX (cL s).1)
 else(4,s)
def yW (s:aA):Ending:= .returned (.agg #[.int .i64 (pJ s).1, .string (bs (pJ s).2), .slice none 0 0, .slice none 0 0])
def lM (w:World) (X:Nat) (k:Int) (t:aA):Prop:=w.heap[X]?=some (.cells #[.int .i64 k, .string (bs t), .slice none 0 0, .slice none 0 0] 26 (0,0))
abbrev Ws (w:World) (X:Nat) (k:Int) (t:aA):Prop:=w.cell? ⟨X,0,none⟩=some (.int .i64 k)/\w.cell? ⟨X,1,none⟩=some (.string (bs t))/\w.cell? ⟨X,2,none⟩=some (.slice none 0 0)/\w.cell? ⟨X,3,none⟩=some (.slice none 0 0)/\w.frozen? ⟨X,0,none⟩=false/\w.frozen? ⟨X,1,none⟩=false/\w.frozen? ⟨X,2,none⟩=false/\w.frozen? ⟨X,3,none⟩=false
theorem lM.cells {w:World}{X:Nat}{k:Int}{t:aA} (h:lM w X k t):Ws w X k t:=by
 unfold lM at h;refine⟨?_,?_,?_,?_,?_,?_,?_,?_⟩<;>simp[World.cell?,World.frozen?,h]
theorem lM.keep {w w':World}{X:Nat}{k:Int}{t:aA} (h:lM w X k t) (hb:Below w.heap.size w w'):lM w' X k t:=(hb.block X (aF h)).trans h
theorem lM.new (w:World) (k:Int) (t:aA):lM (w.alloc (.cells #[.int .i64 k, .string (bs t), .slice none 0 0, .slice none 0 0] 26)) w.heap.size k t:=heap_alloc_new w _
def qK (w:World) (X:Nat) (k:Int) (t:aA):World:=(((w.setCell ⟨X,0,none⟩ (.int .i64 k)).setCell ⟨X,1,none⟩ (.string (bs t))).setCell ⟨X,2,none⟩ (.slice none 0 0)).setCell ⟨X,3,none⟩ (.slice none 0 0)
theorem lM.put {w:World}{X:Nat}{k k2:Int}{t t2:aA} (h:lM w X k t):lM (qK w X k2 t2) X k2 t2:=by
 unfold lM at h ⊢;unfold qK;simp[World.setCell,h,Array.getElem?_modify]
theorem wR {B:Nat}{w w':World}{X:Nat}{k:Int}{t:aA} (h:Below B w w') (hX:B<=X):Below B w (qK w' X k t):=by
 unfold qK;exact(((h.setCell (p:=⟨X,0,none⟩) hX _).setCell (p:=⟨X,1,none⟩) hX _).setCell (p:=⟨X,2,none⟩) hX _).setCell (p:=⟨X,3,none⟩) hX _
theorem Cr (s:aA) (w:World):
  Calls Tryz.prog 51 #[.string (bs s)] w λe w'=>e= .returned (.agg #[.int .i64 4, .string (bs s), .slice none 0 0, .slice none 0 0])/\Below w.heap.size w w':=by
 have ba:=aI w (.cells #[.int .i64 0, .string (bs []), .slice none 0 0, .slice none 0 0] 26);have b:=lM.new w 0 [];obtain⟨W1,f⟩:=exQ<|w.alloc (.cells #[.int .i64 0, .string (bs []), .slice none 0 0, .slice none 0 0] 26);rw[f] at ba b;obtain⟨y0,y1,y2,y3,f0,f1,f2,f3⟩:=b.cells;have hW1':w.alloc (.cells #[.int .i64 0, .string ⟨#[]⟩, .slice none 0 0, .slice none 0 0] 26)=W1:=f;go_enter Tryz.func51,Tryz.ntmps51;go_wp2_with fail;clear y0 y1 y2 y3 f0 f1 f2 f3;have hP:=(b).put (k2:=4) (t2:=s);have d:=wR (k:=4) (t:=s) (ba) (aE w.heap.size);obtain⟨WF,c⟩:=exQ<|qK W1 w.heap.size 4 s;rw[c] at hP d;have a:(((W1.setCell ⟨w.heap.size,0,none⟩ (.int .i64 4)).setCell ⟨w.heap.size,1,none⟩ (.string (bs s))).setCell ⟨w.heap.size,2,none⟩ (.slice none 0 0)).setCell ⟨w.heap.size,3,none⟩ (.slice none 0 0)=WF:=c;rw[a];obtain⟨d0,d1,d2,d3,_⟩:=hP.cells;clear c a;refine bodyPost_ret (v:= .agg #[.int .i64 4, .string (bs s), .slice none 0 0, .slice none 0 0]) ?_ rfl ⟨rfl,d⟩;simp[results,Tryz.results51,go_sem,d0,d1,d2,d3]
theorem Wt (s:aA) (w:World) (hs:s.length<=1073741824) (hV:nY w):
  Calls Tryz.prog 90 #[.string (bs s)] w λe w'=>e=yW s/\Below w.heap.size w w':=by
 have sl:=aT s;have ba:=aI w (.cells #[.int .i64 0, .string (bs []), .slice none 0 0, .slice none 0 0] 26);have l:=lM.new w 0 [];obtain⟨W1,u⟩:=exQ<|w.alloc (.cells #[.int .i64 0, .string (bs []), .slice none 0 0, .slice none 0 0] 26);rw[u] at ba l;have j:=hid ba;have m:=hid l;have K:=hid (hV.keep ba);obtain⟨y0,y1,y2,y3,f0,f1,f2,f3⟩:=l.cells;have hW1':w.alloc (.cells #[.int .i64 0, .string ⟨#[]⟩, .slice none 0 0, .slice none 0 0] 26)=W1:=u;have CP:=hid (λw=>yM s w (by omega));have i:=Cq s;have m0:=pI s [];have m1:=pI s uT;have m2:=pI s [126];have m3:=pI s kX;have m4:=pI s kY;have e0:=mY s;unfold uT at m1;unfold kX at m3;unfold kY at m4;unfold yW pJ;obtain⟨q0,F⟩:=exQ<|decide (s= []);obtain⟨q1,C⟩:=exQ<|decide (s=uT);obtain⟨q2,H⟩:=exQ<|decide (s= [126]);obtain⟨q3,B⟩:=exQ<|decide (s=kX);obtain⟨q4,A⟩:=exQ<|decide (s=kY);have m0:=m0.trans F;have m1:=m1.trans C;have m2:=m2.trans H;have m3:=m3.trans B;have m4:=m4.trans A;have n1:decide (s= [110,117,108,108])=q1:=C;have n3:decide (s= [116,114,117,101])=q3:=B;have n4:decide (s= [102,97,108,115,101])=q4:=A;have e0b:s.isEmpty=q0:=by rw[<-F];cases s<;>simp
 rw[e0b] at e0;have z0:s= []↔q0=true:=by rw[<-F];simp
 have z1:s=uT↔q1=true:=by rw[<-C];simp
 have z2:s= [126]↔q2=true:=by rw[<-H];simp
 have z3:s=kX↔q3=true:=by rw[<-B];simp
 have z4:s=kY↔q4=true:=by rw[<-A];simp
 have y:=hid (aJ z0 (aJ z1 (aJ z2 (aJ z3 z4))));clear z0 z1 z2 z3 z4 C B A hV ba l u;obtain⟨P,hP⟩:=exQ<|cL s;rw[hP] at CP i ⊢;obtain⟨n,er⟩:=P;simp only[] at i ⊢;by_cases c1:(q0||q1||q2)=true
 ·have L:Hid ((s= []\/s=uT\/s= [126])):=hid (by
   obtain⟨a0,a1,a2,_⟩:=y.out;simp only[Bool.or_eq_true] at c1;rcases c1 with(h | h) | h
   ·exact .inl (a0.2 h)
   ·exact .inr (.inl (a1.2 h))
   ·exact .inr (.inr (a2.2 h)))
  rw[if_pos L.out];cases q0<;>cases q1<;>cases q2
  ·cases c1
  all_goals
   go_enter Tryz.func90,Tryz.ntmps90;go_wp2_with fail;clear y0 y1 y2 y3 f0 f1 f2 f3;have hP:=(m.out).put (k2:=1) (t2:=([]:aA));have c:=wR (k:=1) (t:=([]:aA)) (j.out) (aE w.heap.size);obtain⟨WF,b⟩:=exQ<|qK W1 w.heap.size 1 ([]:aA);rw[b] at hP c;have a:(((W1.setCell ⟨w.heap.size,0,none⟩ (.int .i64 1)).setCell ⟨w.heap.size,1,none⟩ (.string ⟨#[]⟩)).setCell ⟨w.heap.size,2,none⟩ (.slice none 0 0)).setCell ⟨w.heap.size,3,none⟩ (.slice none 0 0)=WF:=b;rw[a];obtain⟨d0,d1,d2,d3,_⟩:=hP.cells;clear b a;refine bodyPost_ret (v:= .agg #[.int .i64 1, .string (bs ([]:aA)), .slice none 0 0, .slice none 0 0]) ?_ rfl ⟨rfl,c⟩;simp[results,Tryz.results90,go_sem,d0,d1,d2,d3]
 ·obtain⟨rfl,rfl,rfl⟩:q0=false/\q1=false/\q2=false:=by cases q0<;>cases q1<;>cases q2<;>simp at c1 ⊢
  rw[if_neg (by
   obtain⟨a0,a1,a2,_⟩:=y.out;rintro(h | h | h)
   ·exact absurd (a0.1 h) (by decide)
   ·exact absurd (a1.1 h) (by decide)
   ·exact absurd (a2.1 h) (by decide))]
  by_cases c2:(q3||q4)=true
  ·rw[if_pos (by
    obtain⟨_,_,_,a3,a4⟩:=y.out;simp only[Bool.or_eq_true] at c2;rcases c2 with h | h
    ·exact .inl (a3.2 h)
    ·exact .inr (a4.2 h))]
   cases q3<;>cases q4
   ·cases c2
   all_goals
    go_enter Tryz.func90,Tryz.ntmps90;go_wp2_with fail;clear y0 y1 y2 y3 f0 f1 f2 f3;have hP:=(m.out).put (k2:=2) (t2:=s);have c:=wR (k:=2) (t:=s) (j.out) (aE w.heap.size);obtain⟨WF,b⟩:=exQ<|qK W1 w.heap.size 2 s;rw[b] at hP c;have a:(((W1.setCell ⟨w.heap.size,0,none⟩ (.int .i64 2)).setCell ⟨w.heap.size,1,none⟩ (.string (bs s))).setCell ⟨w.heap.size,2,none⟩ (.slice none 0 0)).setCell ⟨w.heap.size,3,none⟩ (.slice none 0 0)=WF:=b;rw[a];obtain⟨d0,d1,d2,d3,_⟩:=hP.cells;clear b a;refine bodyPost_ret (v:= .agg #[.int .i64 2, .string (bs s), .slice none 0 0, .slice none 0 0]) ?_ rfl ⟨rfl,c⟩;simp[results,Tryz.results90,go_sem,d0,d1,d2,d3]
  ·obtain⟨rfl,rfl⟩:q3=false/\q4=false:=(by cases q3<;>cases q4<;>simp at c2 ⊢);rw[if_neg (by
    obtain⟨_,_,_,a3,a4⟩:=y.out;rintro(h | h)
    ·exact absurd (a3.1 h) (by decide)
    ·exact absurd (a4.1 h) (by decide))]
   clear c1 c2 y;by_cases he:er=0
   ·subst he;rw[if_pos rfl];have CT:Hid (∀w',nY w'->Calls Tryz.prog 64 #[.agg #[.bool n.neg, .string (bs n.dig), .int .i64 n.exp]] w' λe w2=>e= .returned (.string (bs (eX n)))/\Below w'.heap.size w' w2):=hid (λw' J=>Bu n w' (by have:=i rfl;omega) J.1.2);clear i;obtain⟨Z,I⟩:=exQ<|eX n;rw[I] at CT ⊢;go_enter Tryz.func90,Tryz.ntmps90;go_wp2_with fail;refine(CP.out _).mono ?_;unfold uM gG;rintro e w2 ⟨rfl,d⟩;have q:=hid (m.out.keep d);have p:=hid (aC j.out d);have E:=hid (K.out.keep d);clear d y0 y1 y2 y3 f0 f1 f2 f3;have ba3:=aI w2 (.cells #[.bool n.neg, .string (bs n.dig), .int .i64 n.exp] 113);have G:=iC.new w2 n;obtain⟨W3,z⟩:=exQ<|w2.alloc (.cells #[.bool n.neg, .string (bs n.dig), .int .i64 n.exp] 113);rw[z] at ba3 G;obtain⟨x0,x1,x2,_⟩:=G.cells;have r:=hid (q.out.keep ba3);have x:=hid (aC p.out ba3);have D:=hid (E.out.keep ba3);clear ba3 G;go_wp2_with fail;refine(CT.out _ D.out).mono ?_;rintro e w4 ⟨rfl,f⟩;have g:=hid (r.out.keep f);have o:=hid (aC x.out f);clear f x0 x1 x2 z;obtain⟨y0,y1,y2,y3,f0,f1,f2,f3⟩:=g.out.cells;go_wp2_with fail;clear y0 y1 y2 y3 f0 f1 f2 f3;have hP:=(g.out).put (k2:=3) (t2:=Z);have c:=wR (k:=3) (t:=Z) (o.out) (aE w.heap.size);obtain⟨WF,b⟩:=exQ<|qK w4 w.heap.size 3 Z;rw[b] at hP c;have a:(((w4.setCell ⟨w.heap.size,0,none⟩ (.int .i64 3)).setCell ⟨w.heap.size,1,none⟩ (.string (bs Z))).setCell ⟨w.heap.size,2,none⟩ (.slice none 0 0)).setCell ⟨w.heap.size,3,none⟩ (.slice none 0 0)=WF:=b;rw[a];obtain⟨d0,d1,d2,d3,_⟩:=hP.cells;clear b a;refine bodyPost_ret (v:= .agg #[.int .i64 3, .string (bs Z), .slice none 0 0, .slice none 0 0]) ?_ rfl ⟨rfl,c⟩;simp[results,Tryz.results90,go_sem,d0,d1,d2,d3]
   ·rw[if_neg he];have de:(er==0)=false:=aK.2 he;have CO:=hid (λw=>Cr s w);clear i;go_enter Tryz.func90,Tryz.ntmps90;go_wp2_with fail;refine(CP.out _).mono ?_;unfold uM gG;rintro e w2 ⟨rfl,d⟩;have q:=hid (m.out.keep d);have p:=hid (aC j.out d);clear d y0 y1 y2 y3 f0 f1 f2 f3;have ba3:=aI w2 (.cells #[.bool n.neg, .string (bs n.dig), .int .i64 n.exp] 113);have r:=hid (q.out.keep ba3);have x:=hid (aC p.out ba3);clear ba3;go_wp2_with fail;refine(CO.out _).mono ?_;rintro e w4 ⟨rfl,f⟩;have g:=hid (r.out.keep f);have o:=hid (aC x.out f);clear f;obtain⟨y0,y1,y2,y3,f0,f1,f2,f3⟩:=g.out.cells;go_wp2_with fail;clear y0 y1 y2 y3 f0 f1 f2 f3;have hP:=(g.out).put (k2:=4) (t2:=s);have c:=wR (k:=4) (t:=s) (o.out) (aE w.heap.size);obtain⟨WF,b⟩:=exQ<|qK w4 w.heap.size 4 s;rw[b] at hP c;have a:(((w4.setCell ⟨w.heap.size,0,none⟩ (.int .i64 4)).setCell ⟨w.heap.size,1,none⟩ (.string (bs s))).setCell ⟨w.heap.size,2,none⟩ (.slice none 0 0)).setCell ⟨w.heap.size,3,none⟩ (.slice none 0 0)=WF:=b;rw[a];obtain⟨d0,d1,d2,d3,_⟩:=hP.cells;clear b a;refine bodyPost_ret (v:= .agg #[.int .i64 4, .string (bs s), .slice none 0 0, .slice none 0 0]) ?_ rfl ⟨rfl,c⟩;simp[results,Tryz.results90,go_sem,d0,d1,d2,d3]
def bG (w:World) (X:Nat) (k:Int) (t:aA) (kv iv:Value):World:=(((w.setCell ⟨X,0,none⟩ (.int .i64 k)).setCell ⟨X,1,none⟩ (.string (bs t))).setCell ⟨X,2,none⟩ kv).setCell ⟨X,3,none⟩ iv
theorem pK {B:Nat}{w w':World}{X:Nat}{k:Int}{t:aA}{kv iv:Value} (h:Below B w w') (hX:B<=X):Below B w (bG w' X k t kv iv):=by
 unfold bG;exact(((h.setCell (p:=⟨X,0,none⟩) hX _).setCell (p:=⟨X,1,none⟩) hX _).setCell (p:=⟨X,2,none⟩) hX _).setCell (p:=⟨X,3,none⟩) hX _
theorem qL {w:World}{X:Nat}{k:Int}{t:aA}{kv iv:Value}{q:Nat} (hq:q≠X):(bG w X k t kv iv).heap[q]?=w.heap[q]?:=by
 unfold bG;rw[cP _ ⟨X,3,none⟩ _ q hq,cP _ ⟨X,2,none⟩ _ q hq,cP _ ⟨X,1,none⟩ _ q hq,cP _ ⟨X,0,none⟩ _ q hq]
theorem rQ {w:World}{X:Nat}{k0 k:Int}{t0 t:aA}{a b kv iv:Value} (h:w.heap[X]?=some (.cells #[.int .i64 k0, .string (bs t0),a,b] 26)):(bG w X k t kv iv).heap[X]?=some (.cells #[.int .i64 k, .string (bs t),kv,iv] 26):=by
 unfold bG;have c:=fO h 0 (.int .i64 k);have d:=fO c 1 (.string (bs t));have e:=fO d 2 kv;exact fO e 3 iv
theorem bC {w:World}{X:Nat}{a b c e:Value} (hb:w.heap[X]?=some (.cells #[a,b,c,e] 26)):w.cell? ⟨X,0,none⟩=some a/\w.cell? ⟨X,1,none⟩=some b/\w.cell? ⟨X,2,none⟩=some c/\w.cell? ⟨X,3,none⟩=some e/\
  w.frozen? ⟨X,0,none⟩=false/\w.frozen? ⟨X,1,none⟩=false/\w.frozen? ⟨X,2,none⟩=false/\w.frozen? ⟨X,3,none⟩=false:=by
 refine⟨?_,?_,?_,?_,?_,?_,?_,?_⟩<;>simp[World.cell?,World.frozen?,hb]
def jN (t:VT) (w:World) (e:Ending) (w':World):Prop:=(∃kv iv,e= .returned (vv t kv iv)/\eZ w.heap.size w' t.depth t kv iv)/\Below w.heap.size w w'
theorem CS.put {W w:World}{Y R:Nat}{k:Int}{s:aA}{ks:List aA}{l:List VT}{kv ov:Value} (h:CS W Y k s ks l kv ov w) (hR:R<W.heap.size):dW (λq=>W.heap.size<=q) (bG w R k s kv ov) (VT.mk k s ks l).depth (VT.mk k s ks l) kv ov:=
 h.tree.agree (λq a _=>⟨qL (by omega),a⟩)
section
variable {W w w2:World}{X:Nat}{k:Int}{s:ByteArray}{kv:Value}
end
def qM (W0:World) (x:Value) (w':World):Prop:= ∃Y,x= .pointer (some ⟨Y,0,none⟩)/\W0.heap.size<=Y/\w'.heap[Y]?=some (.cells #[.int .i64 0, .string (bs []), .slice none 0 0, .slice none 0 0] 26)
theorem qM.new {W0 w':World} (h:W0.heap.size<=w'.heap.size):qM W0 (.pointer (some ⟨w'.heap.size,0,none⟩)) (w'.alloc (.cells #[.int .i64 0, .string ⟨#[]⟩, .slice none 0 0, .slice none 0 0] 26)):=⟨_,rfl,h,heap_alloc_new w' _⟩
theorem qM.keep {W0 w' w2:World}{x:Value} (h:qM W0 x w') (hb:Below w'.heap.size w' w2):qM W0 x w2:=by
 obtain⟨Y,b,c,a⟩:=h;exact⟨Y,b,c,(hb.block Y (aF a)).trans a⟩
theorem CS.ofStore {W2 W0 w':World}{Y:Nat}{k:Int}{s:aA}{ks:List aA}{p2:Option Addr}{n2 c2:Nat} (hb:Below W2.heap.size W2 W0) (hA:Below W0.heap.size W0 w') (ho:bR W0.heap.size ks (.slice p2 n2 c2) w') (hY:W0.heap.size<=Y) (hYb:w'.heap[Y]?=some (.cells #[.int .i64 0, .string (bs []), .slice none 0 0, .slice none 0 0] 26)):CS W2 Y k s ks [] (.slice p2 n2 c2) (.slice none 0 0) (bG w' Y k s (.slice p2 n2 c2) (.slice none 0 0)):=by
 have b:some Y≠(Value.slice p2 n2 c2).ownBlock:=λe=>by
  rcases ho.2 with⟨h,_⟩ | ⟨g,cap,cur,h,_,a,_⟩
  ·rw[h] at e;cases e
  ·rw[h] at e;injection e with e;subst e;rw[hYb] at a;injection a with a;injection a with _ a;exact absurd a (by decide)
 refine⟨rQ hYb,?_,b,fJ.nil _ _ _,pK (aC hb hA) (aY hb.size hY),aY hb.size hY⟩;exact(ho.mono hb.size).keepB (λq _ c _=>qL (λe=>b (by rw[<-e];exact c)))
end
end Go.Proofs.YtaifnmjjpddikaaGreatDoor
