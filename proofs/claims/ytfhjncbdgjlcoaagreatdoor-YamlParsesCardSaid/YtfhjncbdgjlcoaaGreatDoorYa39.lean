import Derived.Test.YtfhjncbdgjlcoaaGreatDoorYa38
set_option maxRecDepth 100000
set_option maxHeartbeats 4000000
set_option linter.unusedVariables false
set_option linter.unusedSimpArgs false
namespace Go.Proofs.YtfhjncbdgjlcoaaGreatDoor
section
open Go.RowKit
open Go.Lib hiding intOf
def NdE (t:VT) (b:Bool) (w:World) (e:Ending) (w':World):Prop:=(∃kv iv,e= .returned (.tuple #[vv t kv iv,b])/\fX w.heap.size w' t.depth t kv iv)/\Below w.heap.size w w'
theorem aBS (s:aA) (d:gD) (hb:vA s d) (hi64: ∀l∈d.lines,l.ind<=1099511627776) (B:Nat) (lvv nv:Value) (k m:Nat) (w:World) (hT:lE d.nodes 32 k m) (hD0:eD B d lvv nv w) (hV:bU w):
  Calls Tryz.prog 10 #[.agg #[bs s,lvv,nv],k] w (NdE (bS s d 32 k) true w):=by
 have xj:=trivial;exact qd
end
section
set_option maxRecDepth 100000
open Go.Lib
def qF:aA:= [97,58,32,49,10,98,58,10,32,32,45,32,120,10,32,32,45,32,124,10,32,32,32,32,112,10,32,32,32,32,113]
def yJ:aA:= [97,58,32,49,10,32,98,58,32,50]
def mQ:gD:=⟨[⟨4,0,4,0,0,1,3,4,0,0⟩,⟨4,5,7,0,5,6,7,7,0,0⟩,⟨3,8,13,2,0,0,12,13,0,0⟩,⟨3,14,19,2,0,0,18,19,0,0⟩,⟨6,20,25,4,0,0,0,0,0,0⟩,⟨6,26,31,4,0,0,0,0,0,0⟩],
 [⟨3,0,0,6,0,0,0,0,[1,2]⟩,⟨1,0,0,1,0,1,3,4,[]⟩,⟨2,2,2,6,5,6,0,0,[3,4]⟩,⟨1,2,2,3,0,0,12,13,[]⟩,⟨4,2,3,6,0,0,18,19,[]⟩]⟩
def pJ:VT:= .mk 6 [] [[97],[98]] [.mk 3 [49] [] [], .mk 5 [] [] [.mk 4 [120] [] [], .mk 4 [112,10,113,10] [] []]]
theorem aBT:pF qF=(mQ,31,0):=d'
theorem aBU:(pF yJ).2=(6,2):=DQ
theorem aBV:bS qF mQ 32 0=pJ:=d'
theorem aBW:wO qF mQ.lines ⟨4,2,3,6,0,0,18,19,[]⟩= [112,10,113,10]:=DQ
theorem Ot:vA qF mQ:=⟨b_,b_,b_,b_,b_⟩
theorem Ou: ∀l∈mQ.lines,l.ind<=1099511627776:=b_
theorem aBX:lE mQ.nodes 32 0 5:=by
 have b:lE mQ.nodes 31 1 2:=⟨_,rfl,rfl⟩;have c:lE mQ.nodes 30 3 4:=⟨_,rfl,rfl⟩;have d:lE mQ.nodes 30 4 5:=⟨_,rfl,rfl⟩;have a:lE mQ.nodes 31 2 5:=⟨_,rfl,rfl,4,c,rfl,5,d,rfl⟩;exact⟨_,rfl,rfl,2,b,rfl,5,a,rfl⟩
end
section
open Go.RowKit
open Go.Lib hiding intOf
theorem aBY:kB (qL 1)= [49]:=DQ
theorem aBZ (w:World) (hV:lT w):
  Calls Tryz.prog 16 #[(1:Int)] w λe w'=>e= .returned (.agg #[(3:Int),bs [49],(),()])/\Below w.heap.size w w':=by
 have zf:=trivial;exact rh
def yK (w:World) (X:Nat) (k:Int) (t:aA) (kv iv:Value):Prop:=w.heap[X]?=some (.cells #[k,bs t,kv,iv] 36 (0,0))
def wP (w:World) (X:Nat) (k:Int) (t:aA) (kv iv:Value):World:=(((w.setCell ⟨X,0,none⟩ (.int .i64 k)).setCell ⟨X,1,none⟩ (.string (bs t))).setCell ⟨X,2,none⟩ kv).setCell ⟨X,3,none⟩ iv
theorem iS.putv {w:World}{X:Nat}{k k2:Int}{t t2:aA}{kv iv:Value} (h:iS w X k t):yK (wP w X k2 t2 kv iv) X k2 t2 kv iv:=by
 unfold iS at h;unfold yK wP;simp[World.setCell,h,Array.getElem?_modify]
theorem yK.cells {w:World}{X:Nat}{k:Int}{t:aA}{kv iv:Value} (h:yK w X k t kv iv):w.cell? ⟨X,0,none⟩=some (.int .i64 k)/\w.cell? ⟨X,1,none⟩=some (.string (bs t))/\w.cell? ⟨X,2,none⟩=some kv/\w.cell? ⟨X,3,none⟩=some iv:=by
 unfold yK at h;refine⟨?_,?_,?_,?_⟩<;>simp[World.cell?,h]
theorem Ov {B:Nat}{w w':World}{X:Nat}{k:Int}{t:aA}{kv iv:Value} (h:Below B w w') (hX:B<=X):Below B w (wP w' X k t kv iv):=by
 unfold wP;exact fd
theorem aCa (p:Option Addr) (n c:Nat) (w:World):
  Calls Tryz.prog 17 #[.slice p n c] w λe w'=>e= .returned (.agg #[(5:Int), .string ⟨#[]⟩,(), .slice p n c])/\Below w.heap.size w w':=by
 have AH:=trivial;exact r9
theorem aCb (q:Option Addr) (m d:Nat) (p:Option Addr) (n c:Nat) (w:World):
  Calls Tryz.prog 15 #[.slice q m d, .slice p n c] w λe w'=>e= .returned (.agg #[(6:Int), .string ⟨#[]⟩, .slice q m d, .slice p n c])/\Below w.heap.size w w':=r9
theorem VD.leaf (w:World) (n:Nat) (k:Int) (s:aA):VD w (n+1) (.mk k s [] []) (.slice none 0 0) (.slice none 0 0):=
 ⟨⟨none,0,rfl,aD _, .inl rfl⟩,none,0,rfl,aD _, .inl rfl⟩
theorem VD.two {w:World}{n K:Nat}{x y:VT}{xk xi yk yi kv:Value}{k:Int}{s:aA}{ks:List aA} (hks:SV w kv ks) (h:w.heap[K]?=some (.cells #[x.kind,bs x.text,xk,xi,y.kind,bs y.text,yk,yi] 36)) (hx:VD w n x xk xi) (hy:VD w n y yk yi):
  VD w (n+1) (.mk k s ks [x,y]) kv (.slice (some ⟨K,0,none⟩) 2 2):=by
 refine⟨hks,some ⟨K,0,none⟩,2,rfl,aD _, .inr ⟨K,0,rfl,aF h,λj z a=>?_⟩⟩;have a: [x,y][j]?=some z:=a
 match j,a with
 | 0,a=>
  obtain rfl:x=z:=E8
  exact⟨xk,xi,by simp[World.cell?,h],by simp[World.cell?,h],by simp[World.cell?,h],by simp[World.cell?,h],hx⟩
 | 1,a=>
  obtain rfl:y=z:=E8
  exact⟨yk,yi,by simp[World.cell?,h],by simp[World.cell?,h],by simp[World.cell?,h],by simp[World.cell?,h],hy⟩
 | j+2,a=>simp at a
theorem SV.two {w:World}{K:Nat}{x y:aA} (h:w.heap[K]?=some (.cells #[bs x,bs y] 9)):SV w (.slice (some ⟨K,0,none⟩) 2 2) [x,y]:=by
 refine⟨some ⟨K,0,none⟩,2,rfl,aD _, .inr ⟨K,0,rfl,aF h,λj z a=>?_⟩⟩
 match j,a with
 | 0,a=>
  obtain rfl:x=z:=E8
  simp[World.cell?,h]
 | 1,a=>
  obtain rfl:y=z:=E8
  simp[World.cell?,h]
 | j+2,a=>simp at a
def vB:Nat->VT->Prop
 | 0,_=>True
 | n+1,t=>t.keys.length<=1073741824/\t.items.length<=1073741824/\ ∀x∈t.items,vB n x
def Ow (t t2:VT) (e:Ending):Prop:= ∃b:Bool,e= .returned (.bool b)/\(t=t2->b=true)
def Gp (n:Nat):Prop:= ∀(t t2:VT) (kv iv kv2 iv2:Value) (w:World),VD w n t kv iv->VD w n t2 kv2 iv2->vB n t->vB n t2->Calls Tryz.prog 12 #[vv t kv iv,vv t2 kv2 iv2] w λe w'=>Ow t t2 e/\Below w.heap.size w w'
theorem aCc (n:Nat) (IH:Gp n):Gp (n+1):=by
 have yh:=trivial;exact qo
theorem Ox: ∀n,Gp n
 | 0=>λ_ _ _ _ _ _ _ h _ _ _=>h.elim
 | n+1=>aCc n (Ox n)
theorem eD.forms {B:Nat}{d:gD}{lv nv:Value}{w:World} (h:eD B d lv nv w):(∃p c,lv= .slice p d.lines.length c)/\ ∃p c,nv= .slice p d.nodes.length c:=by
 obtain⟨z,k,l,j⟩:=h;have f:z.length=d.nodes.length:=by rw[<-k,bR]
 refine⟨?_,?_⟩
 ·rcases l.2 with⟨a,e⟩ | ⟨g,b,i,a,_⟩
  ·exact⟨none,0,by rw[a,e]⟩
  ·exact⟨_,_,a⟩
 ·rw[<-f];rcases j.row.2 with⟨a,e⟩ | ⟨g,b,i,a,_⟩
  ·exact⟨none,0,by rw[a,e]⟩
  ·exact⟨_,_,a⟩
theorem Oy:vB 3 pJ:=by simp[vB,pJ,VT.keys,VT.items]
theorem aCd (w:World) (hV:bU w):
  Calls Tryz.prog 5 #[] w λe w'=>e= .returned (.bool true)/\Below w.heap.size w w':=by
 have HV:=hid hV;have CA:=hid (Gh qF w hV);rw[aBT] at CA;clear hV;go_enter Tryz.func5,Tryz.ntmps5;go_wp2_with fail;refine CA.out.mono ?_;rintro e w1 ⟨tx,lv,nv,rfl,rfl,R,aQ⟩;obtain⟨⟨pl,cl,aZ⟩,pn,cn,aJ⟩:=R.forms;rw[show mQ.lines.length=6 from rfl] at aZ;rw[show mQ.nodes.length=5 from rfl] at aJ;subst aZ aJ;have bg:=hid R;have a9:=hid aQ;clear CA R aQ;obtain⟨K2,aV⟩:=exQ<|w1.heap.size;have b2:=aL w1 (.cells #[bs qF, .slice pl 6 cl, .slice pn 5 cn] 26);have x2:=heap_alloc_new w1 (.cells #[bs qF, .slice pl 6 cl, .slice pn 5 cn] 26);obtain⟨w2,aN⟩:=exQ<|w1.alloc (.cells #[bs qF, .slice pl 6 cl, .slice pn 5 cn] 26);rw[aN] at b2 x2;rw[aV] at x2;have X:=hid b2;have ad:=hid x2;clear b2 x2;have aM:=hid ((HV.out.keep a9.out).keep X.out);have bj:=hid (bg.out.keep X.out);have CB:=hid (Gh yJ w2 aM.out);obtain⟨dB,av⟩:=exQ<|(pF yJ).1;have ao:pF yJ=(dB,6,2):=by rw[<-av,<-aBU]
 rw[ao] at CB;clear ao av;go_wp2_with fail;refine CB.out.mono ?_;rintro e w3 ⟨tx,lv,nv,rfl,rfl,aR,aS⟩;obtain⟨⟨T,ae,rfl⟩,S,V,rfl⟩:=aR.forms;obtain⟨n1,aY⟩:=exQ<|dB.lines.length;obtain⟨n2,aj⟩:=exQ<|dB.nodes.length;rw[aY,aj];have Y:=hid aS;clear CB aR aS aY aj aN aV;obtain⟨K4,a8⟩:=exQ<|w3.heap.size;have b4:=aL w3 (.cells #[.string ⟨#[]⟩, .slice T n1 ae, .slice S n2 V] 26);have x4:=heap_alloc_new w3 (.cells #[.string ⟨#[]⟩, .slice T n1 ae, .slice S n2 V] 26);obtain⟨w4,am⟩:=exQ<|w3.alloc (.cells #[.string ⟨#[]⟩, .slice T n1 ae, .slice S n2 V] 26);rw[am] at b4 x4;rw[a8] at x4;have az:=hid b4;have HX4:=hid x4;clear b4 x4;have c:=hid (((az.out.block K2 (iX (aF ad.out) Y.out.size)).trans (Y.out.block K2 (aF ad.out))).trans ad.out);have k:=hid (aC Y.out az.out);have aw:=hid (aM.out.keep k.out);have an:=hid (bj.out.keep k.out);have CN:=hid (aBS qF mQ Ot Ou _ _ _ 0 5 w4 aBX an.out aw.out);rw[aBV] at CN;obtain⟨y0,y1,y2,_⟩:=eE c.out;have hsimp:(if(2:Int)=0 then bs yJ else⟨#[]⟩)=(⟨#[]⟩:ByteArray):=if_neg b_;go_wp2_with fail;refine CN.out.mono ?_;rintro e w5 ⟨⟨kv,iv,rfl,af⟩,al⟩;obtain⟨pk,ck,pi,ci,aP,ar⟩:=af.toVD.form;rw[show pJ.keys.length=2 from rfl] at aP;rw[show pJ.items.length=2 from rfl] at ar;subst aP ar;have bk:=hid al;have ba:=hid af.toVD;unfold vv;rw[show pJ.kind=6 from rfl,show pJ.text= [] from rfl];clear CN af al y0 y1 y2 am a8;obtain⟨K6,a4⟩:=exQ<|w5.heap.size;have b6:=aL w5 (.cells #[(6:Int),bs [], .slice pk 2 ck, .slice pi 2 ci] 36);have x6:=heap_alloc_new w5 (.cells #[(6:Int),bs [], .slice pk 2 ck, .slice pi 2 ci] 36);obtain⟨w6,ai⟩:=exQ<|w5.alloc (.cells #[(6:Int),bs [], .slice pk 2 ck, .slice pi 2 ci] 36);rw[ai] at b6 x6;rw[a4] at x6;have a5:=hid b6;have aU:=hid x6;clear b6 x6;have m:=hid (aC bk.out a5.out);have aG:=hid ((m.out.block K2 (aF c.out)).trans c.out);have bh:=hid (an.out.keep m.out);have aH:=hid (ba.out.keep a5.out);have CL:=hid (Oo qF mQ (.slice pl 6 cl) (.slice pn 5 cn) _ w6 bh.out Ot Ou 4 _ rfl rfl);rw[aBW] at CL;obtain⟨y0,y1,y2,_⟩:=eE aG.out;go_wp2_with fail;refine CL.out.mono ?_;rintro e w7 ⟨rfl,aI⟩;have au:=hid aI;clear aI;have ak:=hid (aC m.out au.out);clear y0 y1 y2 ai a4 CL;obtain⟨K8,bi⟩:=exQ<|w7.heap.size;have b8:=aL w7 (.cells #[.string ⟨#[97]⟩, .string ⟨#[98]⟩] 9);have x8:=heap_alloc_new w7 (.cells #[.string ⟨#[97]⟩, .string ⟨#[98]⟩] 9);obtain⟨w8,ax⟩:=exQ<|w7.alloc (.cells #[.string ⟨#[97]⟩, .string ⟨#[98]⟩] 9);rw[ax] at b8 x8;rw[bi] at x8;have a6:=hid b8;have aO:=hid x8;clear b8 x8;have G:=hid (aC ak.out a6.out);have C1:=hid (aBZ w8 (aw.out.keep G.out).1);go_wp2_with fail;refine C1.out.mono ?_;rintro e w9 ⟨rfl,aE⟩;have ay:=hid aE;clear aE;have aq:=hid (aC G.out ay.out);have C2:=hid (xP [120] w9);clear ax C1;go_wp2_with fail;refine C2.out.mono ?_;rintro e bd ⟨rfl,N⟩;have D:=hid N;clear N;have C3:=hid (xP [112,10,113,10] bd);clear C2;go_wp2_with fail;refine C3.out.mono ?_;rintro e v ⟨rfl,O⟩;have M:=hid O;clear O;have ab:=hid (aC aq.out (aC D.out M.out));clear C3;obtain⟨u,aX⟩:=exQ<|v.heap.size;have Q:=aL v (.cells #[(4:Int),bs [120],(),(),(4:Int),bs [112,10,113,10],(),()] 36);have t:=heap_alloc_new v (.cells #[(4:Int),bs [120],(),(),(4:Int),bs [112,10,113,10],(),()] 36);obtain⟨bf,I⟩:=exQ<|v.alloc (.cells #[(4:Int),bs [120],(),(),(4:Int),bs [112,10,113,10],(),()] 36);rw[I] at Q t;rw[aX] at t;have F:=hid Q;have B:=hid t;clear Q t;have C4:=hid (aCa (some ⟨u,0,none⟩) 2 2 bf);go_wp2_with fail;refine C4.out.mono ?_;rintro e x ⟨rfl,C⟩;have j:=hid C;clear C;have Z:=hid (aC ab.out (aC F.out j.out));clear C4 I;obtain⟨q,aW⟩:=exQ<|x.heap.size;have ag:=aL x (.cells #[(3:Int),bs [49],(),(),(5:Int), .string ⟨#[]⟩,(), .slice (some ⟨u,0,none⟩) 2 2] 36);have s:=heap_alloc_new x (.cells #[(3:Int),bs [49],(),(),(5:Int), .string ⟨#[]⟩,(), .slice (some ⟨u,0,none⟩) 2 2] 36);obtain⟨bb,H⟩:=exQ<|x.alloc (.cells #[(3:Int),bs [49],(),(),(5:Int), .string ⟨#[]⟩,(), .slice (some ⟨u,0,none⟩) 2 2] 36);rw[H] at ag s;rw[aW] at s;have g:=hid ag;have L:=hid s;clear ag s;have C5:=hid (aCb (some ⟨K8,0,none⟩) 2 2 (some ⟨q,0,none⟩) 2 2 bb);go_wp2_with fail;refine C5.out.mono ?_;rintro e z ⟨rfl,K⟩;have f:=hid K;clear K;have W:=hid (aC Z.out (aC g.out f.out));clear C5 H;obtain⟨K16,aT⟩:=exQ<|z.heap.size;have aa:=aL z (.cells #[(6:Int), .string ⟨#[]⟩, .slice (some ⟨K8,0,none⟩) 2 2, .slice (some ⟨q,0,none⟩) 2 2] 36);have r:=heap_alloc_new z (.cells #[(6:Int), .string ⟨#[]⟩, .slice (some ⟨K8,0,none⟩) 2 2, .slice (some ⟨q,0,none⟩) 2 2] 36);obtain⟨a,a7⟩:=exQ<|z.alloc (.cells #[(6:Int), .string ⟨#[]⟩, .slice (some ⟨K8,0,none⟩) 2 2, .slice (some ⟨q,0,none⟩) 2 2] 36);rw[a7] at aa r;rw[aT] at r;have d:=hid aa;have ap:=hid r;clear aa r;have o:=hid (aC ay.out (aC D.out (aC M.out (aC F.out (aC j.out (aC g.out (aC f.out d.out)))))));have y:=hid (aC j.out (aC g.out (aC f.out d.out)));have A:=hid (aC f.out d.out);have aA:=(o.out.block _ (aF aO.out)).trans aO.out;have J:=(y.out.block _ (aF B.out)).trans B.out;have E:=(A.out.block _ (aF L.out)).trans L.out;have P:Hid (VD a 3 pJ (.slice (some ⟨K8,0,none⟩) 2 2) (.slice (some ⟨q,0,none⟩) 2 2)):=hid (VD.two (SV.two aA) E (VD.leaf a 1 3 [49]) (VD.two (n:=1) (kv:= .slice none 0 0) ⟨none,0,rfl,aD _, .inl rfl⟩ J (VD.leaf a 0 4 [120]) (VD.leaf a 0 4 [112,10,113,10])));have l:=hid (aC W.out d.out);have p:=hid (aC au.out (aC a6.out o.out));have U:Hid (VD a 3 pJ (.slice pk 2 ck) (.slice pi 2 ci)):=hid (aH.out.keep p.out);have ah:=hid ((p.out.block _ (aF aU.out)).trans aU.out);have aK:=hid ((l.out.block _ (aF c.out)).trans c.out);have CE:=hid (λw' (hb:Below a.heap.size a w')=>Calls.mono (Ox 3 pJ pJ _ _ _ _ w' (U.out.keep hb) (P.out.keep hb) Oy Oy) (λe w2 h=>(show e= .returned (.bool true)/\Below w'.heap.size w' w2 from by obtain⟨⟨b,he,ht⟩,h2⟩:=h;exact⟨by rw[he,ht rfl],h2⟩)));have HB:=hid (aC a9.out (aC X.out (aC k.out l.out)));obtain⟨y0,y1,y2,_⟩:=eE aK.out;obtain⟨a0,a1,a2,a3,_⟩:=bJ ah.out;obtain⟨c0,c1,c2,c3,_⟩:=bJ ap.out;clear aA J E;go_wp2_with fail;refine(CE.out _ f_).mono ?_;rintro e bc ⟨rfl,i⟩;have bl:=hid (aC HB.out (show Below a.heap.size a bc from by first | exact i | exact aC (aB _ _).drew i));have e1:((bs [112,10,113,10]).toList== [112,10,113,10])=true:=tF rfl;clear i;go_wp2_with fail;go_ret;exact⟨rfl,bl.out⟩
end
end Go.Proofs.YtfhjncbdgjlcoaaGreatDoor
