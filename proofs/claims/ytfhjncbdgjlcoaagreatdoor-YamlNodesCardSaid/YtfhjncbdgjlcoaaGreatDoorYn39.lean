import Derived.Test.YtfhjncbdgjlcoaaGreatDoorYn38
set_option linter.unusedVariables false
set_option linter.unusedSimpArgs false
set_option maxRecDepth 100000
set_option maxHeartbeats 4000000
namespace Go.Proofs.YtfhjncbdgjlcoaaGreatDoor
open Tryz
section
open Go.RowKit
open Go.Lib hiding intOf
theorem eV.monoP {P P':Nat->Nat->Prop} (h: ∀k m,P k m->P' k m) {hi:Nat}: ∀ {l:List Nat}{a:Nat},eV P l a hi->eV P' l a hi
 | [],a,h1=>h1
 | y::l,a,h1=>by
  obtain⟨e,m,h2,h3⟩:=h1;exact⟨e,m,h _ _ h2,h3.monoP h⟩
theorem eI.up {ns:List aV}: ∀ {lv k hi:Nat},eI ns lv k hi->eI ns (lv+1) k hi
 | lv+1,k,hi,h=>by
  obtain⟨x,hx,h2⟩:=h;exact⟨x,hx,h2.monoP (λk m h=>eI.up h)⟩
def Pq (t:VT) (b:Bool) (w:World) (e:Ending) (w':World):Prop:=(∃kv iv,e= .returned (.tuple #[vv t kv iv,b])/\gF w.heap.size w' t.depth t kv iv)/\Below w.heap.size w w'
theorem Ps (s:aB) (d:dU) (hb:oM s d) (hi64: ∀l∈d.lines,l.ind<=1099511627776) (B:Nat) (lvv nv:Value) (k m:Nat) (w:World) (hT:eI d.nodes 32 k m) (hD0:eP B d lvv nv w) (hV:bV w):
  Calls prog 10 #[.agg #[bs s,lvv,nv],k] w (Pq (aX s d 32 k) true w):=by
 have Q8:=trivial;exact PI
end
section
set_option maxRecDepth 100000
open Go.Lib
def rD:aB:= [97,58,32,49,10,98,58,10,32,32,45,32,120,10,32,32,45,32,124,10,32,32,32,32,112,10,32,32,32,32,113]
def zA:aB:= [97,58,32,49,10,32,98,58,32,50]
def nS:dU:=⟨[⟨4,0,4,0,0,1,3,4,0,0⟩,⟨4,5,7,0,5,6,7,7,0,0⟩,⟨3,8,13,2,0,0,12,13,0,0⟩,⟨3,14,19,2,0,0,18,19,0,0⟩,⟨6,20,25,4,0,0,0,0,0,0⟩,⟨6,26,31,4,0,0,0,0,0,0⟩],
 [⟨3,0,0,6,0,0,0,0,[1,2]⟩,⟨1,0,0,1,0,1,3,4,[]⟩,⟨2,2,2,6,5,6,0,0,[3,4]⟩,⟨1,2,2,3,0,0,12,13,[]⟩,⟨4,2,3,6,0,0,18,19,[]⟩]⟩
def qF:VT:= .mk 6 [] [[97],[98]] [.mk 3 [49] [] [], .mk 5 [] [] [.mk 4 [120] [] [], .mk 4 [112,10,113,10] [] []]]
theorem aCH:mA rD=(nS,31,0):=d'
theorem aCI:(mA zA).2=(6,2):=DQ
theorem aCJ:aX rD nS 32 0=qF:=d'
theorem aCK:qE rD nS.lines ⟨4,2,3,6,0,0,18,19,[]⟩= [112,10,113,10]:=DQ
theorem Pt:oM rD nS:=⟨b_,b_,b_,b_,b_⟩
theorem Pu: ∀l∈nS.lines,l.ind<=1099511627776:=b_
theorem aCL:eI nS.nodes 32 0 5:=by
 have a:eI nS.nodes 31 1 2:=⟨_,rfl,rfl⟩;have d:eI nS.nodes 30 3 4:=⟨_,rfl,rfl⟩;have c:eI nS.nodes 30 4 5:=⟨_,rfl,rfl⟩;have b:eI nS.nodes 31 2 5:=⟨_,rfl,rfl,4,d,rfl,5,c,rfl⟩;exact⟨_,rfl,rfl,2,a,rfl,5,b,rfl⟩
end
section
open Go.RowKit
open Go.Lib hiding intOf
theorem aCM:kS (rI 1)= [49]:=DQ
theorem aCN (w:World) (hV:mU w):
  Calls prog 16 #[(1:Int)] w (aT w (.agg #[(3:Int),bs [49],(),()])):=by
 have R8:=trivial;exact PZ
def zB (w:World) (X:Nat) (k:Int) (t:aB) (kv iv:Value):Prop:=w.heap[X]?=some (.cells #[k,bs t,kv,iv] 36 (0,0))
def xC (w:World) (X:Nat) (k:Int) (t:aB) (kv iv:Value):World:=(((w.setCell ⟨X,0,none⟩ (.int .i64 k)).setCell ⟨X,1,none⟩ (.string (bs t))).setCell ⟨X,2,none⟩ kv).setCell ⟨X,3,none⟩ iv
theorem jI.putv {w:World}{X:Nat}{k k2:Int}{t t2:aB}{kv iv:Value} (h:jI w X k t):zB (xC w X k2 t2 kv iv) X k2 t2 kv iv:=by
 unfold jI at h;unfold zB xC;simp[World.setCell,h,Array.getElem?_modify]
theorem zB.cells {w:World}{X:Nat}{k:Int}{t:aB}{kv iv:Value} (h:zB w X k t kv iv):w.cell? (X,0)=some (.int .i64 k)/\w.cell? (X,1)=some (.string (bs t))/\w.cell? (X,2)=some kv/\w.cell? (X,3)=some iv:=by
 unfold zB at h;refine⟨?_,?_,?_,?_⟩<;>simp[World.cell?,h]
theorem Pv {B:Nat}{w w':World}{X:Nat}{k:Int}{t:aB}{kv iv:Value} (h:Below B w w') (hX:B<=X):Below B w (xC w' X k t kv iv):=by
 unfold xC;exact fi
theorem aCO (p:Option Addr) (n c:Nat) (w:World):
  Calls prog 17 #[.slice p n c] w (aT w (.agg #[(5:Int), .string ⟨#[]⟩,(), .slice p n c])):=by
 have MY:=trivial;exact IR
theorem aCP (q:Option Addr) (m d:Nat) (p:Option Addr) (n c:Nat) (w:World):
  Calls prog 15 #[.slice q m d, .slice p n c] w (aT w (.agg #[(6:Int), .string ⟨#[]⟩, .slice q m d, .slice p n c])):=IR
theorem VD.leaf (w:World) (n:Nat) (k:Int) (s:aB):VD w (n+1) (.mk k s [] []) (.slice none 0 0) (.slice none 0 0):=
 ⟨⟨none,0,rfl,aF _, .inl rfl⟩,none,0,rfl,aF _, .inl rfl⟩
theorem VD.two {w:World}{n K:Nat}{x y:VT}{xk xi yk yi kv:Value}{k:Int}{s:aB}{ks:List aB} (hks:SV w kv ks) (h:w.heap[K]?=some (.cells #[x.kind,bs x.text,xk,xi,y.kind,bs y.text,yk,yi] 36)) (hx:VD w n x xk xi) (hy:VD w n y yk yi):
  VD w (n+1) (.mk k s ks [x,y]) kv (.slice (some ⟨K,0,none⟩) 2 2):=by
 refine⟨hks,some ⟨K,0,none⟩,2,rfl,aF _, .inr ⟨K,0,rfl,aG h,λj z a=>?_⟩⟩;have a: [x,y][j]?=some z:=a
 match j,a with
 | 0,a=>
  obtain rfl:x=z:=J1
  exact⟨xk,xi,by simp[World.cell?,h],by simp[World.cell?,h],by simp[World.cell?,h],by simp[World.cell?,h],hx⟩
 | 1,a=>
  obtain rfl:y=z:=J1
  exact⟨yk,yi,by simp[World.cell?,h],by simp[World.cell?,h],by simp[World.cell?,h],by simp[World.cell?,h],hy⟩
 | j+2,a=>simp at a
theorem SV.two {w:World}{K:Nat}{x y:aB} (h:w.heap[K]?=some (.cells #[bs x,bs y] 9)):SV w (.slice (some ⟨K,0,none⟩) 2 2) [x,y]:=by
 refine⟨some ⟨K,0,none⟩,2,rfl,aF _, .inr ⟨K,0,rfl,aG h,λj z a=>?_⟩⟩
 match j,a with
 | 0,a=>
  obtain rfl:x=z:=J1
  simp[World.cell?,h]
 | 1,a=>
  obtain rfl:y=z:=J1
  simp[World.cell?,h]
 | j+2,a=>simp at a
def nC:Nat->VT->Prop
 | 0,_=>True
 | n+1,t=>t.keys.length<=1073741824/\t.items.length<=1073741824/\ ∀x∈t.items,nC n x
def Pw (t t2:VT) (e:Ending):Prop:= ∃b:Bool,e= .returned (.bool b)/\(t=t2->b=true)
def Hh (n:Nat):Prop:= ∀(t t2:VT) (kv iv kv2 iv2:Value) (w:World),VD w n t kv iv->VD w n t2 kv2 iv2->nC n t->nC n t2->Calls prog 12 #[vv t kv iv,vv t2 kv2 iv2] w λe w'=>Pw t t2 e/\Below w.heap.size w w'
theorem aCQ (n:Nat) (IH:Hh n):Hh (n+1):=by
 have RV:=trivial;exact PT
theorem Hi: ∀n,Hh n
 | 0=>λ_ _ _ _ _ _ _ h _ _ _=>h.elim
 | n+1=>aCQ n (Hi n)
theorem eP.forms {B:Nat}{d:dU}{lv nv:Value}{w:World} (h:eP B d lv nv w):(∃p c,lv= .slice p d.lines.length c)/\ ∃p c,nv= .slice p d.nodes.length c:=by
 obtain⟨z,l,k,j⟩:=h;have i:z.length=d.nodes.length:=by rw[<-l,bP]
 refine⟨?_,?_⟩
 .rcases k.2 with⟨a,e⟩ | ⟨g,f,b,a,_⟩
  .exact⟨none,0,by rw[a,e]⟩
  .exact⟨_,_,a⟩
 .rw[<-i];rcases j.row.2 with⟨a,e⟩ | ⟨g,f,b,a,_⟩
  .exact⟨none,0,by rw[a,e]⟩
  .exact⟨_,_,a⟩
theorem Px:nC 3 qF:=by simp[nC,qF,VT.keys,VT.items]
theorem aCR (w:World) (hV:bV w):
  Calls prog 5 #[] w (aT w (.bool true)):=by
 have HV:=hid hV;have CA:=hid (Hc rD w hV);rw[aCH] at CA;clear hV;go_in;go_wp2_with fail;refine CA.out.mono ?_;rintro e w1 ⟨tx,lv,nv,rfl,rfl,aa,bb⟩;obtain⟨⟨pl,cl,aN⟩,pn,cn,ba⟩:=aa.forms;rw[show nS.lines.length=6 from rfl] at aN;rw[show nS.nodes.length=5 from rfl] at ba;subst aN ba;have bi:=hid aa;have aU:=hid bb;clear CA aa bb;obtain⟨K2,a4⟩:=exQ<|w1.heap.size;have b2:=aL w1 (.cells #[bs rD, .slice pl 6 cl, .slice pn 5 cn] 26);have x2:=heap_alloc_new w1 (.cells #[bs rD, .slice pl 6 cl, .slice pn 5 cn] 26);obtain⟨w2,al⟩:=exQ<|w1.alloc (.cells #[bs rD, .slice pl 6 cl, .slice pn 5 cn] 26);rw[al] at b2 x2;rw[a4] at x2;have S:=hid b2;have ad:=hid x2;clear b2 x2;have aQ:=hid ((HV.out.keep aU.out).keep S.out);have bd:=hid (bi.out.keep S.out);have CB:=hid (Hc zA w2 aQ.out);obtain⟨dB,aP⟩:=exQ<|(mA zA).1;have aq:mA zA=(dB,6,2):=by rw[<-aP,<-aCI]
 rw[aq] at CB;clear aq aP;go_wp2_with fail;refine CB.out.mono ?_;rintro e w3 ⟨tx,lv,nv,rfl,rfl,am,aJ⟩;obtain⟨⟨P,Q,rfl⟩,X,af,rfl⟩:=am.forms;obtain⟨n1,aj⟩:=exQ<|dB.lines.length;obtain⟨n2,a7⟩:=exQ<|dB.nodes.length;rw[aj,a7];have Y:=hid aJ;clear CB am aJ aj a7 al a4;obtain⟨K4,ao⟩:=exQ<|w3.heap.size;have b4:=aL w3 (.cells #[.string ⟨#[]⟩, .slice P n1 Q, .slice X n2 af] 26);have x4:=heap_alloc_new w3 (.cells #[.string ⟨#[]⟩, .slice P n1 Q, .slice X n2 af] 26);obtain⟨w4,ai⟩:=exQ<|w3.alloc (.cells #[.string ⟨#[]⟩, .slice P n1 Q, .slice X n2 af] 26);rw[ai] at b4 x4;rw[ao] at x4;have aV:=hid b4;have HX4:=hid x4;clear b4 x4;have a:=hid (((aV.out.block K2 (iG (aG ad.out) Y.out.size)).trans (Y.out.block K2 (aG ad.out))).trans ad.out);have q:=hid (aE Y.out aV.out);have aS:=hid (aQ.out.keep q.out);have ap:=hid (bd.out.keep q.out);have CN:=hid (Ps rD nS Pt Pu _ _ _ 0 5 w4 aCL ap.out aS.out);rw[aCJ] at CN;obtain⟨y0,y1,y2,_⟩:=eA a.out;have hsimp:(if(2:Int)=0 then bs zA else⟨#[]⟩)=(⟨#[]⟩:ByteArray):=if_neg b_;go_wp2_with fail;refine CN.out.mono ?_;rintro e w5 ⟨⟨kv,iv,rfl,R⟩,a5⟩;obtain⟨pk,ck,pi,ci,az,a8⟩:=R.toVD.form;rw[show qF.keys.length=2 from rfl] at az;rw[show qF.items.length=2 from rfl] at a8;subst az a8;have bm:=hid a5;have bk:=hid R.toVD;unfold vv;rw[show qF.kind=6 from rfl,show qF.text= [] from rfl];clear CN R a5 y0 y1 y2 ai ao;obtain⟨K6,aw⟩:=exQ<|w5.heap.size;have b6:=aL w5 (.cells #[(6:Int),bs [], .slice pk 2 ck, .slice pi 2 ci] 36);have x6:=heap_alloc_new w5 (.cells #[(6:Int),bs [], .slice pk 2 ck, .slice pi 2 ci] 36);obtain⟨w6,ah⟩:=exQ<|w5.alloc (.cells #[(6:Int),bs [], .slice pk 2 ck, .slice pi 2 ci] 36);rw[ah] at b6 x6;rw[aw] at x6;have au:=hid b6;have aM:=hid x6;clear b6 x6;have p:=hid (aE bm.out au.out);have aX:=hid ((p.out.block K2 (aG a.out)).trans a.out);have bf:=hid (ap.out.keep p.out);have aY:=hid (bk.out.keep au.out);have CL:=hid (Hg rD nS (.slice pl 6 cl) (.slice pn 5 cn) _ w6 bf.out Pt Pu 4 _ rfl rfl);rw[aCK] at CL;obtain⟨y0,y1,y2,_⟩:=eA aX.out;go_wp2_with fail;refine aH CL.out λw7 a9=>?_;have aR:=hid a9;clear a9;have ar:=hid (aE p.out aR.out);clear y0 y1 y2 ah aw CL;obtain⟨K8,bh⟩:=exQ<|w7.heap.size;have b8:=aL w7 (.cells #[.string ⟨#[97]⟩, .string ⟨#[98]⟩] 9);have x8:=heap_alloc_new w7 (.cells #[.string ⟨#[97]⟩, .string ⟨#[98]⟩] 9);obtain⟨w8,aK⟩:=exQ<|w7.alloc (.cells #[.string ⟨#[97]⟩, .string ⟨#[98]⟩] 9);rw[aK] at b8 x8;rw[bh] at x8;have aO:=hid b8;have aC:=hid x8;clear b8 x8;have F:=hid (aE ar.out aO.out);have C1:=hid (aCN w8 (aS.out.keep F.out).1);go_wp2_with fail;refine aH C1.out λw9 ax=>?_;have ay:=hid ax;clear ax;have an:=hid (aE F.out ay.out);have C2:=hid (yE [120] w9);clear aK C1;go_wp2_with fail;refine aH C2.out λbl H=>?_;have G:=hid H;clear H;have C3:=hid (yE [112,10,113,10] bl);clear C2;go_wp2_with fail;refine aH C3.out λv B=>?_;have J:=hid B;clear B;have Z:=hid (aE an.out (aE G.out J.out));clear C3;obtain⟨x,aZ⟩:=exQ<|v.heap.size;have ag:=aL v (.cells #[(4:Int),bs [120],(),(),(4:Int),bs [112,10,113,10],(),()] 36);have s:=heap_alloc_new v (.cells #[(4:Int),bs [120],(),(),(4:Int),bs [112,10,113,10],(),()] 36);obtain⟨bo,O⟩:=exQ<|v.alloc (.cells #[(4:Int),bs [120],(),(),(4:Int),bs [112,10,113,10],(),()] 36);rw[O] at ag s;rw[aZ] at s;have E:=hid ag;have D:=hid s;clear ag s;have C4:=hid (aCO (some ⟨x,0,none⟩) 2 2 bo);go_wp2_with fail;refine aH C4.out λy N=>?_;have g:=hid N;clear N;have T:=hid (aE Z.out (aE E.out g.out));clear C4 O;obtain⟨j,bc⟩:=exQ<|y.heap.size;have W:=aL y (.cells #[(3:Int),bs [49],(),(),(5:Int), .string ⟨#[]⟩,(),(x,2,2)] 36);have A:=heap_alloc_new y (.cells #[(3:Int),bs [49],(),(),(5:Int), .string ⟨#[]⟩,(),(x,2,2)] 36);obtain⟨bj,I⟩:=exQ<|y.alloc (.cells #[(3:Int),bs [49],(),(),(5:Int), .string ⟨#[]⟩,(),(x,2,2)] 36);rw[I] at W A;rw[bc] at A;have o:=hid W;have M:=hid A;clear W A;have C5:=hid (aCP (some ⟨K8,0,none⟩) 2 2 (some ⟨j,0,none⟩) 2 2 bj);go_wp2_with fail;refine aH C5.out λt L=>?_;have d:=hid L;clear L;have ab:=hid (aE T.out (aE o.out d.out));clear C5 I;obtain⟨K16,a6⟩:=exQ<|t.heap.size;have V:=aL t (.cells #[(6:Int), .string ⟨#[]⟩,(K8,2,2),(j,2,2)] 36);have u:=heap_alloc_new t (.cells #[(6:Int), .string ⟨#[]⟩,(K8,2,2),(j,2,2)] 36);obtain⟨c,av⟩:=exQ<|t.alloc (.cells #[(6:Int), .string ⟨#[]⟩,(K8,2,2),(j,2,2)] 36);rw[av] at V u;rw[a6] at u;have f:=hid V;have aI:=hid u;clear V u;have l:=hid (aE ay.out (aE G.out (aE J.out (aE E.out (aE g.out (aE o.out (aE d.out f.out)))))));have z:=hid (aE g.out (aE o.out (aE d.out f.out)));have r:=hid (aE d.out f.out);have aW:=(l.out.block _ (aG aC.out)).trans aC.out;have K:=(z.out.block _ (aG D.out)).trans D.out;have C:=(r.out.block _ (aG M.out)).trans M.out;have U:Hid (VD c 3 qF (.slice (some ⟨K8,0,none⟩) 2 2) (.slice (some ⟨j,0,none⟩) 2 2)):=hid (VD.two (SV.two aW) C (VD.leaf c 1 3 [49]) (VD.two (n:=1) (kv:= .slice none 0 0) ⟨none,0,rfl,aF _, .inl rfl⟩ K (VD.leaf c 0 4 [120]) (VD.leaf c 0 4 [112,10,113,10])));have i:=hid (aE ab.out f.out);have k:=hid (aE aR.out (aE aO.out l.out));have ae:Hid (VD c 3 qF (.slice pk 2 ck) (.slice pi 2 ci)):=hid (aY.out.keep k.out);have ak:=hid ((k.out.block _ (aG aM.out)).trans aM.out);have aB:=hid ((i.out.block _ (aG a.out)).trans a.out);have CE:=hid (λw' (hb:aA c w')=>Calls.mono (Hi 3 qF qF _ _ _ _ w' (ae.out.keep hb) (U.out.keep hb) Px Px) (λe w2 h=>(show e= .returned (.bool true)/\aA w' w2 from by obtain⟨⟨b,he,ht⟩,h2⟩:=h;exact⟨by rw[he,ht rfl],h2⟩)));have HB:=hid (aE aU.out (aE S.out (aE q.out i.out)));obtain⟨y0,y1,y2,_⟩:=eA aB.out;obtain⟨a0,a1,a2,a3,_⟩:=bK ak.out;obtain⟨c0,c1,c2,c3,_⟩:=bK aI.out;clear aW K C;go_wp2_with fail;refine aH (CE.out _ f_) λbn m=>?_;have bg:=hid (aE HB.out (show aA c bn from by first | exact m | exact aE (aD _ _).drew m));have e1:((bs [112,10,113,10]).toList== [112,10,113,10])=true:=tY rfl;clear m;go_wp2;go_ret;exact⟨rfl,bg.out⟩
end
end Go.Proofs.YtfhjncbdgjlcoaaGreatDoor
