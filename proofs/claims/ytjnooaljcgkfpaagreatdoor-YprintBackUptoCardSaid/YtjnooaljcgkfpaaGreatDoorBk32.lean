import Derived.Test.YtjnooaljcgkfpaaGreatDoorBk31
import Derived.Test.YtjnooaljcgkfpaaGreatDoorBk1
import Derived.Test.YtjnooaljcgkfpaaGreatDoorBk30
import Derived.Test.YtjnooaljcgkfpaaGreatDoorBk15
import Derived.Test.YtjnooaljcgkfpaaGreatDoorBk13
import Derived.Test.YtjnooaljcgkfpaaGreatDoorBk18
import Derived.Deep.RegionHeld3
import Derived.Shelf.Vars
import Derived.Test.YtjnooaljcgkfpaaGreatDoorCards
import Derived.Test.YtjnooaljcgkfpaaGreatDoorTie
import Derived.Lib.LaidIn
import Derived.Lib.LaidU8T
import Derived.PinnedBridge
import Derived.Lib.TrailingZeros
import Derived.Test.YtjnooaljcgkfpaaGreatDoorRows
import Derived.ChangeMaps5
import Derived.ChangeArms
import Derived.ChangeSame
import Derived.ChangeSlices
import Derived.OpenShut
import Derived.Carry
import Derived.Deep.Slices
import Derived.Lib.SmallJoins
import Derived.KernelRfl
set_option maxRecDepth 100000
set_option maxHeartbeats 4000000
namespace Go.Proofs.YtjnooaljcgkfpaaGreatDoor
set_option linter.unusedVariables false
set_option linter.unusedSimpArgs false
section
open Go.RowKit
open Go.Lib hiding intOf
theorem VD.leaf (w:World) (n:Nat) (k:Int) (s:aA):VD w (n+1) (.mk k s [] []) (.slice none 0 0) (.slice none 0 0):=
 ⟨⟨none,0,rfl,aD _, .inl rfl⟩,none,0,rfl,aD _, .inl rfl⟩
theorem VD.two {w:World}{n K:Nat}{x y:VT}{xk xi yk yi kv:Value}{k:Int}{s:aA}{ks:List aA} (hks:SV w kv ks) (h:w.heap[K]?=some (.cells #[.int .i64 x.kind, .string (bs x.text),xk,xi, .int .i64 y.kind, .string (bs y.text),yk,yi] 25)) (hx:VD w n x xk xi) (hy:VD w n y yk yi):
  VD w (n+1) (.mk k s ks [x,y]) kv (.slice (some ⟨K,0,none⟩) 2 2):=by
 refine⟨hks,some ⟨K,0,none⟩,2,rfl,aD _, .inr ⟨K,0,rfl,aE h,λj z a=>?_⟩⟩;have a: [x,y][j]?=some z:=a
 match j,a with
 | 0,a=>
  obtain rfl:x=z:=by simpa using a
  exact⟨xk,xi,by simp[World.cell?,h],by simp[World.cell?,h],by simp[World.cell?,h],by simp[World.cell?,h],hx⟩
 | 1,a=>
  obtain rfl:y=z:=by simpa using a
  exact⟨yk,yi,by simp[World.cell?,h],by simp[World.cell?,h],by simp[World.cell?,h],by simp[World.cell?,h],hy⟩
 | j+2,a=>simp at a
theorem SV.two {w:World}{K:Nat}{x y:aA} (h:w.heap[K]?=some (.cells #[.string (bs x), .string (bs y)] 9)):SV w (.slice (some ⟨K,0,none⟩) 2 2) [x,y]:=by
 refine⟨some ⟨K,0,none⟩,2,rfl,aD _, .inr ⟨K,0,rfl,aE h,λj z a=>?_⟩⟩
 match j,a with
 | 0,a=>
  obtain rfl:x=z:=by simpa using a
  simp[World.cell?,h]
 | 1,a=>
  obtain rfl:y=z:=by simpa using a
  simp[World.cell?,h]
 | j+2,a=>simp at a
theorem aFc (w:World) (hV:dA w):
  Calls Tryz.prog 4 #[] w λe w'=>e= .returned (.bool true)/\Below w.heap.size w w':=by
 have Y:=hid hV;clear hV;obtain⟨K1,D⟩:=exQ<|w.heap.size;have b1:=aH w (.cells #[.string ⟨#[97]⟩, .string ⟨#[98]⟩] 9);have x1:=heap_alloc_new w (.cells #[.string ⟨#[97]⟩, .string ⟨#[98]⟩] 9);obtain⟨W1,P⟩:=exQ<|w.alloc (.cells #[.string ⟨#[97]⟩, .string ⟨#[98]⟩] 9);rw[P] at b1 x1;rw[D] at x1;have X:=hid b1;have E:=hid x1;have C1:=hid (aFa W1 (Y.out.keep b1));clear b1 x1;go_enter Tryz.func4,Tryz.ntmps4;go_wp2_with fail;refine C1.out.mono ?_;rintro e w2 ⟨rfl,q⟩;have W:=hid (aC X.out q);have F:=hid ((q.block _ (aE E.out)).trans E.out);clear q P C1;have C2:Hid (Calls Tryz.prog 13 #[.string ⟨#[120]⟩] w2 λe w'=>e= .returned (.agg #[.int .i64 4, .string ⟨#[120]⟩, .slice none 0 0, .slice none 0 0])/\Below w2.heap.size w2 w'):=hid (yB [120] w2);go_wp2_with fail;refine C2.out.mono ?_;rintro e w3 ⟨rfl,v⟩;have V:=hid (aC W.out v);have x:=hid ((v.block _ (aE F.out)).trans F.out);clear v C2;have C3:=hid (Th none 0 0 w3);go_wp2_with fail;refine C3.out.mono ?_;rintro e w4 ⟨rfl,u⟩;have U:=hid (aC V.out u);have t:=hid ((u.block _ (aE x.out)).trans x.out);clear u C3;have b5:=aH w4 (.cells #[.int .i64 4, .string ⟨#[120]⟩, .slice none 0 0, .slice none 0 0, .int .i64 5, .string ⟨#[]⟩, .slice none 0 0, .slice none 0 0] 25);have x5:=heap_alloc_new w4 (.cells #[.int .i64 4, .string ⟨#[120]⟩, .slice none 0 0, .slice none 0 0, .int .i64 5, .string ⟨#[]⟩, .slice none 0 0, .slice none 0 0] 25);obtain⟨K5,M⟩:=exQ<|w4.heap.size;obtain⟨W5,Q⟩:=exQ<|w4.alloc (.cells #[.int .i64 4, .string ⟨#[120]⟩, .slice none 0 0, .slice none 0 0, .int .i64 5, .string ⟨#[]⟩, .slice none 0 0, .slice none 0 0] 25);rw[Q] at b5 x5;rw[M] at x5;have C4:=hid (Th (some ⟨K5,0,none⟩) 2 2 W5);go_wp2_with fail;refine C4.out.mono ?_;rintro e w6 ⟨rfl,c⟩;have R:=hid (aC U.out (aC b5 c));have r:=hid ((c.block _ (iI (aE t.out) b5.size)).trans ((b5.block _ (aE t.out)).trans t.out));have s:=hid ((c.block _ (aE x5)).trans x5);clear c C4 b5 x5 Q M;have b7:=aH w6 (.cells #[.int .i64 3, .string (bs [49]), .slice none 0 0, .slice none 0 0, .int .i64 5, .string ⟨#[]⟩, .slice none 0 0, .slice (some ⟨K5,0,none⟩) 2 2] 25);have x7:=heap_alloc_new w6 (.cells #[.int .i64 3, .string (bs [49]), .slice none 0 0, .slice none 0 0, .int .i64 5, .string ⟨#[]⟩, .slice none 0 0, .slice (some ⟨K5,0,none⟩) 2 2] 25);obtain⟨K7,z⟩:=exQ<|w6.heap.size;obtain⟨W7,C⟩:=exQ<|w6.alloc (.cells #[.int .i64 3, .string (bs [49]), .slice none 0 0, .slice none 0 0, .int .i64 5, .string ⟨#[]⟩, .slice none 0 0, .slice (some ⟨K5,0,none⟩) 2 2] 25);rw[C] at b7 x7;rw[z] at x7;have C5:=hid (aFb (some ⟨K1,0,none⟩) 2 2 (some ⟨K7,0,none⟩) 2 2 W7);go_wp2_with fail;refine C5.out.mono ?_;rintro e w8 ⟨rfl,a⟩;have S:=hid (aC R.out (aC b7 a));have A:=(a.block _ (iI (aE r.out) b7.size)).trans ((b7.block _ (aE r.out)).trans r.out);have B:=(a.block _ (iI (aE s.out) b7.size)).trans ((b7.block _ (aE s.out)).trans s.out);have L:=(a.block _ (aE x7)).trans x7;have N:Hid (VD w8 3 tC (.slice (some ⟨K1,0,none⟩) 2 2) (.slice (some ⟨K7,0,none⟩) 2 2)):=hid (VD.two (SV.two A) L (VD.leaf w8 1 3 [49]) (VD.two (n:=1) (kv:= .slice none 0 0) ⟨none,0,rfl,aD _, .inl rfl⟩ B (VD.leaf w8 0 4 [120]) (VD.leaf w8 0 5 [])));clear a C5 b7 x7 C z A B L;have b9:=aH w8 (.cells #[.int .i64 6, .string ⟨#[]⟩, .slice (some ⟨K1,0,none⟩) 2 2, .slice (some ⟨K7,0,none⟩) 2 2] 25);have x9:bF (w8.alloc (.cells #[.int .i64 6, .string ⟨#[]⟩, .slice (some ⟨K1,0,none⟩) 2 2, .slice (some ⟨K7,0,none⟩) 2 2] 25)) w8.heap.size tC (.slice (some ⟨K1,0,none⟩) 2 2) (.slice (some ⟨K7,0,none⟩) 2 2):=bF.new w8 tC _ _;obtain⟨K9,y⟩:=exQ<|w8.heap.size;obtain⟨W9,O⟩:=exQ<|w8.alloc (.cells #[.int .i64 6, .string ⟨#[]⟩, .slice (some ⟨K1,0,none⟩) 2 2, .slice (some ⟨K7,0,none⟩) 2 2] 25);rw[O] at b9 x9;rw[y] at x9;have K:=hid (aC S.out b9);have J:=hid x9;have h:=hid (N.out.keep b9);have d:=hid (Y.out.keep K.out);have CP1:=hid (Hw 3 tC _ _ W9 h.out (by decide+kernel) d.out);rw[aEV] at CP1;unfold eC vv at CP1;have CL:Hid (∀w',Below W9.heap.size W9 w'->Calls Tryz.prog 15 #[vv tC (.slice (some ⟨K1,0,none⟩) 2 2) (.slice (some ⟨K7,0,none⟩) 2 2)] w' λe w2=>e= .returned (.bool true)/\Below w'.heap.size w' w2):=hid (λw' Z=>by have:=Hu 3 tC _ _ w' (h.out.keep Z) (by decide+kernel) (d.out.keep Z);rw[aEY] at this;exact this);unfold vv at CL;have COf:Hid (∀w,Calls Tryz.prog 13 #[.string ⟨#[49]⟩] w λe w'=>e= .returned (.agg #[.int .i64 4, .string ⟨#[49]⟩, .slice none 0 0, .slice none 0 0])/\Below w.heap.size w w'):=hid (λw=>yB [49] w);have CP2:Hid (∀w,dA w->Calls Tryz.prog 6 #[.agg #[.int .i64 4, .string ⟨#[49]⟩, .slice none 0 0, .slice none 0 0]] w λe w'=>e= .returned (.tuple #[.string (bs [39,49,39,10]), .int .i64 0])/\Below w.heap.size w w'):=hid (λw T=>by have:=Hw 1 Cn _ _ w (VD.leaf w 0 4 [49]) (by decide+kernel) T;rw[aEW] at this;exact this);have CB2:Hid (∀w,dA w->Calls Tryz.prog 14 #[.agg #[.int .i64 4, .string ⟨#[49]⟩, .slice none 0 0, .slice none 0 0], .int .i64 0] w λe w'=>e= .returned (.tuple #[.string (bs []), .int .i64 1])/\Below w.heap.size w w'):=hid (λw T=>by have:=Tf 1 Cn _ _ 0 w (VD.leaf w 0 4 [49]) (by decide+kernel) T;rw[aEX] at this;exact this);have CP1':Hid (Calls Tryz.prog 6 #[.agg #[.int .i64 6, .string ⟨#[]⟩, .slice (some ⟨K1,0,none⟩) 2 2, .slice (some ⟨K7,0,none⟩) 2 2]] W9 λe w'=>e= .returned (.tuple #[.string (bs [97,58,32,49,10,98,58,10,32,32,45,32,120,10,32,32,45,32,91,93,10]), .int .i64 0])/\Below W9.heap.size W9 w'):=CP1;have CL':Hid (∀w',Below W9.heap.size W9 w'->Calls Tryz.prog 15 #[.agg #[.int .i64 6, .string ⟨#[]⟩, .slice (some ⟨K1,0,none⟩) 2 2, .slice (some ⟨K7,0,none⟩) 2 2]] w' λe w2=>e= .returned (.bool true)/\Below w'.heap.size w' w2):=CL;obtain⟨n0,n1,n2,n3⟩:=J.out.cells;have n0:W9.cell? ⟨K9,0,none⟩=some (.int .i64 6):=n0;have n1:W9.cell? ⟨K9,1,none⟩=some (.string ⟨#[]⟩):=n1;clear b9 x9 CP1 CL;go_wp2_with fail;refine CP1'.out.mono ?_;rintro e w10 ⟨rfl,o⟩;have I:=hid o;clear o n0 n1 n2 n3 O y;go_wp2_with fail;refine(COf.out _).mono ?_;rintro e w11 ⟨rfl,j⟩;have p:=hid (aC I.out j);clear j;go_wp2_with fail;refine(CP2.out _ (d.out.keep p.out)).mono ?_;rintro e w12 ⟨rfl,g⟩;have G:=hid (aC p.out g);clear g;go_wp2_with fail;refine(COf.out _).mono ?_;rintro e w13 ⟨rfl,i⟩;have m:=hid (aC G.out i);clear i;go_wp2_with fail;refine(CB2.out _ (d.out.keep m.out)).mono ?_;rintro e w14 ⟨rfl,f⟩;have b:=hid (aC m.out f);clear f;obtain⟨n0,n1,n2,n3⟩:=(J.out.keep b.out).cells;have n0:w14.cell? ⟨K9,0,none⟩=some (.int .i64 6):=n0;have n1:w14.cell? ⟨K9,1,none⟩=some (.string ⟨#[]⟩):=n1;have e1:=nZ [97,58,32,49,10,98,58,10,32,32,45,32,120,10,32,32,45,32,91,93,10] [97,58,32,49,10,98,58,10,32,32,45,32,120,10,32,32,45,32,91,93,10];have e2:=nZ [39,49,39,10] [39,49,39,10];simp only[decide_true] at e1 e2;go_wp2_with fail;refine(CL'.out _ b.out).mono ?_;rintro e w15 ⟨rfl,k⟩;have l:=hid (aC K.out (aC b.out k));clear k n0 n1 n2 n3;go_wp2_with fail;go_ret;exact⟨rfl,by first | exact l.out | (rw[<-D];exact l.out)⟩
theorem Ti: ∀(n:Nat) {t:VT},t.bulk<=1073741824->nN n t
 | 0,_,_=>trivial
 | n+1,t,hb=>by
  have h2:=oJ t.items;have h3:t.bulk=t.text.length+(bN t.keys+t.keys.length)+aY t.items+1:=by cases t;rw[VT.bulk];rfl
  exact⟨by omega,by omega,λx a=>Ti n (by have:=pH a;omega)⟩
theorem aFd (t:VT) (kv iv:Value) (w:World) (h:VD w t.depth t kv iv) (hbk:t.bulk<=1048576) (hV:cG w):
  Calls Tryz.prog 3 #[vv t kv iv] w λe w'=>e= .returned (.bool true)/\Below w.heap.size w w':=by
 obtain⟨pk,ck,p,c,rfl,rfl⟩:=h.form;obtain⟨X,B⟩:=exQ<|w.heap.size;obtain⟨W1,u⟩:=exQ<|w.alloc (.cells #[.int .i64 t.kind, .string (bs t.text), .slice pk t.keys.length ck, .slice p t.items.length c] 25);have f:Hid (Below w.heap.size w W1):=hid (by rw[<-u];exact aH _ _);have i:Hid (bF W1 X t (.slice pk t.keys.length ck) (.slice p t.items.length c)):=hid (by rw[<-u,<-B];exact bF.new w t _ _);have k:=hid (h.keep f.out);have L:=hid (hV.keep f.out);have C0:=hid (aFc W1 L.out.1);have CF:Hid (∀w',Below W1.heap.size W1 w'->Calls Tryz.prog 5 #[vv t (.slice pk t.keys.length ck) (.slice p t.items.length c), .int .i64 300] w' λe w2=>e= .returned (.bool (wS t 300))/\Below w'.heap.size w' w2):=hid (λw' g=>Uj t.depth t _ _ w' 300 (k.out.keep g) (by omega) (by omega) (by omega));have CP:Hid (∀w',Below W1.heap.size W1 w'->Calls Tryz.prog 6 #[vv t (.slice pk t.keys.length ck) (.slice p t.items.length c)] w' λe w2=>e=eC (gX t)/\Below w'.heap.size w' w2):=hid (λw' g=>Hw t.depth t _ _ w' (k.out.keep g) (by omega) (L.out.1.keep g));have CR:Hid (∀w',Below W1.heap.size W1 w'->Calls Tryz.prog 7 #[vv t (.slice pk t.keys.length ck) (.slice p t.items.length c)] w' λe w2=>e= .returned (.bool (cY t))/\Below w'.heap.size w' w2):=hid (λw' g=>xZ t.depth t _ _ w' (k.out.keep g) (by omega) (L.out.1.keep g).1);have a:cY t=true->(gX t).2=0/\((gX t).1.length<=65536->(jF (gX t).1).2=(((gX t).1.length:Int),0)/\rU (gX t).1=t):=aEP;have d: ¬cY t=true->(gX t).2≠0:=aEQ;have x:=hid (Ti t.depth (t:=t) (by omega));obtain⟨⟨T,er⟩,N⟩:=exQ<|gX t;obtain⟨yR,K⟩:=exQ<|cY t;obtain⟨y1,G⟩:=exQ<|wS t 300;rw[N] at CP a d;rw[K] at CR a d;rw[G] at CF;unfold eC at CP;unfold vv at CF CP CR ⊢;simp only[] at CP a d;have sT:=aQ T;clear h hV N K G;go_enter Tryz.func3,Tryz.ntmps3;go_upto_region 1 with fail;clear u;go_wp2_with fail;refine C0.out.mono ?_;rintro e w2 ⟨rfl,C⟩;have q:=hid C;clear C;obtain⟨b0,b1,b2,b3⟩:=(i.out.keep q.out).cells;go_wp2_with fail;refine(CF.out _ q.out).mono ?_;rintro e w3 ⟨rfl,J⟩;have j:=hid (aC q.out J);clear J b0 b1 b2 b3;cases y1 with
 | false=>
  have m:=hid (aC f.out j.out);go_wp2_with fail;go_ret;exact⟨rfl,by first | exact m.out | (rw[<-B];exact m.out)⟩
 | true=>
 obtain⟨b0,b1,b2,b3⟩:=(i.out.keep j.out).cells;go_wp2_with fail;refine(CP.out _ j.out).mono ?_;rintro e w4 ⟨rfl,I⟩;have o:=hid (aC j.out I);clear I b0 b1 b2 b3;obtain⟨b0,b1,b2,b3⟩:=(i.out.keep o.out).cells;go_wp2_with fail;refine(CR.out _ o.out).mono ?_;rintro e w5 ⟨rfl,E⟩;have r:=hid (aC o.out E);have m:=hid (aC f.out r.out);clear E b0 b1 b2 b3;cases yR with
 | false=>
  have F:er≠0:=d (by simp);have e1:(er==0)=false:=aG.2 F;have e2:(er !=0)=true:=gP.2 F;clear F a d;go_wp2_with fail;go_ret;exact⟨rfl,by first | exact m.out | (rw[<-B];exact m.out)⟩
 | true=>
  obtain⟨F,n⟩:=a rfl;subst F;by_cases hl:65536<T.length
  ·have d1:decide ((65536:Int)<(T.length:Int))=true:=aN (by omega);have d2:decide (65536<T.length)=true:=aN hl;clear n d hl;go_wp2_with fail;go_ret;exact⟨rfl,by first | exact m.out | (rw[<-B];exact m.out)⟩
  have d1:decide ((65536:Int)<(T.length:Int))=false:=aJ (by omega);have d2:decide (65536<T.length)=false:=aJ hl;obtain⟨P,D⟩:=n (by omega);have CY:=hid (aEs T w5 (L.out.keep r.out));rw[P,D] at CY;simp only[] at CY;clear P D n d hl;go_wp2_with fail;refine CY.out.mono ?_;rintro e w6 ⟨⟨kx,ix,rfl,s⟩,A⟩;obtain⟨u1,u2,u3,u4,rfl,rfl⟩:=s.form;have M:=hid (aC r.out A);obtain⟨Y,O⟩:=exQ<|w6.heap.size;have b7:=aH w6 (.cells #[.int .i64 t.kind, .string (bs t.text), .slice u1 t.keys.length u2, .slice u3 t.items.length u4] 25);have x7:=heap_alloc_new w6 (.cells #[.int .i64 t.kind, .string (bs t.text), .slice u1 t.keys.length u2, .slice u3 t.items.length u4] 25);obtain⟨w7,z⟩:=exQ<|w6.alloc (.cells #[.int .i64 t.kind, .string (bs t.text), .slice u1 t.keys.length u2, .slice u3 t.items.length u4] 25);rw[z] at b7 x7;rw[O] at x7;have l:=hid (aC M.out b7);have CE:=hid (Sq t.depth t t _ _ _ _ w7 (k.out.keep l.out) (s.toVD.keep b7) x.out x.out);unfold vv at CE ⊢;obtain⟨b0,b1,b2,b3⟩:=(i.out.keep l.out).cells;obtain⟨c0,c1,c2,c3,_⟩:=cF x7;have tl:((T.length:Int)==(T.length:Int))=true:=beq_self_eq_true _;clear s A b7 x7;go_wp2_with fail;clear z O;refine CE.out.mono ?_;rintro e w8 ⟨⟨b,rfl,g⟩,y⟩;obtain rfl:b=true:=g rfl;have v:=hid (aC f.out (aC l.out y));clear g y b0 b1 b2 b3 c0 c1 c2 c3;go_wp2_with fail;go_ret;exact⟨rfl,by first | exact v.out | (rw[<-B];exact v.out)⟩
end
section
open Go.Shelf Go.RowKit
noncomputable def Co (os:Os):World:=
 let w0:=World.holding Tryz.prog os ⟨#[], #[],[]⟩
 let put (h:Array Obj) (g:Nat) (cs:Array Value):Array Obj:=h.modify g fun
  | .cells _ t frozen=> .cells cs t frozen
  | o=>o
 let h1:=put w0.heap 6 #[.int .u8 0, .int .u8 1, .int .u8 28, .int .u8 2, .int .u8 29, .int .u8 14, .int .u8 24, .int .u8 3, .int .u8 30, .int .u8 22, .int .u8 20, .int .u8 15, .int .u8 25, .int .u8 17, .int .u8 4, .int .u8 8, .int .u8 31, .int .u8 27, .int .u8 13, .int .u8 23, .int .u8 21, .int .u8 19, .int .u8 16, .int .u8 7, .int .u8 26, .int .u8 12, .int .u8 18, .int .u8 6, .int .u8 11, .int .u8 5, .int .u8 10, .int .u8 9]
 let h2:=put h1 7 #[.int .u8 0, .int .u8 1, .int .u8 56, .int .u8 2, .int .u8 57, .int .u8 49, .int .u8 28, .int .u8 3, .int .u8 61, .int .u8 58, .int .u8 42, .int .u8 50, .int .u8 38, .int .u8 29, .int .u8 17, .int .u8 4, .int .u8 62, .int .u8 47, .int .u8 59, .int .u8 36, .int .u8 45, .int .u8 43, .int .u8 51, .int .u8 22, .int .u8 53, .int .u8 39, .int .u8 33, .int .u8 30, .int .u8 24, .int .u8 18, .int .u8 12, .int .u8 5, .int .u8 63, .int .u8 55, .int .u8 48, .int .u8 27, .int .u8 60, .int .u8 41, .int .u8 37, .int .u8 16, .int .u8 46, .int .u8 35, .int .u8 44, .int .u8 21, .int .u8 52, .int .u8 32, .int .u8 23, .int .u8 11, .int .u8 54, .int .u8 26, .int .u8 40, .int .u8 15, .int .u8 34, .int .u8 20, .int .u8 31, .int .u8 10, .int .u8 25, .int .u8 14, .int .u8 19, .int .u8 9, .int .u8 13, .int .u8 8, .int .u8 7, .int .u8 6]
 let h3:=put h2 3 #[.int .u64 1, .int .u64 10, .int .u64 100, .int .u64 1000, .int .u64 10000, .int .u64 100000, .int .u64 1000000, .int .u64 10000000, .int .u64 100000000, .int .u64 1000000000, .int .u64 10000000000, .int .u64 100000000000, .int .u64 1000000000000, .int .u64 10000000000000, .int .u64 100000000000000, .int .u64 1000000000000000, .int .u64 10000000000000000, .int .u64 100000000000000000, .int .u64 1000000000000000000, .int .u64 10000000000000000000]
 let h4:=put h3 1 #[.int .u8 128, .int .u8 191, .int .u8 160, .int .u8 191, .int .u8 128, .int .u8 159, .int .u8 144, .int .u8 191, .int .u8 128, .int .u8 143, .int .u8 0, .int .u8 0, .int .u8 0, .int .u8 0, .int .u8 0, .int .u8 0, .int .u8 0, .int .u8 0, .int .u8 0, .int .u8 0, .int .u8 0, .int .u8 0, .int .u8 0, .int .u8 0, .int .u8 0, .int .u8 0, .int .u8 0, .int .u8 0, .int .u8 0, .int .u8 0, .int .u8 0, .int .u8 0]
 let n5:=h4.size
 let a5:=h4.push (.cells #[.string ⟨#[118,97,108,117,101,32,111,117,116,32,111,102,32,114,97,110,103,101]⟩] 243 (0,0))
 let h5:=put a5 5 #[.iface 241 (.pointer (some ⟨n5,0,none⟩))]
 let n6:=h5.size
 let a6:=h5.push (.cells #[.string ⟨#[105,110,118,97,108,105,100,32,115,121,110,116,97,120]⟩] 243 (0,0))
 let h6:=put a6 4 #[.iface 241 (.pointer (some ⟨n6,0,none⟩))]
 let h7:=put h6 0 (Lib.firstTab.map λz=>Value.int .u8 z).toArray
 { w0 with heap:=h7 }
def tD:List (String×DataW Unit):= [("math/bits.deBruijn32tab",Rows.laid_math_bits_deBruijn32tab),("math/bits.deBruijn64tab",Rows.laid_math_bits_deBruijn64tab),("internal/strconv.uint64pow10",Rows.laid_internal_strconv_uint64pow10),("unicode/utf8.acceptRanges",Rows.laid_unicode_utf8_acceptRanges),("strconv.ErrRange",Rows.laid_strconv_ErrRange),("strconv.ErrSyntax",Rows.laid_strconv_ErrSyntax),("unicode/utf8.first",Rows.laid_unicode_utf8_first)]
theorem aFe (os:Os) (args:Array Value):laidMet Tryz.prog tD ((Co os).forCall (λ_ _=>0) ⟨#[],args,[]⟩).memory:=
 (LaidIn.of_run (l:=tD) (List.range 64) 8 (by kernel_rfl) (by kernel_rfl) (by kernel_rfl) (by kernel_rfl)).met
theorem aFf {W:World} (hL:laidMet Tryz.prog tD W):sN W:=by
 obtain⟨g,t,cs,fuel,p,d,b,a,c⟩:=Lib.laidMet.reads hL (.tail _ (.tail _ (.head _)));obtain rfl:=bC ((show Tryz.prog.globalNamed "internal/strconv.uint64pow10" =some 3 by kernel_rfl).symm.trans d);obtain rfl:=bC ((show (Tryz.prog.globals[3]?).map (·.type)=some 220 by kernel_rfl).symm.trans b);rw[show (Rows.laid_internal_strconv_uint64pow10:DataW Unit)=Lib.tabData .u64 Lib.pow10Tab by kernel_rfl] at c;have h:=Lib.cells_of_tab Tryz.underlying220 Tryz.underlying179 (by kernel_rfl) (by kernel_rfl) c;show World.var? Tryz.prog W _=_;rw[a,<-h]
theorem aFg {H:Type}{enc:TypeId×Value->H}{P:Program}{w:World}{base:Nat}{sp:Nat->Bool}{held:Bool}{fuel:Nat}{t:TypeId}{ms:Array (String×TypeId)}{cs:List Value}{nm:String}{d:DataW H}{p:List MemPlace}
  (ht:P.underlying t=some (.interface ms)) (h:DataW.trod enc P w base sp held fuel t cs=some (.iface nm d,p)): ∃u v,cs= [.iface u v]:=by
 cases fuel with
 | zero=>simp[DataW.trod] at h
 | succ n=>
  unfold DataW.trod at h;simp only[ht] at h;rcases cs with _ | ⟨c,_ | ⟨c2,l⟩⟩
  ·simp at h
  ·cases c<;>simp at h
   exact⟨_,_,rfl⟩
  ·cases c<;>simp at h
theorem aFh {W:World} (hL:laidMet Tryz.prog tD W):dC W:=by
 obtain⟨g,t,cs,fuel,p,e,b,a,d⟩:=Lib.laidMet.reads hL (.tail _ (.tail _ (.tail _ (.tail _ (.tail _ (.head _))))));obtain rfl:=bC ((show Tryz.prog.globalNamed "strconv.ErrSyntax" =some 4 by kernel_rfl).symm.trans e);obtain rfl:=bC ((show (Tryz.prog.globals[4]?).map (·.type)=some 117 by kernel_rfl).symm.trans b);obtain⟨u,v,c⟩:=aFg Tryz.underlying117 d;refine⟨u,v,?_⟩;rw[a,<-c]
theorem aFi {W:World} (hL:laidMet Tryz.prog tD W):kW W:=by
 obtain⟨g,t,cs,fuel,p,d,b,a,c⟩:=Lib.laidMet.reads hL (.tail _ (.head _));obtain rfl:=bC ((show Tryz.prog.globalNamed "math/bits.deBruijn64tab" =some 7 by kernel_rfl).symm.trans d);obtain rfl:=bC ((show (Tryz.prog.globals[7]?).map (·.type)=some 251 by kernel_rfl).symm.trans b);rw[show (Rows.laid_math_bits_deBruijn64tab:DataW Unit)=Lib.tabData .u8 (Lib.deBruijn64tab.map (λn:Nat=>(n:Int))) by kernel_rfl] at c;have h:=Lib.cells_of_tab Tryz.underlying251 Tryz.underlying5 (by kernel_rfl) (by kernel_rfl) c;unfold kW;rw[World.var?_cell (P:=Tryz.prog) (show Tryz.prog.globalNamed "math/bits.deBruijn64tab" =some 7 by kernel_rfl) a 15,<-Array.getElem?_toList,h];rfl
theorem aFj {W:World} (hL:laidMet Tryz.prog tD W):cD W:=by
 have a:=Lib.laidMet.reads hL (.tail _ (.tail _ (.tail _ (.head _))));have b:=Lib.laidMet.reads hL (.tail _ (.tail _ (.tail _ (.tail _ (.tail _ (.tail _ (.head _)))))));rw[show Rows.laid_unicode_utf8_first=Lib.firstData from Pinned.utf8First_eq] at b;rw[show (Rows.laid_unicode_utf8_acceptRanges:DataW Unit)=Lib.acceptData by kernel_rfl] at a;exact utf8Tabs_of_readsT (U8Types.of196 Tryz.laysValid) ⟨by kernel_rfl,by kernel_rfl,by kernel_rfl,by kernel_rfl,by kernel_rfl,by kernel_rfl,by kernel_rfl⟩ b a
theorem aFk {W:World} (h:W.ShapedOpen Tryz.prog):lC W:=
 cell_of_shapedOpen_int (P:=Tryz.prog) (g:=2) (t:=3) (zero:= #[.int .i64 0]) h (of_decide_eq_true (by kernel_rfl)) (by kernel_rfl) rfl (by kernel_rfl) (by kernel_rfl) Tryz.underlying3
end
section
open Go.RowKit Go.Joins Go.ChangeShapes Go.WideShapes
section
variable {H:Type}{enc:TypeId×Value->H}{w:World}{base:Nat}{sp:Nat->Bool}{held:Bool}
theorem Tj:Tryz.prog.cellsOf 9=1:=by kernel_rfl
theorem aFl:Tryz.prog.cellsOf 3=1:=by kernel_rfl
theorem aFm:Tryz.prog.cellsOf 22=1:=by kernel_rfl
theorem aFn:Tryz.prog.cellsOf 23=1:=by kernel_rfl
theorem Tk:Tryz.prog.cellsOf 25=4:=by kernel_rfl
def uV {H:Type} (y:aA):DataW H:= .lit (.string y)
theorem Tl {fuel:Nat}{cs:List Value}{x:DataW H×List MemPlace} (h:DataW.trod enc Tryz.prog w base sp held fuel 9 cs=some x): ∃y:aA,cs= [.string (bs y)]/\x=(uV y,[]):=by
 obtain⟨t,a,rfl,_⟩:=DataW.trod_string Tryz.underlying9 h;exact⟨t.data.toList,by rw[a,wN],rfl⟩
theorem Tm: ∀l:List aA,bN l+l.length<=Rows.uptoBulkAll (l.map (uV (H:=H)))
 | []=>aD _
 | y::l=>by
  have:=Tm l;rw[lQ,Rows.uptoBulkAll,aL,Cw];simp only[uV,Rows.uptoBulk];omega
theorem aFo {fuel:Nat}{v:Value}{d:DataW H}{p:List MemPlace} (hf:DataW.trod enc Tryz.prog w base sp held fuel 22 [v]=some (d,p)):
  ∃l:List aA,SV w v l/\bN l+l.length<=Rows.uptoBulk d:=by
 rcases Deep.open_slice Tryz.underlying22 hf with⟨z,e⟩ | ⟨a,len,cap,m,n,D,Pl,z,hb,E,hm,r,e,I⟩
 ·obtain rfl:=List.head_eq_of_cons_eq z;exact⟨[],⟨none,0,rfl,aD _, .inl rfl⟩,cH _⟩
 ·obtain rfl:=List.head_eq_of_cons_eq z;have hle:len<=m:=by rw[r];split<;>omega
  obtain⟨Y,u⟩:=Deep.choose_lt (α:=aA) (n:=len) (p:=λi y=>w.cells? base (a.add (i*1)) 1=some [.string (bs y)]/\D i=uV y) (λi h=>by obtain⟨cs,C,G⟩:=I i (by omega);obtain⟨y,rfl,K⟩:=Tl G;rw[Tj] at C;exact⟨y,C,congrArg Prod.fst K⟩);have F:d= .slice (((List.range len).map Y).map uV) ((List.range (m-len)).map λj=>D (len+j)):=by
   have:=congrArg Prod.fst e;simp only[] at this;rw[this,List.map_map];congr 1;exact List.map_congr_left λi h=>(u i (List.mem_range.1 h)).2
  refine⟨(List.range len).map Y,⟨some a,cap,by simp,by simpa using E,?_⟩,?_⟩
  ·cases len with
   | zero=>exact .inl rfl
   | succ k=>
    right;have A:a.spot=none:=by
     obtain⟨_,_,c⟩:=World.cells?_some (u 0 (by omega)).1;have:=c 0 (by omega);rw[Nat.zero_mul] at this;unfold World.cell? Addr.add at this;simp only[if_true] at this;split at this
     ·split at this
      ·simp at this
      ·rename_i J;simpa using J
     ·simp at this
    obtain⟨g,o,s⟩:=a;obtain rfl:s=none:=A;have f: ∀i j,((⟨g,o,none⟩:Addr).add i).add j=⟨g,o+i+j,none⟩:=λi j=>by unfold Addr.add;split<;>split<;>simp_all
    have b: ∀i,i<k+1->w.cell? ⟨g,o+i,none⟩=some (.string (bs (Y i))):=λi h=>by
     obtain⟨_,_,c⟩:=World.cells?_some (u i h).1;have c0:=c 0 (by omega);rw[f,Nat.mul_one,Nat.add_zero] at c0;exact c0
    refine⟨g,o,rfl,qZ (b 0 (by omega)),λj x e=>?_⟩;rw[cW] at e;obtain⟨i,B,rfl⟩:=nU.1 e;obtain⟨t,q⟩:=aP.1 B;simp at q t;subst q;exact b _ (by omega)
  ·rw[F,Rows.uptoBulk];have:=Tm (H:=H) ((List.range len).map Y);omega
theorem Tn: ∀(l:List VT) (ds:List (DataW H)),ds.length=l.length->(∀(i:Nat) (y:VT),l[i]?=some y-> ∃d,ds[i]?=some d/\y.bulk<=Rows.uptoBulk d)->aY l<=Rows.uptoBulkAll ds
 | [],ds,_,_=>by rw[aY];omega
 | y::l,ds,hl,h=>by
  cases ds with
  | nil=>simp at hl
  | cons d ds=>
   have ih:=Tn l ds (by simpa using hl) (λi z a=>by have:=h (i+1) z (by simpa using a);simpa using this);obtain⟨d0,b,h2⟩:=h 0 y rfl;obtain rfl:d=d0:=(by simpa using b);rw[aY,Rows.uptoBulkAll];omega
instance:Inhabited (VT×Value×Value):=⟨(.mk 0 [] [] [], .nilFunc, .nilFunc)⟩
theorem aFp: ∀(N:Nat) (d:DataW H),SizeOf.sizeOf d<=N-> ∀(fuel:Nat) (cs:List Value) (p:List MemPlace),DataW.trod enc Tryz.prog w base sp held fuel 25 cs=some (d,p)->
  ∃y:VT×Value×Value,cs= [.int .i64 y.1.kind, .string (bs y.1.text),y.2.1,y.2.2]/\VD w y.1.depth y.1 y.2.1 y.2.2/\y.1.bulk<=Rows.uptoBulk d:=by
 intro N
 induction N with
 | zero=>
  intro d L;exfalso;cases d<;>simp at L
 | succ N ih=>
  intro d L fuel cs p h;obtain⟨xs,n,_,O,B,X,F⟩:=DataW.trod_struct Tryz.underlying25 h;have I:=B.trans Tk
  match cs,I with
  | [c0,c1,c2,c3],_=>
  match xs,X with
  | [y0,y1,y2,y3],_=>
  have e0:DataW.trod enc Tryz.prog w base sp held n 3 (([c0,c1,c2,c3].drop 0).take (Tryz.prog.cellsOf 3))=some y0:=F 0 _ rfl;have e1:DataW.trod enc Tryz.prog w base sp held n 9 (([c0,c1,c2,c3].drop 1).take (Tryz.prog.cellsOf 9))=some y1:=F 1 _ rfl;have e2:DataW.trod enc Tryz.prog w base sp held n 22 (([c0,c1,c2,c3].drop 2).take (Tryz.prog.cellsOf 22))=some y2:=F 2 _ rfl;have e3:DataW.trod enc Tryz.prog w base sp held n 23 (([c0,c1,c2,c3].drop 3).take (Tryz.prog.cellsOf 23))=some y3:=F 3 _ rfl;simp only[aFm,Tj,aFl,aFn,List.drop_zero,List.drop_succ_cons,List.take_succ_cons,List.take_zero,List.take_nil] at e0 e1 e2 e3;obtain⟨k,hk,rfl,_⟩:=DataW.trod_int Tryz.underlying3 e0;obtain rfl:=List.head_eq_of_cons_eq hk;obtain⟨s,R,rfl⟩:=Tl e1;obtain rfl:=List.head_eq_of_cons_eq R;obtain⟨d2,p2⟩:=y2;obtain⟨d3,p3⟩:=y3;obtain⟨ks,V,hkb⟩:=aFo e2;obtain rfl:d= .agg [.lit (.int .i64 k),uV s,d2,d3]:=congrArg Prod.fst O;have A:SizeOf.sizeOf d3<=N:=by
   simp at L;omega
  have key: ∃(l:List VT),(∃p c,c3= .slice p l.length c/\l.length<=c/\(l= []\/ ∃g o,p=some ⟨g,o,none⟩/\g<w.heap.size/\ ∀(j:Nat) (x:VT),l[j]?=some x-> ∃kv' iv',w.cell? ⟨g,o+j*4,none⟩=some (.int .i64 x.kind)/\w.cell? ⟨g,o+j*4+1,none⟩=some (.string (bs x.text))/\w.cell? ⟨g,o+j*4+2,none⟩=some kv'/\w.cell? ⟨g,o+j*4+3,none⟩=some iv'/\VD w (cC l) x kv' iv'))/\aY l<=Rows.uptoBulk d3:=by
   rcases Deep.open_slice Tryz.underlying23 e3 with⟨S,r⟩ | ⟨a,len,cap,m,n',D,Pl,S,hb,T,hm,W,r,hi⟩
   ·obtain rfl:=List.head_eq_of_cons_eq S;exact⟨[],⟨none,0,rfl,aD _, .inl rfl⟩,by rw[aY];omega⟩
   ·obtain rfl:=List.head_eq_of_cons_eq S;have hle:len<=m:=by rw[W];split<;>omega
    have u:d3= .slice ((List.range len).map D) ((List.range (m-len)).map λj=>D (len+j)):=by
     have:=congrArg Prod.fst r;simpa using this
    have U: ∀i,i<len->SizeOf.sizeOf (D i)<=N:=λi h=>by
     have G:D i∈(List.range len).map D:=pJ.2 ⟨i,List.mem_range.2 h,rfl⟩;have I:=List.sizeOf_lt_of_mem G;rw[u] at A;simp at A;omega
    obtain⟨Y,J⟩:=Deep.choose_lt (α:=VT×Value×Value) (n:=len) (p:=λi y=>w.cells? base (a.add (i*4)) 4=some [.int .i64 y.1.kind, .string (bs y.1.text),y.2.1,y.2.2]/\VD w y.1.depth y.1 y.2.1 y.2.2/\y.1.bulk<=Rows.uptoBulk (D i)) (λi h=>by obtain⟨cs,G,I⟩:=hi i (by omega);obtain⟨y,rfl,K,hb⟩:=ih (D i) (U i h) _ _ _ I;rw[Tk] at G;exact⟨y,G,K,hb⟩);refine⟨((List.range len).map Y).map (·.1),⟨some a,cap,by simp,by simpa using T,?_⟩,?_⟩
    ·cases len with
     | zero=>exact .inl rfl
     | succ k'=>
      right;have Z:a.spot=none:=by
       obtain⟨_,_,e⟩:=World.cells?_some (J 0 (by omega)).1;have:=e 0 (by omega);rw[Nat.zero_mul] at this;unfold World.cell? Addr.add at this;simp only[if_true] at this;split at this
       ·split at this
        ·simp at this
        ·rename_i R;simpa using R
       ·simp at this
      obtain⟨g,o,sx⟩:=a;obtain rfl:sx=none:=Z;have v: ∀i j,((⟨g,o,none⟩:Addr).add i).add j=⟨g,o+i+j,none⟩:=λi j=>by unfold Addr.add;split<;>split<;>simp_all
      have b: ∀i,i<k'+1->w.cell? ⟨g,o+i*4,none⟩=some (.int .i64 (Y i).1.kind)/\w.cell? ⟨g,o+i*4+1,none⟩=some (.string (bs (Y i).1.text))/\w.cell? ⟨g,o+i*4+2,none⟩=some (Y i).2.1/\w.cell? ⟨g,o+i*4+3,none⟩=some (Y i).2.2:=λi h=>by
       obtain⟨_,_,e⟩:=World.cells?_some (J i h).1;have c0:=e 0 (by omega);have c1:=e 1 (by omega);have c2:=e 2 (by omega);have c3:=e 3 (by omega);rw[v] at c0 c1 c2 c3;exact⟨c0,c1,c2,c3⟩
      refine⟨g,o,rfl,qZ (b 0 (by omega)).1,λj x r=>?_⟩;have Q:=bA r;rw[cW] at r;obtain⟨z,t,rfl⟩:=nU.1 r;rw[cW] at t;obtain⟨i,aa,rfl⟩:=nU.1 t;obtain⟨E,f⟩:=aP.1 aa;simp at f E;subst f;have C:=(J j (by omega)).2.1.more (cC (((List.range (k'+1)).map Y).map (·.1))-(Y j).1.depth);have hdm:=zM Q;rw[show (Y j).1.depth+(cC (((List.range (k'+1)).map Y).map (·.1))-(Y j).1.depth)=cC (((List.range (k'+1)).map Y).map (·.1)) by omega] at C;exact⟨(Y j).2.1,(Y j).2.2,(b _ (by omega)).1,(b _ (by omega)).2.1,(b _ (by omega)).2.2.1,(b _ (by omega)).2.2.2,C⟩
    ·rw[u,Rows.uptoBulk];have:=Tn (H:=H) (((List.range len).map Y).map (·.1)) ((List.range len).map D) (by simp) (λi y K=>by
      rw[cW] at K;obtain⟨z,t,rfl⟩:=nU.1 K;rw[cW] at t;obtain⟨k',q,rfl⟩:=nU.1 t;have M:i=k':=by
       obtain⟨E,f⟩:=aP.1 q;simpa using f
      have P:=(aP.1 q).1;subst M;exact⟨D i,by rw[cW,q];rfl,(J i (by simpa using P)).2.2⟩)
     omega
  obtain⟨l,T,hlb⟩:=key;refine⟨(.mk k s ks l,c2,c3),rfl,?_,?_⟩
  ·rw[VT.depth];exact⟨V,T⟩
  ·rw[VT.bulk];simp only[Rows.uptoBulk,Rows.uptoBulkAll,uV];omega
theorem aFq {r:Reach}{b0:Nat}{v:Value}{d:DataW H}{p:List MemPlace} (hv:Value.okWide Tryz.prog w r b0 25 v) (h:DataW.Trod enc Tryz.prog w base sp held 25 v d p):
  ∃(t:VT) (kv iv:Value),v=vv t kv iv/\VD w t.depth t kv iv/\t.bulk<=Rows.uptoBulk d:=by
 obtain⟨cs,rfl,hsz⟩:=okWide_struct Tryz.underlying25 hv;obtain⟨fuel,f⟩:=h;obtain⟨⟨t,kv,iv⟩,b,a,c⟩:=aFp _ d (aD _) _ _ _ f;refine⟨t,kv,iv,?_,a,c⟩;unfold vv;congr 1;have e:(Value.agg cs).cells=cs:=rfl;rw[e] at b;exact Array.toList_inj.1 b
end
end
end Go.Proofs.YtjnooaljcgkfpaaGreatDoor
