import Derived.Test.YtfhjncbdgjlcoaaGreatDoorYa19
set_option maxRecDepth 100000
set_option maxHeartbeats 4000000
set_option linter.unusedVariables false
set_option linter.unusedSimpArgs false
namespace Go.Proofs.YtfhjncbdgjlcoaaGreatDoor
open Go.RowKit
open Go.Lib hiding intOf
def wG (x:bA):Value:= .agg #[x.kind,x.ind,x.fr,x.til,x.kf,x.kt,x.rf,x.rt,()]
def fO (x:bA):Array Value:= #[x.kind,x.ind,x.fr,x.til,x.kf,x.kt,x.rf,x.rt,()]
theorem Fh (x:bA): ∀u∈(fO x).toList,u.oneCell'=true:=by
 intro u a;simp only[fO,fY,List.not_mem_nil,or_false] at a;rcases a with rfl|rfl|rfl|rfl|rfl|rfl|rfl|rfl|rfl<;>rfl
theorem YK.nodeA {T:TypeId}{Pr:aJ}{w0 w' W0:World}{P:Nat}{txt:aA}{sp:List (Nat×Nat)}{lines:List aP}{z:List YN}{tot:Nat}{a er:Int}{sv lv nv:Value} (h:YK T Pr w0 P txt sp lines z tot a er sv lv nv W0) {x:bA} (hx:x.kids= []) {c:Value} (hp:bM 45 w0.heap.size nv z.length (iC z) (fO x) P 3 W0 3 c w'):
  ∃g cap,YK T Pr w0 P txt sp lines (z++ [(x, .slice none 0 0)]) tot a er sv lv (.slice (some ⟨g,0,none⟩) (z.length+1) cap) w':=by
 obtain⟨c,w2,⟨w1,e,b,f,d,g,cap,rfl⟩,rfl⟩:=hp;exact⟨g,cap,(h.keep e).node hx (H:=w1.heap.size+1) (Nat.le_succ _) b f d⟩
theorem YK.ndSlice {T:TypeId}{Pr:aJ}{w0 w:World}{P:Nat}{txt:aA}{sp:List (Nat×Nat)}{lines:List aP}{z:List YN}{tot:Nat}{a er:Int}{sv lv nv:Value} (h:YK T Pr w0 P txt sp lines z tot a er sv lv nv w): ∃p cap,nv= .slice p z.length cap:=by
 rcases h.nod.row.2 with⟨h0,h1⟩ | ⟨g,cap,dL,h1,h2,h3,h4,_⟩
 ·exact ax
 ·exact ay
theorem Tryz.infoYnode:(Tryz.prog.info? 45).map (λi=>(i.zero,i.size,i.bytes))=some (some (.agg #[(0:Int),(0:Int),(0:Int),(0:Int),(0:Int),(0:Int),(0:Int),(0:Int),()]),9,88):=d'
theorem oJ {w:World}{X:Nat}{a0 a1 a2 a3 a4 a5 a6 a7 a8:Value}{t:TypeId} (hb:w.heap[X]?=some (.cells #[a0,a1,a2,a3,a4,a5,a6,a7,a8] t)):w.cell? ⟨X,0,none⟩=some a0/\w.cell? ⟨X,1,none⟩=some a1/\w.cell? ⟨X,2,none⟩=some a2/\w.cell? ⟨X,3,none⟩=some a3/\w.cell? ⟨X,4,none⟩=some a4/\w.cell? ⟨X,5,none⟩=some a5/\w.cell? ⟨X,6,none⟩=some a6/\w.cell? ⟨X,7,none⟩=some a7/\w.cell? ⟨X,8,none⟩=some a8:=by
 refine⟨?_,?_,?_,?_,?_,?_,?_,?_,?_⟩<;>simp[World.cell?,hb]
def rG (T:TypeId) (Pr:aJ) (w0:World) (P:Nat) (txt:aA) (sp:List (Nat×Nat)) (R:YR) (e:Ending) (w':World):Prop:=match R with
 | .ok n st=>e= .returned (.tuple #[n,true])/\YJ T Pr w0 P txt sp st 0 0 w'
 | .bad a er=>e= .returned (.tuple #[(0:Int),false])/\fS T Pr w0 P txt sp a er w'
theorem Ml {Pr:aJ}{w0:World}{P:Nat}{txt:aA}{sp:List (Nat×Nat)}{st:YS} (x:bA) (lv:Nat) (lev a:Int) (w:World) (h:YJ YP Pr w0 P txt sp st 0 0 w) (hx:x.kids= []) (hl:Hid (lev=33-(lv:Int))) (hlv:lv<=32) (hN:st.nodes.length<=4096):
  Calls Tryz.prog 77 #[some P,wG x,lev,a] w (rG YP Pr w0 P txt sp (fM x lv a st)):=by
 have xu:=trivial;exact qh
theorem Mm {Pr:aJ}{w0:World}{P:Nat}{txt:aA}{sp:List (Nat×Nat)}{st:YS} (x:bA) (lv:Nat) (lev a:Int) (w:World) (h:YJ YP Pr w0 P txt sp st 0 0 w) (hx:x.kids= []) (hl:Hid (lev=33-(lv:Int))) (hlv:lv<=32) (hN:st.nodes.length<=4096):
  Calls Tryz.prog 77 #[some P,wG x,lev,a] w (eT YP Pr w0 P txt sp (fM x lv a st)):=by
 refine(Ml x lv lev a w h hx hl hlv hN).mono (λe w' c=>?_);exact k7
theorem Wr.good {del:Bool}{l:List UInt8}{p W:Nat} (h:Wr del l p W) (hp:p<l.length):
  ((fB (bs l) p=false\/(l[p]'hp).toNat<32\/(del=true/\(l[p]'hp).toNat=127))->W=p)/\(fB (bs l) p=true-> ¬(l[p]'hp).toNat<32-> ¬(del=true/\(l[p]'hp).toNat=127)->Wr del l (p+bG (bs l) p) W):=by
 have d:=h.step hp;have g:=mB (bs l) p;rw[aQ] at g;have c:=Ci (l.drop (p+1)) (l[p]'hp);rw[<-fL hp,g] at c;rw[g] at d;have m:iF (Utf8.decode (bs l) p)=(decide ((l[p]'hp).toNat<32)||!fB (bs l) p):=by
  unfold iF fB bL bG;rw[Bool.not_not,show decide ((Utf8.decode (bs l) p).1<32)=decide ((l[p]'hp).toNat<32) from by rw[decide_eq_decide];exact c];congr 1;rw[Bool.eq_iff_iff];simp;omega
 have a:(l[p]'hp==127)=decide ((l[p]'hp).toNat=127):=by
  rw[Bool.eq_iff_iff,beq_iff_eq,jS];exact⟨λh=>by rw[h];rfl,λh=>UInt8.toNat_inj.1 h⟩
 rw[m,a] at d;refine⟨λb=>d.1 ?_,λk i j=>d.2 ?_⟩
 ·rcases b with b | b | ⟨e,f⟩
  ·rw[b];simp
  ·rw[aO b];rfl
  ·rw[e,aO f];simp
 ·rw[k,aG i];cases del with
  | false=>rfl
  | true=>rw[aG (λh=>j ⟨rfl,h⟩)];rfl
theorem wH (l:List UInt8) (del:Bool) (w:World) (hs:l.length<=1073741824):
  Calls Tryz.prog 64 #[bs l,del] w λe w'=>e= .returned (.int .i64 (cX del l))/\w=w':=by
 have sl:=aM l;obtain⟨W,hW⟩:=exQ<|cX del l;have HZ:=hid (Wr.zero del l);rw[hW] at HZ ⊢;clear hW;go_enter Tryz.func64,Tryz.ntmps64;go_wp2_with fail;go_loop [5] (λs5=> ∃p:Nat,s5= .int .i64 p/\p<=l.length/\Hid (Wr del l p W)) (λs5=>l.length-(RowKit.intOf s5).toNat)
 case atStart=>exact⟨0,rfl,a_,HZ.out⟩
 case round=>
  obtain⟨p,rfl,hp,HB⟩:=hrel;by_cases hlt:p<l.length
  ·have d:p<(bs l).size:=a_;have r:=cK l p d;rw[bC hlt] at r;have G:(bs l)[p]'d=l[p]'hlt:=(by simpa using r.symm);obtain⟨o,s⟩:=HB.out.good hlt;rw[<-G] at o s;obtain⟨c,hc⟩:=exQ<|(bs l)[p]'d;rw[hc] at o s;obtain⟨n,hn⟩: ∃n:Int,(c.toNat:Int)=n:=⟨_,rfl⟩;have hge3:(((bs l)[p]'d).toNat:Int)=n:=(by rw[hc,hn]);have CG:=hid (λw=>vX (bs l) p w d a_);have CN:=hid (λw=>vW (bs l) p w d a_);have Y:=lH (bs l) p d;obtain⟨GB,L⟩:=exQ<|fB (bs l) p;obtain⟨RU,P⟩:=exQ<|bL (bs l) p;obtain⟨WD,I⟩:=exQ<|bG (bs l) p;rw[L] at CG o s;rw[P,I] at CN;rw[I] at Y s;clear r G hc L P I;cases GB with
   | false=>
    have u:=hid (o (.inl rfl));clear o s;exact ii
   | true=>
    by_cases h3:n<32
    ·have u:=hid (o (.inr (.inl a_)));clear o s;exact ii
    ·have d3:decide (n<32)=false:=aG h3;cases del with
     | false=>
      have t:=hid (s rfl a_ e_);clear o s;exact ji
     | true=>
      by_cases h4:n=127
      ·have u:=hid (o (.inr (.inr ⟨rfl,a_⟩)));have t4:(n==127)=true:=beq_iff_eq.2 h4;clear o s h4;exact ii
      ·have t:=hid (s rfl a_ (by rintro⟨_,h⟩;omega));have t4:(n==127)=false:=aE.2 h4;clear o s h4;exact ji
  ·have u:=hid (HB.out.fin a_);go_wp2_with fail;exact aw
theorem Yl (l:List UInt8) (i:Nat) (hi:i<l.length):iF (decodeL (l.drop i))=(decide ((l[i]'hi).toNat<32)||!fB (bs l) i):=by
 have b:=mB (bs l) i;rw[aQ] at b;have a:=Ci (l.drop (i+1)) (l[i]'hi);rw[<-fL hi,b] at a;rw[b];unfold iF fB bL bG;rw[Bool.not_not,show decide ((Utf8.decode (bs l) i).1<32)=decide ((l[i]'hi).toNat<32) from by rw[decide_eq_decide];exact a];congr 1;rw[Bool.eq_iff_iff];simp;omega
theorem Mn (l:List UInt8) (a:Int) (w:World) (hs:l.length<=1073741824):
  Calls Tryz.prog 58 #[bs l,a] w λe w'=>e=gP (gT l a)/\w=w':=by
 have yt:=trivial;exact qy
theorem Az (l:List UInt8) (w:World) (hs:l.length<=1073741824):
  Calls Tryz.prog 65 #[bs l] w λe w'=>e= .returned (.int .i64 (cU l))/\Below w.heap.size w w':=qv
theorem Mo (l:List UInt8) (a:Nat) (w:World) (hs:l.length<=1073741824) (ha:a<=l.length):
  Calls Tryz.prog 67 #[bs l,a] w λe w'=>e= .returned (.int .i64 (dZ l a))/\w=w':=by
 have sl:=aM l;obtain⟨R,B⟩:=exQ<|dZ l a;rw[B];unfold dZ at B;obtain⟨m,J⟩:=exQ<|max a 1;have Q:1<=m:=a_
 have Z:m<=l.length+1:=a_
 have O:max (a:Int) 1=(m:Int):=a_
 rw[J] at B;have S:=hid B;have V:(a:Int)<=(l.length:Int):=a_
 clear B J;go_enter Tryz.func67,Tryz.ntmps67;go_wp2_with fail;go_loop [5] (λs3=> ∃k f:Nat,s3= .int .i64 k/\1<=k/\k<=l.length+1/\l.length<k+f/\Hid (nB l f k=R)) (λs3=>l.length+1-(RowKit.intOf s3).toNat)
 case atStart=>exact⟨m,l.length+1,rfl,Q,Z,a_,S.out⟩
 case round=>
  obtain⟨k,f,rfl,hk1,hk2,hf,t⟩:=hrel;have q:=t.out;by_cases hlt:k<l.length
  ·have d:k<(bs l).size:=a_;obtain⟨j,rfl⟩: ∃j,k=j+1:=⟨k-1,a_⟩;have D:j<(bs l).size:=a_;obtain⟨g,rfl⟩: ∃g,f=g+1:=⟨f-1,a_⟩;have T1:=fU ((bs l)[j+1]'d) 35 35 rfl;have T2:=fU ((bs l)[j]'D) 32 32 rfl;have e1:=cK l (j+1) d;have e2:=cK l j D;unfold nB at q;rw[if_neg a_,Nat.add_sub_cancel,e1,e2] at q;obtain⟨x,H⟩:=exQ<|(bs l)[j+1]'d;obtain⟨y,K⟩:=exQ<|(bs l)[j]'D;rw[H] at T1 q;rw[K] at T2 q;have aa:(((bs l)[j+1]'d).toNat:Int)=(x.toNat:Int):=(by rw[H]);have U:(((bs l)[j]'D).toNat:Int)=(y.toNat:Int):=(by rw[K]);obtain⟨xi,F⟩: ∃xi:Int,(x.toNat:Int)=xi:=⟨_,rfl⟩;obtain⟨yi,E⟩: ∃yi:Int,(y.toNat:Int)=yi:=⟨_,rfl⟩;rw[F] at T1 aa;rw[E] at T2 U;have hj1:((j+1:Nat):Int)=(j:Int)+1:=a_;by_cases h1:x=35
   ·rw[show (x==35)=true from beq_iff_eq.2 h1] at T1;by_cases h2:y=32
    ·rw[show (y==32)=true from beq_iff_eq.2 h2] at T2;rw[if_pos ⟨by rw[h1],by rw[h2]⟩] at q;have u:=hid q;clear q t e1 e2 H K F E h1 h2;go_wp2_with fail;go_ret;exact⟨mA (by rw[<-u.out];omega),rfl⟩
    ·rw[show (y==32)=false from aE.2 h2] at T2;rw[if_neg (λh=>h2 (by simpa using h.2))] at q;have z:=hid q;clear q t e1 e2 H K F E h1 h2;exact j0
   ·rw[show (x==35)=false from aE.2 h1] at T1;rw[if_neg (λh=>h1 (by simpa using h.1))] at q;have z:=hid q;clear q t e1 e2 H K F E h1;exact j0
  ·have u:Hid (R=l.length):=by
    cases f with
    | zero=>exact hid q.symm
    | succ f=>unfold nB at q;rw[if_pos a_] at q;exact hid q.symm
   clear q t;go_wp2_with fail;exact aw
theorem Ym (l:List UInt8) (k:Nat) (w:World) (hs:l.length<=1073741824) (hk:k<=1073741824):
  Calls Tryz.prog 101 #[bs l,k] w λe w'=>e= .returned (.bool (gN l k 58))/\w=w':=re
def Mp (h:Nat×Nat):Ending:= .returned (.tuple #[h.2,h.1])
theorem Ba (l:List UInt8) (k:Nat) (ki:Int) (B:Bool) (hki:(k:Int)=ki) (hB:gN l k 58=B) (hs:l.length<=1073741824) (hk:k<=1073741824) (w:World):
  Calls Tryz.prog 101 #[bs l,ki] w λe w'=>e= .returned (.bool B)/\w=w':=by
 subst hki hB;exact Ym l k w hs hk
theorem Yn (l:List UInt8) (h0:0<l.length):(gN l 0 45=true->l.head?=some 45/\(l.length=1\/l[1]?=some 32))/\(gN l 0 45=false->l.head?≠some 45\/(l.head?=some 45/\l.length≠1/\l[1]?≠some 32)):=by
 unfold gN;rw[List.head?_eq_getElem?];have a:l[0+1]?=none↔l.length<=1:=Iu;constructor
 ·intro h;simp only[fK,Bool.or_eq_true,beq_iff_eq] at h;refine⟨h.1,?_⟩;rcases h.2 with h | h
  ·left;have:=a.1 h;omega
  ·right;exact h
 ·intro h;by_cases h1:l[0]?=some 45
  ·right;simp only[Bool.and_eq_false_iff,Bool.or_eq_false_iff,aE] at h;rcases h with h | h
   ·exact absurd h1 h
   ·refine⟨h1,λe=>h.1 (a.2 a_),h.2⟩
  ·left;exact h1
theorem Yo (l:List UInt8) (h0:0<(bs l).size) (x:Int) (hx:(((bs l)[0]'h0).toNat:Int)=x):
  (gN l 0 45=true->(x==45)=true/\((((l.length:Int)==1)=true)\/((((l.length:Int)==1)=false)/\ ∃h1:1<(bs l).size,((((bs l)[1]'h1).toNat:Int)==32)=true)))/\
  (gN l 0 45=false->(x==45)=false\/((x==45)=true/\((l.length:Int)==1)=false/\ ∃h1:1<(bs l).size,((((bs l)[1]'h1).toNat:Int)==32)=false)):=by
 have sl:=aM l;have T:=iE l 45 45 rfl h0;rw[hx] at T;obtain⟨a,b⟩:=Yn l a_;constructor
 ·intro h;obtain⟨h1,d⟩:=a h;refine⟨by rw[T,h1];rfl,?_⟩;by_cases hl:l.length=1
  ·left;exact beq_iff_eq.2 a_
  ·right;have c:1<(bs l).size:=a_;refine⟨aE.2 a_,c,?_⟩;rcases d with d | d
   ·exact absurd d hl
   ·rw[cK l 1 c] at d;rw[fU _ 32 32 rfl];simpa using d
 ·intro h;rcases b h with h1 | ⟨h1,d,e⟩
  ·left;rw[T];exact aE.2 h1
  ·right;have c:1<(bs l).size:=a_;refine⟨by rw[T,h1];rfl,aE.2 a_,c,?_⟩;rw[cK l 1 c] at e;rw[fU _ 32 32 rfl];simpa using e
theorem Yp (l:List UInt8) (w:World) (hne:l≠ []) (hs:l.length<=1073741824):
  Calls Tryz.prog 66 #[bs l] w λe w'=>e=Mp (eO l)/\Below w.heap.size w w':=by
 have za:=trivial;exact rc
end Go.Proofs.YtfhjncbdgjlcoaaGreatDoor
