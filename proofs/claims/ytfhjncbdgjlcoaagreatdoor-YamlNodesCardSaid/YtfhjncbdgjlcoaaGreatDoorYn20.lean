import Derived.Test.YtfhjncbdgjlcoaaGreatDoorYn19
set_option linter.unusedVariables false
set_option linter.unusedSimpArgs false
set_option maxRecDepth 100000
set_option maxHeartbeats 4000000
namespace Go.Proofs.YtfhjncbdgjlcoaaGreatDoor
open Tryz
open Go.RowKit
open Go.Lib hiding intOf
def wT (x:aV):Value:= .agg #[x.kind,x.ind,x.fr,x.til,x.kf,x.kt,x.rf,x.rt,()]
def gD (x:aV):Array Value:= #[x.kind,x.ind,x.fr,x.til,x.kf,x.kt,x.rf,x.rt,()]
theorem Gb (x:aV): ∀u∈(gD x).toList,u.oneCell'=true:=by
 intro u a;simp only[gD,fT,List.not_mem_nil,or_false] at a;rcases a with rfl|rfl|rfl|rfl|rfl|rfl|rfl|rfl|rfl<;>rfl
theorem YK.nodeA {T:TypeId}{Pr:aO}{w0 w' W0:World}{P:Nat}{txt:aB}{sp:List (Nat×Nat)}{lines:List aS}{z:List YN}{tot:Nat}{a er:Int}{sv lv nv:Value} (h:YK T Pr w0 P txt sp lines z tot a er sv lv nv W0) {x:aV} (hx:x.kids= []) {c:Value} (hp:bW 45 w0.heap.size nv z.length (iT z) (gD x) P 3 W0 3 c w'):
  ∃g cap,YK T Pr w0 P txt sp lines (z++ [(x, .slice none 0 0)]) tot a er sv lv (.slice (some ⟨g,0,none⟩) (z.length+1) cap) w':=by
 obtain⟨c,w2,⟨w1,e,b,f,d,g,cap,rfl⟩,rfl⟩:=hp;exact⟨g,cap,(h.keep e).node hx (H:=w1.heap.size+1) (Nat.le_succ _) b f d⟩
theorem YK.ndSlice {T:TypeId}{Pr:aO}{w0 w:World}{P:Nat}{txt:aB}{sp:List (Nat×Nat)}{lines:List aS}{z:List YN}{tot:Nat}{a er:Int}{sv lv nv:Value} (h:YK T Pr w0 P txt sp lines z tot a er sv lv nv w): ∃p cap,nv= .slice p z.length cap:=by
 rcases h.nod.row.2 with⟨h0,h1⟩ | ⟨g,cap,ec,h1,h2,h3,h4,_⟩
 .exact bi
 .exact bn
theorem infoYnode:(prog.info? 45).map (λi=>(i.zero,i.size,i.bytes))=some (some (.agg #[(0:Int),(0:Int),(0:Int),(0:Int),(0:Int),(0:Int),(0:Int),(0:Int),()]),9,88):=d'
theorem kD {w:World}{X:Nat}{a0 a1 a2 a3 a4 a5 a6 a7 a8:Value}{t:TypeId} (hb:w.heap[X]?=some (.cells #[a0,a1,a2,a3,a4,a5,a6,a7,a8] t)):w.cell? (X,0)=some a0/\w.cell? (X,1)=some a1/\w.cell? (X,2)=some a2/\w.cell? (X,3)=some a3/\w.cell? (X,4)=some a4/\w.cell? (X,5)=some a5/\w.cell? (X,6)=some a6/\w.cell? (X,7)=some a7/\w.cell? (X,8)=some a8:=by
 refine⟨?_,?_,?_,?_,?_,?_,?_,?_,?_⟩<;>simp[World.cell?,hb]
def sH (T:TypeId) (Pr:aO) (w0:World) (P:Nat) (txt:aB) (sp:List (Nat×Nat)) (R:YR) (e:Ending) (w':World):Prop:=match R with
 | .ok n st=>e= .returned (.tuple #[n,true])/\YJ T Pr w0 P txt sp st 0 0 w'
 | .bad a er=>e= .returned (.tuple #[(0:Int),false])/\gH T Pr w0 P txt sp a er w'
theorem Nm {Pr:aO}{w0:World}{P:Nat}{txt:aB}{sp:List (Nat×Nat)}{st:YS} (x:aV) (lv:Nat) (lev a:Int) (w:World) (h:YJ YP Pr w0 P txt sp st 0 0 w) (hx:x.kids= []) (hl:Hid (lev=33-(lv:Int))) (hlv:lv<=32) (hN:st.nodes.length<=4096):
  Calls prog 77 #[some P,wT x,lev,a] w (sH YP Pr w0 P txt sp (gC x lv a st)):=by
 have RE:=trivial;exact PM
theorem Nn {Pr:aO}{w0:World}{P:Nat}{txt:aB}{sp:List (Nat×Nat)}{st:YS} (x:aV) (lv:Nat) (lev a:Int) (w:World) (h:YJ YP Pr w0 P txt sp st 0 0 w) (hx:x.kids= []) (hl:Hid (lev=33-(lv:Int))) (hlv:lv<=32) (hN:st.nodes.length<=4096):
  Calls prog 77 #[some P,wT x,lev,a] w (fG YP Pr w0 P txt sp (gC x lv a st)):=by
 refine(Nm x lv lev a w h hx hl hlv hN).mono (λe w' c=>?_);exact FO
theorem Wr.good {del:Bool}{l:aC}{p W:Nat} (h:Wr del l p W) (hp:p<l.length):
  ((fP (bs l) p=false\/(l[p]'hp).toNat<32\/(del=true/\(l[p]'hp).toNat=127))->W=p)/\(fP (bs l) p=true-> ¬(l[p]'hp).toNat<32-> ¬(del=true/\(l[p]'hp).toNat=127)->Wr del l (p+bN (bs l) p) W):=by
 have d:=h.step hp;have e:=nF (bs l) p;rw[aY] at e;have b:=Dh (l.drop (p+1)) (l[p]'hp);rw[<-gB hp,e] at b;rw[e] at d;have k:iY (Utf8.decode (bs l) p)=(decide ((l[p]'hp).toNat<32)||!fP (bs l) p):=by
  unfold iY fP bU bN;rw[Bool.not_not,show decide ((Utf8.decode (bs l) p).1<32)=decide ((l[p]'hp).toNat<32) from by rw[decide_eq_decide];exact b];congr 1;rw[Bool.eq_iff_iff];simp;omega
 have a:(l[p]'hp==127)=decide ((l[p]'hp).toNat=127):=by
  rw[Bool.eq_iff_iff,beq_iff_eq,kB];exact⟨λh=>by rw[h];rfl,λh=>UInt8.toNat_inj.1 h⟩
 rw[k,a] at d;refine⟨λc=>d.1 ?_,λj i m=>d.2 ?_⟩
 .rcases c with c | c | ⟨f,g⟩
  .rw[c];simp
  .rw[aQ c];rfl
  .rw[f,aQ g];simp
 .rw[j,aJ i];cases del with
  | false=>rfl
  | true=>rw[aJ (λh=>m ⟨rfl,h⟩)];rfl
theorem wU (l:aC) (del:Bool) (w:World) (hs:l.length<=1073741824):
  Calls prog 64 #[bs l,del] w λe w'=>e= .returned (.int .i64 (dI del l))/\w=w':=by
 have sl:=aP l;obtain⟨W,hW⟩:=exQ<|dI del l;have HZ:=hid (Wr.zero del l);rw[hW] at HZ ⊢;clear hW;go_in;go_wp2;go_loop [5] (λs5=> ∃p:Nat,s5= .int .i64 p/\p<=l.length/\Hid (Wr del l p W)) (λs5=>l.length-(RowKit.intOf s5).toNat)
 case atStart=>exact⟨0,rfl,a_,HZ.out⟩
 case round=>
  obtain⟨p,rfl,hp,HB⟩:=hrel;by_cases hlt:p<l.length
  .have d:p<(bs l).size:=a_;have r:=cT l p d;rw[bI hlt] at r;have G:(bs l)[p]'d=l[p]'hlt:=(by simpa using r.symm);obtain⟨o,s⟩:=HB.out.good hlt;rw[<-G] at o s;obtain⟨c,hc⟩:=exQ<|(bs l)[p]'d;rw[hc] at o s;obtain⟨n,hn⟩: ∃n:Int,(c.toNat:Int)=n:=⟨_,rfl⟩;have hge3:(((bs l)[p]'d).toNat:Int)=n:=(by rw[hc,hn]);have CG:=hid (λw=>wH (bs l) p w d a_);have CN:=hid (λw=>wG (bs l) p w d a_);have Y:=mJ (bs l) p d;obtain⟨GB,L⟩:=exQ<|fP (bs l) p;obtain⟨RU,K⟩:=exQ<|bU (bs l) p;obtain⟨WD,I⟩:=exQ<|bN (bs l) p;rw[L] at CG o s;rw[K,I] at CN;rw[I] at Y s;clear r G hc L K I;cases GB with
   | false=>
    have u:=hid (o (.inl rfl));clear o s;exact iw
   | true=>
    by_cases h3:n<32
    .have u:=hid (o (.inr (.inl a_)));clear o s;exact iw
    .have d3:decide (n<32)=false:=aJ h3;cases del with
     | false=>
      have t:=hid (s rfl a_ e_);clear o s;exact jr
     | true=>
      by_cases h4:n=127
      .have u:=hid (o (.inr (.inr ⟨rfl,a_⟩)));have t4:(n==127)=true:=beq_iff_eq.2 h4;clear o s h4;exact iw
      .have t:=hid (s rfl a_ (by rintro⟨_,h⟩;omega));have t4:(n==127)=false:=aI.2 h4;clear o s h4;exact jr
  .have u:=hid (HB.out.fin a_);go_wp2;exact aa
theorem aAe (l:aC) (i:Nat) (hi:i<l.length):iY (decodeL (l.drop i))=(decide ((l[i]'hi).toNat<32)||!fP (bs l) i):=by
 have b:=nF (bs l) i;rw[aY] at b;have a:=Dh (l.drop (i+1)) (l[i]'hi);rw[<-gB hi,b] at a;rw[b];unfold iY fP bU bN;rw[Bool.not_not,show decide ((Utf8.decode (bs l) i).1<32)=decide ((l[i]'hi).toNat<32) from by rw[decide_eq_decide];exact a];congr 1;rw[Bool.eq_iff_iff];simp;omega
theorem No (l:aC) (a:Int) (w:World) (hs:l.length<=1073741824):
  Calls prog 58 #[bs l,a] w λe w'=>e=iF (iJ l a)/\w=w':=by
 have R0:=trivial;exact G3
theorem Bw (l:aC) (w:World) (hs:l.length<=1073741824):
  Calls prog 65 #[bs l] w (aT w (.int .i64 (dA l))):=G0
theorem Np (l:aC) (a:Nat) (w:World) (hs:l.length<=1073741824) (ha:a<=l.length):
  Calls prog 67 #[bs l,a] w λe w'=>e= .returned (.int .i64 (eO l a))/\w=w':=by
 have sl:=aP l;obtain⟨R,B⟩:=exQ<|eO l a;rw[B];unfold eO at B;obtain⟨m,J⟩:=exQ<|max a 1;have O:1<=m:=a_
 have Z:m<=l.length+1:=a_
 have P:max (a:Int) 1=(m:Int):=a_
 rw[J] at B;have S:=hid B;have ab:(a:Int)<=(l.length:Int):=a_
 clear B J;go_in;go_wp2;go_loop [5] (λs3=> ∃k f:Nat,s3= .int .i64 k/\1<=k/\k<=l.length+1/\l.length<k+f/\Hid (oD l f k=R)) (λs3=>l.length+1-(RowKit.intOf s3).toNat)
 case atStart=>exact⟨m,l.length+1,rfl,O,Z,a_,S.out⟩
 case round=>
  obtain⟨k,f,rfl,hk1,hk2,hf,t⟩:=hrel;have q:=t.out;by_cases hlt:k<l.length
  .have d:k<(bs l).size:=a_;obtain⟨j,rfl⟩: ∃j,k=j+1:=⟨k-1,a_⟩;have E:j<(bs l).size:=a_;obtain⟨g,rfl⟩: ∃g,f=g+1:=⟨f-1,a_⟩;have T1:=gJ ((bs l)[j+1]'d) 35 35 rfl;have T2:=gJ ((bs l)[j]'E) 32 32 rfl;have e1:=cT l (j+1) d;have e2:=cT l j E;unfold oD at q;rw[if_neg a_,Nat.add_sub_cancel,e1,e2] at q;obtain⟨x,H⟩:=exQ<|(bs l)[j+1]'d;obtain⟨y,Q⟩:=exQ<|(bs l)[j]'E;rw[H] at T1 q;rw[Q] at T2 q;have T:(((bs l)[j+1]'d).toNat:Int)=(x.toNat:Int):=(by rw[H]);have V:(((bs l)[j]'E).toNat:Int)=(y.toNat:Int):=(by rw[Q]);obtain⟨xi,F⟩: ∃xi:Int,(x.toNat:Int)=xi:=⟨_,rfl⟩;obtain⟨yi,C⟩: ∃yi:Int,(y.toNat:Int)=yi:=⟨_,rfl⟩;rw[F] at T1 T;rw[C] at T2 V;have hj1:((j+1:Nat):Int)=(j:Int)+1:=a_;by_cases h1:x=35
   .rw[show (x==35)=true from beq_iff_eq.2 h1] at T1;by_cases h2:y=32
    .rw[show (y==32)=true from beq_iff_eq.2 h2] at T2;rw[if_pos ⟨by rw[h1],by rw[h2]⟩] at q;have u:=hid q;clear q t e1 e2 H Q F C h1 h2;go_wp2;go_ret;exact⟨nE (by rw[<-u.out];omega),rfl⟩
    .rw[show (y==32)=false from aI.2 h2] at T2;rw[if_neg (λh=>h2 (by simpa using h.2))] at q;have v:=hid q;clear q t e1 e2 H Q F C h1 h2;exact k8
   .rw[show (x==35)=false from aI.2 h1] at T1;rw[if_neg (λh=>h1 (by simpa using h.1))] at q;have v:=hid q;clear q t e1 e2 H Q F C h1;exact k8
  .have u:Hid (R=l.length):=by
    cases f with
    | zero=>exact hid q.symm
    | succ f=>unfold oD at q;rw[if_pos a_] at q;exact hid q.symm
   clear q t;go_wp2;exact aa
theorem aAf (l:aC) (k:Nat) (w:World) (hs:l.length<=1073741824) (hk:k<=1073741824):
  Calls prog 101 #[bs l,k] w λe w'=>e= .returned (.bool (gZ l k 58))/\w=w':=H9
def Nq (h:Nat×Nat):Ending:= .returned (.tuple #[h.2,h.1])
theorem By (l:aC) (k:Nat) (ki:Int) (B:Bool) (hki:(k:Int)=ki) (hB:gZ l k 58=B) (hs:l.length<=1073741824) (hk:k<=1073741824) (w:World):
  Calls prog 101 #[bs l,ki] w λe w'=>e= .returned (.bool B)/\w=w':=by
 subst hki hB;exact aAf l k w hs hk
theorem aAg (l:aC) (h0:0<l.length):(gZ l 0 45=true->l.head?=some 45/\(l.length=1\/l[1]?=some 32))/\(gZ l 0 45=false->l.head?≠some 45\/(l.head?=some 45/\l.length≠1/\l[1]?≠some 32)):=by
 unfold gZ;rw[List.head?_eq_getElem?];have a:l[0+1]?=none↔l.length<=1:=Jv;constructor
 .intro h;simp only[fQ,Bool.or_eq_true,beq_iff_eq] at h;refine⟨h.1,?_⟩;rcases h.2 with h | h
  .left;have:=a.1 h;omega
  .right;exact h
 .intro h;by_cases h1:l[0]?=some 45
  .right;simp only[Bool.and_eq_false_iff,Bool.or_eq_false_iff,aI] at h;rcases h with h | h
   .exact absurd h1 h
   .refine⟨h1,λe=>h.1 (a.2 a_),h.2⟩
  .left;exact h1
theorem aAh (l:aC) (h0:0<(bs l).size) (x:Int) (hx:(((bs l)[0]'h0).toNat:Int)=x):
  (gZ l 0 45=true->(x==45)=true/\((((l.length:Int)==1)=true)\/((((l.length:Int)==1)=false)/\ ∃h1:1<(bs l).size,((((bs l)[1]'h1).toNat:Int)==32)=true)))/\
  (gZ l 0 45=false->(x==45)=false\/((x==45)=true/\((l.length:Int)==1)=false/\ ∃h1:1<(bs l).size,((((bs l)[1]'h1).toNat:Int)==32)=false)):=by
 have sl:=aP l;have T:=iX l 45 45 rfl h0;rw[hx] at T;obtain⟨a,b⟩:=aAg l a_;constructor
 .intro h;obtain⟨h1,d⟩:=a h;refine⟨by rw[T,h1];rfl,?_⟩;by_cases hl:l.length=1
  .left;exact beq_iff_eq.2 a_
  .right;have c:1<(bs l).size:=a_;refine⟨aI.2 a_,c,?_⟩;rcases d with d | d
   .exact absurd d hl
   .rw[cT l 1 c] at d;rw[gJ _ 32 32 rfl];simpa using d
 .intro h;rcases b h with h1 | ⟨h1,d,e⟩
  .left;rw[T];exact aI.2 h1
  .right;have c:1<(bs l).size:=a_;refine⟨by rw[T,h1];rfl,aI.2 a_,c,?_⟩;rw[cT l 1 c] at e;rw[gJ _ 32 32 rfl];simpa using e
theorem aAi (l:aC) (w:World) (hne:l≠ []) (hs:l.length<=1073741824):
  Calls prog 66 #[bs l] w λe w'=>e=Nq (fD l)/\aA w w':=by
 have L2:=trivial;exact H5
end Go.Proofs.YtfhjncbdgjlcoaaGreatDoor
